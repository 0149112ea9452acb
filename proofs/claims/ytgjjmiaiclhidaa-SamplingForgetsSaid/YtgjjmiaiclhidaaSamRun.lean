/- baseboardlaw14.run: contract. -/
import Derived.Test.YtgjjmiaiclhidaaSamS
import Derived.Test.YtgjjmiaiclhidaaSamR
import Derived.Test.YtgjjmiaiclhidaaCallBox1
import Derived.Test.YtgjjmiaiclhidaaBaseG
import Derived.BigGuardPart
namespace Go.Proofs.Ytgjjmiaiclhidaa
open Go.RowKit

/-- A sample, or the lack of one. -/
structure Tk where
  raw : Nat
  miss : Bool
instance : Inhabited Tk := ⟨⟨0, false⟩⟩
def RdTk (w : World) (v : Value) (L : List Tk) : Prop :=
  ∃ ad cap, v = .slice ad L.length cap ∧ L.length ≤ cap ∧ cap ≤ maxLen ∧ ∀ i, i < L.length → ∃ b off, ad = some ⟨b, off, none⟩ ∧ w.cell? ⟨b, off + i * 2, none⟩ = some (.int .u8 ((L.getD i default).raw : Nat)) ∧ w.cell? ⟨b, off + i * 2 + 1, none⟩ = some (.bool (L.getD i default).miss)
theorem RdTk.mods {S : List Nat} {w w' : World} {v : Value} {L : List Tk} (h : RdTk w v L) (hm : Mods S w w') (hn : L ≠ [] → ∀ k, v.ownBlock = some k → k ∉ S) : RdTk w' v L := by
  obtain ⟨ad, cap, rfl, h1, h2, hc⟩ := h
  refine ⟨ad, cap, rfl, h1, h2, fun i hi => ?_⟩
  obtain ⟨b, off, rfl, c0, c1⟩ := hc i hi
  have hb := hn (fun h => by rw [h] at hi; simp at hi) b rfl
  exact ⟨b, off, rfl, hm.cell c0 hb, hm.cell c1 hb⟩
theorem RdTk.mods0 {w w' : World} {v : Value} {L : List Tk} (h : RdTk w v L) (hm : Mods [] w w') : RdTk w' v L := h.mods hm fun _ _ _ => by simp
def runF (k : Int) (L : List Tk) : List Int × Int := L.foldl (fun f t => stepF k f.1 f.2 (t.raw : Nat) (!t.miss)) ([], 0)
theorem runF_snoc (k : Int) (L : List Tk) (t : Tk) : runF k (L ++ [t]) = stepF k (runF k L).1 (runF k L).2 (t.raw : Nat) (!t.miss) := by unfold runF; rw [List.foldl_append]; rfl
theorem bytes_of_mem {A : List Int} (h : ∀ x ∈ A, 0 ≤ x ∧ x ≤ 255) : Bytes A := fun i => by
  rcases Nat.lt_or_ge i A.length with hi | hi
  · rw [List.getD_eq_getElem?_getD, List.getElem?_eq_getElem hi]
    exact h _ (List.getElem_mem hi)
  · rw [List.getD_eq_getElem?_getD, List.getElem?_eq_none hi]
    simp
theorem nextW_mem {k : Int} {W : List Int} {r x : Int} (h : x ∈ nextW k W r) : x ∈ W ∨ x = r := by
  have h2 : x ∈ W ++ [r] := by
    unfold nextW at h
    split at h
    · exact List.mem_of_mem_drop h
    · exact h
  simpa using h2
theorem step_bytes {k : Int} {W : List Int} {n r : Int} {ok : Bool} (hb : Bytes W) (hr : 0 ≤ r ∧ r ≤ 255) : Bytes (stepF k W n r ok).1 := by
  refine bytes_of_mem fun x hx => ?_
  unfold stepF at hx
  split at hx
  · rcases nextW_mem hx with h | h
    · exact bytes_mem hb x h
    · rw [h]; exact hr
  · split at hx
    · cases hx
    · exact bytes_mem hb x hx
theorem flt_step {S : Sen} {P : List Pt} {W : List Int} {n r : Int} {ok : Bool} (h : fltB S P W n = true) : fltB S P (stepF S.samples W n r ok).1 (stepF S.samples W n r ok).2 = true := by
  have hs := flt_samples h
  rw [fltB_eq, Bool.and_eq_true, decide_eq_true_eq] at h ⊢
  refine ⟨h.1, ?_⟩
  unfold stepF
  cases ok
  · simp only [Bool.false_eq_true, if_false]
    split
    · simp; omega
    · rename_i h3
      show (W.length : Int) ≤ S.samples ∧ 0 ≤ min (n + 1) 3 ∧ min (n + 1) 3 ≤ 3 ∧ (min (n + 1) 3 < 3 ∨ W.length = 0)
      omega
  · simp only [if_true]
    refine ⟨?_, by decide, by decide, .inl (by decide)⟩
    unfold nextW
    split
    · rw [List.length_drop, List.length_append]; simp; omega
    · rw [List.length_append]; simp; omega
theorem flt_zero {S : Sen} {P : List Pt} (h : validB S P = true) : fltB S P [] 0 = true := by
  have hv := h
  rw [fltB_eq, Bool.and_eq_true, decide_eq_true_eq]
  refine ⟨h, ?_⟩
  unfold validB at hv
  simp only [Bool.and_eq_true, decide_eq_true_eq] at hv
  have := hv.1.2
  simp; omega
theorem take_snocT {l : List Tk} {k : Nat} (h : k < l.length) : l.take (k + 1) = l.take k ++ [l.getD k default] := by
  rw [List.take_succ_eq_append_getElem h, List.getD_eq_getElem?_getD, List.getElem?_eq_getElem h]; rfl
theorem tk_mem {l : List Tk} {k : Nat} (h : k < l.length) : l.getD k default ∈ l := by
  rw [List.getD_eq_getElem?_getD, List.getElem?_eq_getElem h]; exact List.getElem_mem h
theorem runF_ok {S : Sen} {P : List Pt} (hv : validB S P = true) {L : List Tk} (h : ∀ t ∈ L, t.raw < 256) : ∀ j, fltB S P (runF S.samples (L.take j)).1 (runF S.samples (L.take j)).2 = true ∧ Bytes (runF S.samples (L.take j)).1
  | 0 => ⟨flt_zero hv, fun i => by simp [runF]⟩
  | j + 1 => by
    obtain ⟨h1, h2⟩ := runF_ok hv h j
    rcases Nat.lt_or_ge j L.length with hj | hj
    · have ht := h _ (tk_mem hj)
      rw [take_snocT hj, runF_snoc]
      exact ⟨flt_step h1, step_bytes h2 (by omega)⟩
    · rw [List.take_of_length_le hj] at h1 h2
      rw [List.take_of_length_le (by omega)]
      exact ⟨h1, h2⟩
theorem flt_small {S : Sen} {P : List Pt} {W : List Int} {n : Int} (h : fltB S P W n = true) : W.length ≤ 5 ∧ I64 n := by
  have := flt_samples h
  exact ⟨by omega, ⟨by omega, by omega⟩⟩
/-- What is read is not of a filter's own block. -/
theorem rd_apart {w : World} {v x : Value} {A : List Int} {g : Nat} {m : Int} {T : TypeId} {fr : Nat × Nat} (h : Rd w v (u8s A)) (hA : A ≠ []) (R : w.heap[g]? = some (.cells #[x, .int .i64 m] T fr)) (hx : ∀ y, x ≠ .int .u8 y) : ∀ k, v.ownBlock = some k → k ≠ g := by
  obtain ⟨ad, cap, rfl, _, _, hc⟩ := h.u8
  obtain ⟨b, o, rfl, c0⟩ := hc 0 (List.length_pos_iff.2 hA)
  intro k hk hkg
  simp [Value.ownBlock] at hk
  subst hk hkg
  rw [cell_blk R] at c0
  rcases o with _ | _ | o
  · simp at c0
    exact hx _ c0
  · simp at c0
  · simp at c0
def RunRes (w : World) (k : Int) (L : List Tk) (e : Ending) (w' : World) : Prop :=
  ∃ win, e = .returned (.tuple #[.agg #[win, .int .i64 (runF k L).2], .bool true]) ∧ Rd w' win (u8s (runF k L).1) ∧ (∀ q, win.ownBlock = some q → w.heap.size ≤ q) ∧ Mods [] w w'
set_option maxRecDepth 100000 in
set_option maxHeartbeats 8000000 in
theorem run14_ok (w : World) (S : Sen) (P : List Pt) (v : Value) (L : List Tk) (hS : IsSen w S P) (hv : validB S P = true) (hL : RdTk w v L) (hr : ∀ t ∈ L, t.raw < 256) (hlen : L.length ≤ 1000) :
    Calls Try.prog 72 #[.agg S.cells, v] w fun e w' => RunRes w S.samples L e w' := by
  have HS := Lib.hid hS
  have HR := Lib.hid hr
  have HOK := Lib.hid (fun j => runF_ok (P := P) hv hr j)
  have HL := Lib.hid hL
  obtain ⟨ad, cap, rfl, h1, h2, -⟩ := hL
  have h3 : cap ≤ 9223372036854775807 := h2
  clear hS hr h2 hv
  have R2 := heap_alloc_new ((w.alloc (.cells S.cells 32)).alloc (.cells #[.slice none 0 0, .int .i64 0] 90)) (.cells #[.slice none 0 0, .int .i64 0] 90)
  rw [World.size_alloc, World.size_alloc] at R2
  have R1 := heap_alloc_new (w.alloc (.cells S.cells 32)) (.cells #[.slice none 0 0, .int .i64 0] 90)
  rw [World.size_alloc] at R1
  have HR2 := Lib.hid R2
  have HR1 := Lib.hid (heap_alloc (o' := .cells #[.slice none 0 0, .int .i64 0] 90) R1)
  have HB := Lib.hid (SenBox.mk (heap_alloc (o' := .cells #[.slice none 0 0, .int .i64 0] 90) (heap_alloc (o' := .cells #[.slice none 0 0, .int .i64 0] 90) (heap_alloc_new w (.cells S.cells 32)))))
  have HM0 := Lib.hid ((((Mods.refl (S := []) (w := w)).alloc (.cells S.cells 32)).alloc (.cells #[.slice none 0 0, .int .i64 0] 90)).alloc (.cells #[.slice none 0 0, .int .i64 0] 90))
  have HZ0 := Lib.hid (show (((w.alloc (.cells S.cells 32)).alloc (.cells #[.slice none 0 0, .int .i64 0] 90)).alloc (.cells #[.slice none 0 0, .int .i64 0] 90)).heap.size = w.heap.size + 3 by simp)
  clear R1 R2
  go_enter Try.func72, Try.ntmps72
  go_wp2_with (refine wpList_store_row (cs := #[.slice none 0 0, .int .i64 0]) rfl 90 (.tmp 6) (.tmp 10) rfl HR2.out (by rfl) (by rfl) (by rfl) Try.infoFl (by simp [Value.oneCell']) ?_; go_must (intro w1 R1 M1; have HF1 := Lib.hid R1; have HM1 := Lib.hid (HM0.out.comp M1 (fun k hk => by simp at hk; exact .inr (by omega))); have HB1 := Lib.hid (HB.out.mods M1 (by simp; omega)); have HT1 := Lib.hid (M1.heap HR1.out (by simp)); have hz1 := M1.size; rw [HZ0.out] at hz1; clear R1 M1))
  clear HR1 HR2 HB HM0 HZ0
  go_loopw [7, 8, 9] (fun i _ _ wr => ∃ j : Nat, j ≤ L.length ∧ i = .int .i64 j ∧ ∃ win, wr.heap[w.heap.size + 2]? = some (.cells #[win, .int .i64 (runF S.samples (L.take j)).2] 90 (0, 0)) ∧ Rd wr win (u8s (runF S.samples (L.take j)).1) ∧ (∀ q, win.ownBlock = some q → w.heap.size + 2 < q) ∧ Mods [w.heap.size + 2] w1 wr) (fun i _ _ _ => L.length - (intOf i).toNat)
  case atStart => exact ⟨0, by omega, rfl, .slice none 0 0, HF1.out, Rd.nil _, (fun q hq => by cases hq), Mods.refl⟩
  case round =>
    obtain ⟨j, hj, rfl, win, F, rd, own, M⟩ := hrel
    have HF := Lib.hid F
    have HRD := Lib.hid rd
    have HOW := Lib.hid own
    have HM := Lib.hid M
    have i0 : (0 : Int) ≤ (j : Int) := by omega
    have hzr := M.size
    obtain ⟨aw, cw, rfl⟩ := rd.len
    rw [u8s_length] at HF HRD HOW
    clear F rd own M
    by_cases hlt : j < L.length
    · have i1 : (j : Int) < (L.length : Int) := by omega
      obtain ⟨_, _, he, _, _, hc⟩ := HL.out
      injection he with he1 he2 he3
      subst he1 he3
      obtain ⟨bb, off, rfl, c0, c1⟩ := hc j hlt
      have hbb := World.block_lt_of_cell? w _ c0
      simp only at hbb
      have PE := Lib.hid (fun (W' : World) (M : Mods [] wr W') => And.intro (M.cell (HM.out.cell (HM1.out.cell c0 (by simp)) (by simp; omega)) (by simp)) (M.cell (HM.out.cell (HM1.out.cell c1 (by simp)) (by simp; omega)) (by simp)))
      obtain ⟨hf, hby⟩ := HOK.out j
      have hf2 := (HOK.out (j + 1)).1
      have hby2 := (HOK.out (j + 1)).2
      have hraw := HR.out _ (tk_mem hlt)
      have HSN := Lib.hid (show runF S.samples (L.take (j + 1)) = stepF S.samples (runF S.samples (L.take j)).1 (runF S.samples (L.take j)).2 ((L.getD j default).raw : Nat) (!(L.getD j default).miss) by rw [take_snocT hlt, runF_snoc])
      generalize L.getD j default = tk at PE hraw HSN
      obtain ⟨tr, tm⟩ := tk
      simp only at PE hraw HSN
      clear hc c0 c1 he2
      rw [HSN.out] at hf2 hby2
      have HIS := Lib.hid ((HS.out.mods0 HM1.out).mods HM.out (fun hP q hq => by have := HS.out.conv.rd.block_lt hP q hq; simp; omega))
      have HSB := Lib.hid (HB1.out.mods HM.out (by simp))
      obtain ⟨hs5, hi64⟩ := flt_small hf
      obtain ⟨hs5', hi64'⟩ := flt_small hf2
      have HFL := Lib.hid (IsFlt.mk HRD.out hby (by omega) hi64)
      have ST := Lib.hid (fun W' (M : Mods [] wr W') => samStep_ok W' S P _ _ _ (tr : Nat) (!tm) (HIS.out.mods0 M) (HFL.out.mods0 M))
      rw [hf] at ST
      have eA : stepA true S.samples (runF S.samples (L.take j)).1 (runF S.samples (L.take j)).2 (tr : Nat) (!tm) = (stepF S.samples (runF S.samples (L.take j)).1 (runF S.samples (L.take j)).2 (tr : Nat) (!tm), 0) := rfl
      rw [eA] at ST
      clear eA
      generalize stepF S.samples (runF S.samples (L.take j)).1 (runF S.samples (L.take j)).2 (tr : Nat) (!tm) = F2 at *
      obtain ⟨W2, n2⟩ := F2
      simp only at hf2 hby2 ST hs5' hi64'
      have hf2h := Lib.hid hf2
      have hby2h := Lib.hid hby2
      clear hf hby hf2 hby2 HFL hi64
      generalize (runF S.samples (L.take j)).2 = n1 at *
      generalize (runF S.samples (L.take j)).1 = W1 at *
      go_wp2_with fail
      refine heldStart (S := fun W' => Mods [] wr W') 20 rfl (by kernel_rfl) (Mods.refl.drew) (fun hHeld => ?_)
      refine takeD (i := 0) (d := 18) (v := .agg S.cells) rfl rfl (by kernel_rfl) (by kernel_rfl) (by kernel_rfl) (fun _ _ _ h => h) (yieldsIf_load_row rfl 32 (.tmp 2) rfl w.heap.size rfl 32 S.cells (0, 0) _ (fun W M => (HSB.out.mods0 M).blk) Try.underlying32 rfl S.infoS) hHeld ?_
      simp only [List.setIfInBounds_toArray, List.set_cons_zero, List.set_cons_succ]
      refine takeD (i := 1) (d := 19) (v := .agg #[.slice aw W1.length cw, .int .i64 n1]) rfl rfl (by kernel_rfl) (by kernel_rfl) (by kernel_rfl) (fun _ _ _ h => h) (yieldsIf_load_row rfl 90 (.tmp 6) rfl (w.heap.size + 2) rfl 90 #[.slice aw W1.length cw, .int .i64 n1] (0, 0) _ (fun W M => M.heap HF.out (by simp)) Try.underlying90 rfl Try.infoFl) hHeld ?_
      simp only [List.setIfInBounds_toArray, List.set_cons_zero, List.set_cons_succ]
      refine takeD (i := 2) (d := 20) (v := ?_) rfl rfl (by kernel_rfl) (by kernel_rfl) (by kernel_rfl) (fun _ _ _ h => h) (Or.inl ⟨by rfl, ?_⟩) hHeld ?_
      rotate_left 1
      · (intro w hSw; (try dsimp only at hSw); go_simp; (try with_reducible rfl))
      simp only [List.setIfInBounds_toArray, List.set_cons_zero, List.set_cons_succ]
      refine takeD (i := 3) (d := 21) (v := ?_) rfl rfl (by kernel_rfl) (by kernel_rfl) (by kernel_rfl) (fun _ _ _ h => h) (Or.inl ⟨by rfl, ?_⟩) hHeld ?_
      rotate_left 1
      · (intro w hSw; (try dsimp only at hSw); go_simp; (try with_reducible rfl))
      simp only [List.setIfInBounds_toArray, List.set_cons_zero, List.set_cons_succ]
      refine takeD (i := 4) (d := 22) (v := ?_) rfl rfl (by kernel_rfl) (by kernel_rfl) (by kernel_rfl) (fun _ _ _ h => h) (Or.inl ⟨by rfl, ?_⟩) hHeld ?_
      rotate_left 1
      · (intro w hSw; have ye := PE.out w hSw; obtain ⟨ye0, ye1⟩ := ye; go_simp; (try with_reducible rfl))
      simp only [List.setIfInBounds_toArray, List.set_cons_zero, List.set_cons_succ]
      refine takeD (i := 5) (d := 23) (v := ?_) rfl rfl (by kernel_rfl) (by kernel_rfl) (by kernel_rfl) (fun _ _ _ h => h) (Or.inl ⟨by rfl, ?_⟩) hHeld ?_
      rotate_left 1
      · (intro w hSw; have ye := PE.out w hSw; obtain ⟨ye0, ye1⟩ := ye; go_simp; (try with_reducible rfl))
      simp only [List.setIfInBounds_toArray, List.set_cons_zero, List.set_cons_succ]
      refine takeD (i := 6) (d := 24) (v := ?_) rfl rfl (by kernel_rfl) (by kernel_rfl) (by kernel_rfl) (fun _ _ _ h => h) (Or.inl ⟨by rfl, ?_⟩) hHeld ?_
      rotate_left 1
      · (intro w hSw; have ye := PE.out w hSw; obtain ⟨ye0, ye1⟩ := ye; go_simp; (try with_reducible rfl))
      simp only [List.setIfInBounds_toArray, List.set_cons_zero, List.set_cons_succ]
      refine takeD (i := 7) (d := 25) (v := ?_) rfl rfl (by kernel_rfl) (by kernel_rfl) (by kernel_rfl) (fun _ _ _ h => h) (Or.inl ⟨by rfl, ?_⟩) hHeld ?_
      rotate_left 1
      · (intro w hSw; (try dsimp only at hSw); go_simp; (try with_reducible rfl))
      simp only [List.setIfInBounds_toArray, List.set_cons_zero, List.set_cons_succ]
      refine takeD (i := 8) (d := 26) (v := ?_) rfl rfl (by kernel_rfl) (by kernel_rfl) (by kernel_rfl) (fun _ _ _ h => h) (Or.inl ⟨by rfl, ?_⟩) hHeld ?_
      rotate_left 1
      · (intro w hSw; (try dsimp only at hSw); go_simp; (try with_reducible rfl))
      simp only [List.setIfInBounds_toArray, List.set_cons_zero, List.set_cons_succ]
      refine takeD (i := 9) (d := 27) (v := ?_) rfl rfl (by kernel_rfl) (by kernel_rfl) (by kernel_rfl) (fun _ _ _ h => h) (Or.inl ⟨by rfl, ?_⟩) hHeld ?_
      rotate_left 1
      · (intro w hSw; have ye := PE.out w hSw; obtain ⟨ye0, ye1⟩ := ye; go_simp; (try with_reducible rfl))
      simp only [List.setIfInBounds_toArray, List.set_cons_zero, List.set_cons_succ]
      refine takeD (i := 10) (d := 28) (v := ?_) rfl rfl (by kernel_rfl) (by kernel_rfl) (by kernel_rfl) (fun _ _ _ h => h) (Or.inl ⟨by rfl, ?_⟩) hHeld ?_
      rotate_left 1
      · (intro w hSw; have ye := PE.out w hSw; obtain ⟨ye0, ye1⟩ := ye; go_simp; (try with_reducible rfl))
      simp only [List.setIfInBounds_toArray, List.set_cons_zero, List.set_cons_succ]
      refine takeD (i := 11) (d := 29) (v := ?_) rfl rfl (by kernel_rfl) (by kernel_rfl) (by kernel_rfl) (fun _ _ _ h => h) (Or.inl ⟨by rfl, ?_⟩) hHeld ?_
      rotate_left 1
      · (intro w hSw; have ye := PE.out w hSw; obtain ⟨ye0, ye1⟩ := ye; go_simp; (try with_reducible rfl))
      simp only [List.setIfInBounds_toArray, List.set_cons_zero, List.set_cons_succ]
      refine takeD (i := 12) (d := 30) (v := ?_) rfl rfl (by kernel_rfl) (by kernel_rfl) (by kernel_rfl) (fun _ _ _ h => h) (Or.inl ⟨by rfl, ?_⟩) hHeld ?_
      rotate_left 1
      · (intro w hSw; (try dsimp only at hSw); go_simp; (try with_reducible rfl))
      simp only [List.setIfInBounds_toArray, List.set_cons_zero, List.set_cons_succ]
      refine wpAnyH_ready (rs := [13, 17]) (by kernel_rfl) (by simp) (AllReadyH.cons rfl (fun K hK => ?br1) (AllReadyH.cons rfl (fun K hK => ?br2) AllReadyH.nil))
      case br1 =>
        go_simp
        go_wp2_with
        (go_at_call 64; refine (ST.out _ hHeld).mono ?_; rintro e W5 ⟨win', rfl, rd', own', M5⟩; obtain ⟨aw', cw', rfl⟩ := rd'.len; rw [u8s_length] at rd' own' ⊢; have HRD5 := Lib.hid rd'; have HOW5 := Lib.hid own'; have HM5 := Lib.hid M5; clear rd' own' M5)
        refine hK.out _ _ ?_ (fun hHeld => ?_)
        · exact hHeld.trans HM5.out
        clear hK K
        refine takeD (i := 14) (d := 17) (v := ?_) rfl rfl (by kernel_rfl) (by kernel_rfl) (by kernel_rfl) (fun _ _ _ h => h) (Or.inl ⟨by rfl, ?_⟩) hHeld ?_
        rotate_left 1
        · (intro w hSw; (try dsimp only at hSw); go_simp; (try with_reducible rfl))
        simp only [List.setIfInBounds_toArray, List.set_cons_zero, List.set_cons_succ]
        refine takeD (i := 15) (d := 32) (v := ?_) rfl rfl (by kernel_rfl) (by kernel_rfl) (by kernel_rfl) (fun _ _ _ h => h) (Or.inl ⟨by rfl, ?_⟩) hHeld ?_
        rotate_left 1
        · (intro w hSw; (try dsimp only at hSw); go_simp; (try with_reducible rfl))
        simp only [List.setIfInBounds_toArray, List.set_cons_zero, List.set_cons_succ]
        refine takeD (i := 16) (d := 33) (v := ?_) rfl rfl (by kernel_rfl) (by kernel_rfl) (by kernel_rfl) (fun _ _ _ h => h) (Or.inl ⟨by rfl, ?_⟩) hHeld ?_
        rotate_left 1
        · (intro w hSw; (try dsimp only at hSw); go_simp; (try with_reducible rfl))
        simp only [List.setIfInBounds_toArray, List.set_cons_zero, List.set_cons_succ]
        refine wpAnyH_ready (rs := [17]) (by kernel_rfl) (by simp) ?_
        refine AllReadyH.cons rfl (fun K hK => ?_) AllReadyH.nil
        go_simp
        refine hK.out _ _ ?_ (fun hHeld => ?_)
        · exact hHeld.alloc _
        clear hK K
        have RA := Lib.hid (heap_alloc_new W5 (.cells #[.slice none 0 0, .int .i64 0] 90))
        have HRDA := Lib.hid (HRD5.out.mods0 (Mods.refl.alloc (.cells #[.slice none 0 0, .int .i64 0] 90)))
        have HOWA := Lib.hid (show ∀ q, (Value.slice aw' W2.length cw').ownBlock = some q → wr.heap.size ≤ q from HOW5.out)
        have hgA : wr.heap.size ≤ W5.heap.size := HM5.out.size
        clear HM5 HRD5 HOW5
        generalize W5.alloc (.cells #[.slice none 0 0, .int .i64 0] 90) = WA at *
        generalize W5.heap.size = gA at *
        refine wpAnyH_ready (rs := [18]) (by kernel_rfl) (by simp) ?_
        refine AllReadyH.cons rfl (fun K hK => ?_) AllReadyH.nil
        refine exec_store rfl rfl rfl RA.out rfl rfl (by rfl) Try.infoFl (by simp [Value.oneCell']) (fun w6 R6 M6 => ?_)
        refine hK.out _ _ ?_ (fun hHeld => ?_)
        · exact hHeld.comp M6 (fun k hk => by simp at hk; exact .inr (by omega))
        clear hK K
        refine takeD (i := 19) (d := 9) (v := ?_) rfl rfl (by kernel_rfl) (by kernel_rfl) (by kernel_rfl) (fun _ _ _ h => h) (Or.inl ⟨by rfl, ?_⟩) hHeld ?_
        rotate_left 1
        · (intro w hSw; (try dsimp only at hSw); go_simp; (try with_reducible rfl))
        simp only [List.setIfInBounds_toArray, List.set_cons_zero, List.set_cons_succ]
        refine wpAnyH_done (by kernel_rfl) ?_ _
        have HM6 := Lib.hid hHeld
        have HR6 := Lib.hid R6
        have HRD6 := Lib.hid (show Rd w6 (.slice aw' W2.length cw') (u8s W2) from HRDA.out.mods M6 (fun hne k hk hm => by simp at hm; exact rd_apart HRDA.out (fun h0 => hne (by rw [h0]; rfl)) RA.out (fun y => by simp) k hk hm))
        clear hHeld R6 M6
        have c0 : w6.cell? ⟨gA, 0, none⟩ = some (.slice aw' W2.length cw') := (cell_blk HR6.out 0).trans rfl
        have c1 : w6.cell? ⟨gA, 1, none⟩ = some (.int .i64 n2) := (cell_blk HR6.out 1).trans rfl
        have HV := Lib.hid (samValid_ok w6 S P (.slice aw' W2.length cw') W2 n2 (HIS.out.mods0 HM6.out) ⟨HRD6.out, hby2h.out, by omega, hi64'⟩)
        rw [hf2h.out] at HV
        have HB6 := Lib.hid (HSB.out.mods0 HM6.out)
        have HF6 := Lib.hid (HM6.out.heap HF.out (by simp))
        go_wp2_with (first | (refine wpList_load_senG (by rfl) (.tmp 2) rfl HB6.out (by rfl) ?_) | (refine wpList_load_sen rfl (.tmp 2) rfl HB6.out (by rfl) ?_))
        refine HV.out.mono ?_
        rintro e w7 ⟨rfl, M7⟩
        have HM7 := Lib.hid (HM6.out.trans M7)
        have HR7 := Lib.hid (M7.heap HR6.out (by simp))
        have HF7 := Lib.hid (M7.heap HF6.out (by simp))
        have HRD7 := Lib.hid (HRD6.out.mods0 M7)
        clear M7 HV HB6 c0 c1 HM6 HR6 HF6 HRD6
        go_wp2_with (first
          | (refine wpList_load_row rfl _ (.tmp 8) rfl gA (by rfl) _ _ _ _ HR7.out Try.underlying90 rfl Try.infoFl ?_)
          | (refine wpList_store_row (cs := #[.slice aw' W2.length cw', .int .i64 n2]) rfl 90 (.tmp 6) (.tmp 43) rfl HF7.out (by rfl) (by rfl) (by rfl) Try.infoFl (by simp [Value.oneCell']) ?_; go_must (intro w8 R8 M8; have HR8 := Lib.hid R8; have HM8 := Lib.hid M8; clear R8 M8)))
        have hgo : ∀ q, (Value.slice aw' W2.length cw').ownBlock = some q → w.heap.size + 2 < q := fun q hq => by have := HOWA.out q hq; omega
        refine ⟨⟨j + 1, by omega, by go_num, .slice aw' W2.length cw', by rw [HSN.out]; exact HR8.out, by rw [HSN.out]; exact HRD7.out.mods HM8.out (fun _ k hk hm => by have := hgo k hk; simp at hm; omega), hgo, (HM.out.comp0 HM7.out).trans HM8.out⟩, by simp only [intOf]; omega⟩
      case br2 =>
        go_simp
        refine hK.out _ _ ?_ (fun hHeld => ?_)
        · exact hHeld.alloc _
        clear hK K
        refine wpAnyH_ready (rs := [13]) (by kernel_rfl) (by simp) ?_
        refine AllReadyH.cons rfl (fun K hK => ?_) AllReadyH.nil
        go_simp
        go_wp2_with
        (go_at_call 64; refine (ST.out _ hHeld).mono ?_; rintro e W5 ⟨win', rfl, rd', own', M5⟩; obtain ⟨aw', cw', rfl⟩ := rd'.len; rw [u8s_length] at rd' own' ⊢; have HRD5 := Lib.hid rd'; have HOW5 := Lib.hid own'; have HM5 := Lib.hid M5; clear rd' own' M5)
        refine hK.out _ _ ?_ (fun hHeld => ?_)
        · exact hHeld.trans HM5.out
        clear hK K
        refine takeD (i := 14) (d := 17) (v := ?_) rfl rfl (by kernel_rfl) (by kernel_rfl) (by kernel_rfl) (fun _ _ _ h => h) (Or.inl ⟨by rfl, ?_⟩) hHeld ?_
        rotate_left 1
        · (intro w hSw; (try dsimp only at hSw); go_simp; (try with_reducible rfl))
        simp only [List.setIfInBounds_toArray, List.set_cons_zero, List.set_cons_succ]
        refine takeD (i := 15) (d := 32) (v := ?_) rfl rfl (by kernel_rfl) (by kernel_rfl) (by kernel_rfl) (fun _ _ _ h => h) (Or.inl ⟨by rfl, ?_⟩) hHeld ?_
        rotate_left 1
        · (intro w hSw; (try dsimp only at hSw); go_simp; (try with_reducible rfl))
        simp only [List.setIfInBounds_toArray, List.set_cons_zero, List.set_cons_succ]
        refine takeD (i := 16) (d := 33) (v := ?_) rfl rfl (by kernel_rfl) (by kernel_rfl) (by kernel_rfl) (fun _ _ _ h => h) (Or.inl ⟨by rfl, ?_⟩) hHeld ?_
        rotate_left 1
        · (intro w hSw; (try dsimp only at hSw); go_simp; (try with_reducible rfl))
        simp only [List.setIfInBounds_toArray, List.set_cons_zero, List.set_cons_succ]
        have RA := Lib.hid (show W5.heap[wr.heap.size]? = _ from HM5.out.heap (heap_alloc_new wr.drew (.cells #[.slice none 0 0, .int .i64 0] 90)) (by simp))
        have HRDA := Lib.hid HRD5.out
        have HOWA := Lib.hid (show ∀ q, (Value.slice aw' W2.length cw').ownBlock = some q → wr.heap.size ≤ q from fun q hq => by have := HOW5.out q hq; simp at this; omega)
        obtain ⟨gA, hgA2⟩ : ∃ gA, gA = wr.heap.size := ⟨_, rfl⟩
        have hgA : wr.heap.size ≤ gA := by omega
        clear HM5 HRD5 HOW5
        rw [← hgA2] at RA ⊢
        clear hgA2
        refine wpAnyH_ready (rs := [18]) (by kernel_rfl) (by simp) ?_
        refine AllReadyH.cons rfl (fun K hK => ?_) AllReadyH.nil
        refine exec_store rfl rfl rfl RA.out rfl rfl (by rfl) Try.infoFl (by simp [Value.oneCell']) (fun w6 R6 M6 => ?_)
        refine hK.out _ _ ?_ (fun hHeld => ?_)
        · exact hHeld.comp M6 (fun k hk => by simp at hk; exact .inr (by omega))
        clear hK K
        refine takeD (i := 19) (d := 9) (v := ?_) rfl rfl (by kernel_rfl) (by kernel_rfl) (by kernel_rfl) (fun _ _ _ h => h) (Or.inl ⟨by rfl, ?_⟩) hHeld ?_
        rotate_left 1
        · (intro w hSw; (try dsimp only at hSw); go_simp; (try with_reducible rfl))
        simp only [List.setIfInBounds_toArray, List.set_cons_zero, List.set_cons_succ]
        refine wpAnyH_done (by kernel_rfl) ?_ _
        have HM6 := Lib.hid hHeld
        have HR6 := Lib.hid R6
        have HRD6 := Lib.hid (show Rd w6 (.slice aw' W2.length cw') (u8s W2) from HRDA.out.mods M6 (fun hne k hk hm => by simp at hm; exact rd_apart HRDA.out (fun h0 => hne (by rw [h0]; rfl)) RA.out (fun y => by simp) k hk hm))
        clear hHeld R6 M6
        have c0 : w6.cell? ⟨gA, 0, none⟩ = some (.slice aw' W2.length cw') := (cell_blk HR6.out 0).trans rfl
        have c1 : w6.cell? ⟨gA, 1, none⟩ = some (.int .i64 n2) := (cell_blk HR6.out 1).trans rfl
        have HV := Lib.hid (samValid_ok w6 S P (.slice aw' W2.length cw') W2 n2 (HIS.out.mods0 HM6.out) ⟨HRD6.out, hby2h.out, by omega, hi64'⟩)
        rw [hf2h.out] at HV
        have HB6 := Lib.hid (HSB.out.mods0 HM6.out)
        have HF6 := Lib.hid (HM6.out.heap HF.out (by simp))
        go_wp2_with (first | (refine wpList_load_senG (by rfl) (.tmp 2) rfl HB6.out (by rfl) ?_) | (refine wpList_load_sen rfl (.tmp 2) rfl HB6.out (by rfl) ?_))
        refine HV.out.mono ?_
        rintro e w7 ⟨rfl, M7⟩
        have HM7 := Lib.hid (HM6.out.trans M7)
        have HR7 := Lib.hid (M7.heap HR6.out (by simp))
        have HF7 := Lib.hid (M7.heap HF6.out (by simp))
        have HRD7 := Lib.hid (HRD6.out.mods0 M7)
        clear M7 HV HB6 c0 c1 HM6 HR6 HF6 HRD6
        go_wp2_with (first
          | (refine wpList_load_row rfl _ (.tmp 8) rfl gA (by rfl) _ _ _ _ HR7.out Try.underlying90 rfl Try.infoFl ?_)
          | (refine wpList_store_row (cs := #[.slice aw' W2.length cw', .int .i64 n2]) rfl 90 (.tmp 6) (.tmp 43) rfl HF7.out (by rfl) (by rfl) (by rfl) Try.infoFl (by simp [Value.oneCell']) ?_; go_must (intro w8 R8 M8; have HR8 := Lib.hid R8; have HM8 := Lib.hid M8; clear R8 M8)))
        have hgo : ∀ q, (Value.slice aw' W2.length cw').ownBlock = some q → w.heap.size + 2 < q := fun q hq => by have := HOWA.out q hq; omega
        refine ⟨⟨j + 1, by omega, by go_num, .slice aw' W2.length cw', by rw [HSN.out]; exact HR8.out, by rw [HSN.out]; exact HRD7.out.mods HM8.out (fun _ k hk hm => by have := hgo k hk; simp at hm; omega), hgo, (HM.out.comp0 HM7.out).trans HM8.out⟩, by simp only [intOf]; omega⟩
    · have hjl : j = L.length := by omega
      subst hjl
      rw [List.take_length] at HF HRD HOW
      have HRT := Lib.hid (HM1.out.comp HM.out (fun k hk => by simp at hk; exact .inr (by omega)))
      have HTR := Lib.hid (HM.out.heap HT1.out (by simp))
      have HX := Lib.hid (show ∀ win' w', Rd w' win' (u8s (runF S.samples L).1) → (∀ q, win'.ownBlock = some q → w.heap.size ≤ q) → Mods [] w w' → RunRes w S.samples L (.returned (.tuple #[.agg #[win', .int .i64 (runF S.samples L).2], .bool true])) w' from fun win' w' a b c => ⟨win', rfl, a, b, c⟩)
      generalize (runF S.samples L).2 = n1 at *
      generalize (runF S.samples L).1 = W1 at *
      go_wp2_with (first
        | (refine wpList_load_row rfl _ (.tmp 6) rfl (w.heap.size + 2) (by rfl) _ _ _ _ HF.out Try.underlying90 rfl Try.infoFl ?_)
        | (refine wpList_store_row (cs := #[.slice aw W1.length cw, .int .i64 n1]) rfl 90 (.tmp 4) (.tmp 44) rfl HTR.out (by rfl) (by rfl) (by rfl) Try.infoFl (by simp [Value.oneCell']) ?_; go_must (intro w9 R9 M9)))
      refine bodyPost_ret (results_cell_row2 rfl _ _ (w.heap.size + 1) _ _ _ _ rfl R9 Try.underlying90 rfl Try.infoFl) rfl ?_
      exact HX.out _ _ (HRD.out.mods M9 (fun _ k hk hm => by have := HOW.out k hk; simp at hm; omega)) (fun q hq => by have := HOW.out q hq; omega) (HRT.out.comp M9 (fun k hk => by simp at hk; exact .inr (by omega)))
end Go.Proofs.Ytgjjmiaiclhidaa
