/- Joined texts. The reference's Number and signed: contracts. | The reference's Decode of conversions: where it gives an error; contract. -/
import Derived.Test.YtgjjmiaiclhidaaDecA
import Derived.Test.YtgjjmiaiclhidaaBaseB
import Derived.BigGuardPart
namespace Go.Proofs.Ytgjjmiaiclhidaa
open Go.RowKit

theorem pow256_lt : ∀ m : Nat, m < 8 → (256 : Int) ^ m ≤ 72057594037927936 := by decide
set_option maxRecDepth 100000 in
set_option maxHeartbeats 1000000 in
theorem refNumber_ok' (w : World) (v : Value) (A : List Int) (hv : Rd w v (u8s A)) (hb : Bytes A) (hl8 : A.length ≤ 8) :
    Calls Try.prog 85 #[v] w fun e w' => e = .returned (.int .u64 (leN A)) ∧ w = w' := by
  have HV := Lib.hid hv
  have HB := Lib.hid hb
  obtain ⟨ad, cap, rfl, h1, h2, _⟩ := hv.u8
  have h3 : cap ≤ 9223372036854775807 := h2
  clear hv hb h2
  go_enter Try.func85, Try.ntmps85
  go_wp2_with fail
  go_loopw [3, 4] (fun s i wr => ∃ k : Nat, k ≤ A.length ∧ i = .int .i64 ((k : Int) - 1) ∧ s = .int .u64 (leN (A.drop k)) ∧ wr = w) (fun _ i _ => ((intOf i) + 1).toNat)
  case atStart => exact ⟨A.length, Nat.le_refl _, rfl, by rw [List.drop_length]; rfl, rfl⟩
  case round =>
    obtain ⟨k, hk, rfl, rfl, rfl⟩ := hrel
    by_cases hlt : 1 ≤ k
    · obtain ⟨j, rfl⟩ : ∃ j, k = j + 1 := ⟨k - 1, by omega⟩
      obtain ⟨_, _, he, _, _, hc⟩ := HV.out.u8
      obtain ⟨bb, off, rfl, xj⟩ := hc j (by omega)
      injection he with he1 he2 he3
      subst he1 he3
      clear hc he2
      have hbj := HB.out j
      have HST := Lib.hid (show leN (A.drop j) = A.getD j 0 + 256 * leN (A.drop (j + 1)) by rw [drop_step (A := A) (k := j) (by omega)]; rfl)
      have hsb : 0 ≤ leN (A.drop (j + 1)) ∧ leN (A.drop (j + 1)) ≤ 72057594037927935 := by
        have := leN_bd (HB.out.drop (j + 1))
        have hle := pow256_lt (A.drop (j + 1)).length (by simp; omega)
        omega
      generalize A.getD j 0 = y at xj hbj HST
      generalize leN (A.drop (j + 1)) = s at hsb HST ⊢
      obtain ⟨hs0, hs1⟩ := hsb
      obtain ⟨hy0, hy1⟩ := hbj
      have e1 : ((j + 1 : Nat) : Int) - 1 = (j : Int) := by omega
      rw [e1]
      have i1 : (0 : Int) ≤ (j : Int) := by omega
      have i2 : (j : Int) < (A.length : Int) := by omega
      go_wp2_with fail
      exact ⟨⟨j, by omega, rfl, by rw [HST.out]; go_num, by first | rfl | trivial⟩, by simp only [intOf]; omega⟩
    · have hk0 : k = 0 := by omega
      subst hk0
      rw [List.drop_zero]
      generalize hs : leN A = s
      have HSA := Lib.hid hs
      clear hs
      go_wp2_with fail
      go_ret
      exact ⟨by rw [HSA.out]; rfl, rfl⟩
set_option maxRecDepth 100000 in
set_option maxHeartbeats 2000000 in
theorem refSigned_ok (w : World) (v : Value) (A : List Int) (hv : Rd w v (u8s A)) (hb : Bytes A) (hl1 : 1 ≤ A.length) (hl7 : A.length ≤ 7) :
    Calls Try.prog 106 #[v] w fun e w' => e = .returned (.int .i64 (sgnL A)) ∧ w = w' := by
  have HN := Lib.hid (refNumber_ok' w v A hv hb (by omega))
  obtain ⟨ad, cap, rfl, h1, h2, hc⟩ := hv.u8
  have h3 : cap ≤ 9223372036854775807 := h2
  obtain ⟨bb, off, rfl, x0⟩ := hc (A.length - 1) (by omega)
  have hbd : 0 ≤ leN A ∧ leN A ≤ 72057594037927936 := by
    have := leN_bd hb
    have := pow256_lt A.length (by omega)
    omega
  have hbx := hb (A.length - 1)
  have HS := Lib.hid (show sgnL A = leN A - if 128 ≤ A.getD (A.length - 1) 0 then 256 ^ A.length else 0 from rfl)
  clear hv hb h2 hc
  generalize A.getD (A.length - 1) 0 = x at x0 hbx HS
  generalize leN A = s at hbd HS HN
  obtain ⟨hb0, hb1⟩ := hbx
  obtain ⟨hs0, hs1⟩ := hbd
  have hcs : A.length = 1 ∨ A.length = 2 ∨ A.length = 3 ∨ A.length = 4 ∨ A.length = 5 ∨ A.length = 6 ∨ A.length = 7 := by omega
  rcases hcs with h | h | h | h | h | h | h
  all_goals
    rw [h] at x0 HS HN h1 ⊢
    clear h hl1 hl7
    simp only [Nat.reduceSub, Nat.add_zero] at x0
    by_cases h128 : 128 ≤ x
    · have HV := Lib.hid (show sgnL A = s - _ by rw [HS.out, if_pos h128])
      have d1 : decide (x ≥ 128) = true := decide_eq_true h128
      go_enter Try.func106, Try.ntmps106
      go_wp2_with fail
      refine HN.out.mono ?_
      rintro e w' ⟨rfl, rfl⟩
      go_wp2_with fail
      go_ret
      exact ⟨ret_int (by rw [HV.out]; go_num), rfl⟩
    · have HV := Lib.hid (show sgnL A = s by rw [HS.out, if_neg h128]; omega)
      have d1 : decide (x ≥ 128) = false := decide_eq_false h128
      go_enter Try.func106, Try.ntmps106
      go_wp2_with fail
      refine HN.out.mono ?_
      rintro e w' ⟨rfl, rfl⟩
      go_wp2_with fail
      go_ret
      exact ⟨ret_int (by rw [HV.out]), rfl⟩
end Go.Proofs.Ytgjjmiaiclhidaa

namespace Go.Proofs.Ytgjjmiaiclhidaa
open Go.RowKit

theorem lenC_nil {A : List Int} (h : A = []) : lenC A = (0, 4) := by unfold lenC; rw [if_pos h]
theorem lenC_form {A : List Int} (h0 : A ≠ []) (h : A.getD 0 0 % 128 < 1 ∨ 5 < A.getD 0 0 % 128) : lenC A = (0, 6) := by unfold lenC; rw [if_neg h0, if_pos h]
theorem lenC_lin {A : List Int} (h0 : A ≠ []) (h1 : 1 ≤ A.getD 0 0 % 128) (h2 : A.getD 0 0 % 128 ≤ 5) (h5 : A.getD 0 0 % 128 ≠ 5) : lenC A = (7, 0) := by unfold lenC; rw [if_neg h0, if_neg (by omega), if_pos h5]
theorem lenC_one {A : List Int} (h0 : A ≠ []) (h5 : A.getD 0 0 % 128 = 5) (h1 : A.length = 1) : lenC A = (0, 4) := by unfold lenC; rw [if_neg h0, if_neg (by omega), if_neg (by omega), if_pos h1]
theorem lenC_pts {A : List Int} (h0 : A ≠ []) (h5 : A.getD 0 0 % 128 = 5) (h1 : A.length ≠ 1) (h : A.getD 1 0 < 2 ∨ 12 < A.getD 1 0) : lenC A = (0, 6) := by unfold lenC; rw [if_neg h0, if_neg (by omega), if_neg (by omega), if_neg h1, if_pos h]
theorem lenC_tab {A : List Int} (h0 : A ≠ []) (h5 : A.getD 0 0 % 128 = 5) (h1 : A.length ≠ 1) (h : ¬ (A.getD 1 0 < 2 ∨ 12 < A.getD 1 0)) : lenC A = (2 + 7 * A.getD 1 0, 0) := by unfold lenC; rw [if_neg h0, if_neg (by omega), if_neg (by omega), if_neg h1, if_neg h]
theorem errC_len {A : List Int} {x y : Int} (h : lenC A = (x, y)) (hy : y ≠ 0) : errC A = y := by unfold errC; rw [h, if_pos hy]
theorem errC_cut {A : List Int} {x : Int} (h : lenC A = (x, 0)) (hl : (A.length : Int) < x) : errC A = 4 := by unfold errC; rw [h, if_neg (by simp), if_pos hl]
theorem errC_val {A : List Int} {x : Int} (h : lenC A = (x, 0)) (hl : ¬ (A.length : Int) < x) : errC A = if convB (decC A (.slice none 0 0)) (decP A) then 0 else 1 := by unfold errC; rw [h, if_neg (by simp), if_neg hl]

set_option maxRecDepth 100000 in
set_option maxHeartbeats 4000000 in
theorem refDec_nil (w : World) (v : Value) (A : List Int) (hv : Rd w v (u8s A)) (hb : Bytes A) (h0 : A = []) :
    Calls Try.prog 60 #[v] w fun e w' => DecRes w A e w' := by
  have HV := Lib.hid hv
  have HB := Lib.hid hb
  obtain ⟨ad, cap, rfl, h1, h2, -⟩ := hv.u8
  have h3 : cap ≤ 9223372036854775807 := h2
  clear hv hb h2
  have HE : Hid (∀ W, errC A ≠ 0 → Mods [] w W → DecRes w A (.returned (.tuple #[.agg zK.cells, .int .i64 0, .int .i64 (errC A)])) W) := Lib.hid fun W h M => by unfold DecRes; rw [if_neg h]; exact ⟨rfl, M⟩
  have R0 := Lib.hid (heap_alloc_new w (.cells zK.cells 26))
  have M0 := Lib.hid ((Mods.refl (S := []) (w := w)).alloc (.cells zK.cells 26))
  have R1 : ((w.alloc (.cells zK.cells 26)).alloc (.cells zK.cells 26)).heap[w.heap.size + 1]? = some (.cells zK.cells 26 (0, 0)) := by
    have := heap_alloc_new (w.alloc (.cells zK.cells 26)) (.cells zK.cells 26)
    rwa [World.size_alloc] at this
  have HR1 := Lib.hid R1
  clear R1
  have HR := Lib.hid (errC_len (lenC_nil h0) (by decide))
  subst h0
  go_enter Try.func60, Try.ntmps60
  go_wp2_with (first
    | (refine wpList_store_row (cs := zK.cells) rfl 26 (.tmp 5) (.tmp 10) rfl HR1.out (by rfl) (by rfl) rfl Try.infoC zK_one ?_; intro w2 R2 M2; have HR2 := Lib.hid R2; have HQ2 := Lib.hid (M2.heap (heap_alloc (o' := .cells zK.cells 26) R0.out) (by simp)); have HM2 := Lib.hid ((M0.out.alloc (.cells zK.cells 26)).comp M2 (fun k hk => by simp at hk; exact .inr (by omega))); clear R2 M2)
    | (refine wpList_load_row rfl 26 (.tmp 5) rfl (w.heap.size + 1) (by rfl) _ _ _ _ HR2.out Try.underlying26 rfl Try.infoC ?_)
    | (refine wpList_store_row (cs := zK.cells) rfl 26 (.tmp 2) (.tmp 14) rfl HQ2.out (by rfl) (by rfl) rfl Try.infoC zK_one ?_; intro w9 R9 M9))
  have HMX := HM2.out.comp M9 (fun k hk => by simp at hk; exact .inr (by omega))
  refine bodyPost_ret (results_cell_row3 rfl _ _ w.heap.size _ _ _ _ rfl R9 Try.underlying26 rfl Try.infoC) rfl ?_
  have := HE.out _ (by rw [HR.out]; decide) HMX
  rw [HR.out] at this
  exact this

set_option maxRecDepth 100000 in
set_option maxHeartbeats 4000000 in
theorem refDec_form (w : World) (v : Value) (A : List Int) (hv : Rd w v (u8s A)) (hb : Bytes A) (h0 : A ≠ []) (hf : A.getD 0 0 % 128 < 1 ∨ 5 < A.getD 0 0 % 128) :
    Calls Try.prog 60 #[v] w fun e w' => DecRes w A e w' := by
  have HR := Lib.hid (errC_len (lenC_form h0 hf) (by decide))
  rcases hf with hf | hf
  · skip
    have HV := Lib.hid hv
    have HB := Lib.hid hb
    obtain ⟨ad, cap, rfl, h1, h2, -⟩ := hv.u8
    have h3 : cap ≤ 9223372036854775807 := h2
    clear hv hb h2
    have HE : Hid (∀ W, errC A ≠ 0 → Mods [] w W → DecRes w A (.returned (.tuple #[.agg zK.cells, .int .i64 0, .int .i64 (errC A)])) W) := Lib.hid fun W h M => by unfold DecRes; rw [if_neg h]; exact ⟨rfl, M⟩
    have R0 := Lib.hid (heap_alloc_new w (.cells zK.cells 26))
    have M0 := Lib.hid ((Mods.refl (S := []) (w := w)).alloc (.cells zK.cells 26))
    have R1 : ((w.alloc (.cells zK.cells 26)).alloc (.cells zK.cells 26)).heap[w.heap.size + 1]? = some (.cells zK.cells 26 (0, 0)) := by
      have := heap_alloc_new (w.alloc (.cells zK.cells 26)) (.cells zK.cells 26)
      rwa [World.size_alloc] at this
    have HR1 := Lib.hid R1
    clear R1
    have hp : 0 < A.length := List.length_pos_iff.2 h0
    obtain ⟨_, _, he, _, _, hc0⟩ := HV.out.u8
    obtain ⟨bb, off, rfl, x0⟩ := hc0 0 hp
    injection he with he1 he2 he3
    subst he1 he3
    have HCC := Lib.hid (fun i (hi : i < A.length) => show w.cell? ⟨bb, off + i, none⟩ = some (.int .u8 (A.getD i 0)) from by
      obtain ⟨b', o', he, hx⟩ := hc0 i hi
      cases he
      exact hx)
    clear hc0 he2 h0
    rw [Nat.add_zero] at x0
    have hbb : bb < w.heap.size := World.block_lt_of_cell? w _ x0
    have HX0 := Lib.hid x0
    have hb0 := HB.out 0
    have HDC := Lib.hid (show ∀ pv, decC A pv = if A.getD 0 0 % 128 = 5 then ⟨5, decide (128 ≤ A.getD 0 0), 0, 0, 0, 0, pv⟩ else ⟨A.getD 0 0 % 128, decide (128 ≤ A.getD 0 0), signA A 1 2, signA A 3 2, signA A 5 1, signA A 6 1, pv⟩ from fun _ => rfl)
    have HDP := Lib.hid (show decP A = if A.getD 0 0 % 128 = 5 then ptsOf A (A.getD 1 0).toNat else [] from rfl)
    clear x0
    generalize A.getD 0 0 = x at *
    obtain ⟨hb00, hb01⟩ := hb0
    have ea : x.tmod 128 = x % 128 := Int.tmod_eq_emod_of_nonneg hb00
    have ew : IntKind.i64.wrap x = x := IntWalk.i64_in _ (by omega)
    have i0 : (0 : Int) < (A.length : Int) := by omega
    have hfr : 0 ≤ x % 128 ∧ x % 128 ≤ 127 := by omega
    generalize x % 128 = f at *
    obtain ⟨hfa, hfb⟩ := hfr
    have es : ∀ W : World, True := fun _ => trivial
    clear es
    generalize hsg : decide (128 ≤ x) = sg at HDC
    have es : decide (x ≥ 128) = sg := hsg
    clear hsg
    have d1 : decide (f < 1) = true := decide_eq_true hf
    go_enter Try.func60, Try.ntmps60
    go_wp2_with (refine wpList_store_row (cs := zK.cells) rfl 26 (.tmp 5) (.tmp 10) rfl HR1.out (by rfl) (by rfl) rfl Try.infoC zK_one ?_; intro w2 R2 M2; have HR2 := Lib.hid R2; have HQ2 := Lib.hid (M2.heap (heap_alloc (o' := .cells zK.cells 26) R0.out) (by simp)); have HM2 := Lib.hid ((M0.out.alloc (.cells zK.cells 26)).comp M2 (fun k hk => by simp at hk; exact .inr (by omega))); have hz2 := lt_of_block R2; clear R2 M2)
    go_wp2_with fail
    try dsimp only [Act.put]
    refine heldStart (S := fun W => W.cell? ⟨bb, off, none⟩ = some (.int .u8 x)) 12 rfl (by kernel_rfl) (HM2.out.drew.cell HX0.out (by simp)) (fun hHeld => ?_)
    refine takeD (i := 0) (d := 15) (v := ?_) rfl rfl (by kernel_rfl) (by kernel_rfl) (by kernel_rfl) (fun _ _ _ h => h) (Or.inl ⟨by rfl, ?_⟩) hHeld ?_
    rotate_left 1
    · (intro w hSw; (try dsimp only at hSw); go_simp; (try with_reducible rfl))
    simp only [List.setIfInBounds_toArray, List.set_cons_zero, List.set_cons_succ]
    refine takeD (i := 1) (d := 16) (v := ?_) rfl rfl (by kernel_rfl) (by kernel_rfl) (by kernel_rfl) (fun _ _ _ h => h) (Or.inl ⟨by rfl, ?_⟩) hHeld ?_
    rotate_left 1
    · (intro w hSw; (try dsimp only at hSw); go_simp; (try with_reducible rfl))
    simp only [List.setIfInBounds_toArray, List.set_cons_zero, List.set_cons_succ]
    refine takeD (i := 2) (d := 17) (v := ?_) rfl rfl (by kernel_rfl) (by kernel_rfl) (by kernel_rfl) (fun _ _ _ h => h) (Or.inl ⟨by rfl, ?_⟩) hHeld ?_
    rotate_left 1
    · (intro w hSw; (try dsimp only at hSw); go_simp; (try with_reducible rfl))
    simp only [List.setIfInBounds_toArray, List.set_cons_zero, List.set_cons_succ]
    refine takeD (i := 3) (d := 18) (v := ?_) rfl rfl (by kernel_rfl) (by kernel_rfl) (by kernel_rfl) (fun _ _ _ h => h) (Or.inl ⟨by rfl, ?_⟩) hHeld ?_
    rotate_left 1
    · (intro w hSw; (try dsimp only at hSw); go_simp; (try with_reducible rfl))
    simp only [List.setIfInBounds_toArray, List.set_cons_zero, List.set_cons_succ]
    refine takeD (i := 4) (d := 19) (v := ?_) rfl rfl (by kernel_rfl) (by kernel_rfl) (by kernel_rfl) (fun _ _ _ h => h) (Or.inl ⟨by rfl, ?_⟩) hHeld ?_
    rotate_left 1
    · (intro w hSw; (try dsimp only at hSw); go_simp; (try with_reducible rfl))
    simp only [List.setIfInBounds_toArray, List.set_cons_zero, List.set_cons_succ]
    refine takeD (i := 5) (d := 20) (v := ?_) rfl rfl (by kernel_rfl) (by kernel_rfl) (by kernel_rfl) (fun _ _ _ h => h) (Or.inl ⟨by rfl, ?_⟩) hHeld ?_
    rotate_left 1
    · (intro w hSw; (try dsimp only at hSw); go_simp; (try with_reducible rfl))
    simp only [List.setIfInBounds_toArray, List.set_cons_zero, List.set_cons_succ]
    refine takeD (i := 6) (d := 21) (v := ?_) rfl rfl (by kernel_rfl) (by kernel_rfl) (by kernel_rfl) (fun _ _ _ h => h) (Or.inl ⟨by rfl, ?_⟩) hHeld ?_
    rotate_left 1
    · (intro w hSw; (try dsimp only at hSw); go_simp; (try with_reducible rfl))
    simp only [List.setIfInBounds_toArray, List.set_cons_zero, List.set_cons_succ]
    refine takeD (i := 7) (d := 22) (v := ?_) rfl rfl (by kernel_rfl) (by kernel_rfl) (by kernel_rfl) (fun _ _ _ h => h) (Or.inl ⟨by rfl, ?_⟩) hHeld ?_
    rotate_left 1
    · (intro w hSw; (try dsimp only at hSw); go_simp; (try with_reducible rfl))
    simp only [List.setIfInBounds_toArray, List.set_cons_zero, List.set_cons_succ]
    refine takeD (i := 8) (d := 23) (v := ?_) rfl rfl (by kernel_rfl) (by kernel_rfl) (by kernel_rfl) (fun _ _ _ h => h) (Or.inl ⟨by rfl, ?_⟩) hHeld ?_
    rotate_left 1
    · (intro w hSw; (try dsimp only at hSw); go_simp; (try with_reducible rfl))
    simp only [List.setIfInBounds_toArray, List.set_cons_zero, List.set_cons_succ]
    refine takeD (i := 9) (d := 24) (v := ?_) rfl rfl (by kernel_rfl) (by kernel_rfl) (by kernel_rfl) (fun _ _ _ h => h) (Or.inl ⟨by rfl, ?_⟩) hHeld ?_
    rotate_left 1
    · (intro w hSw; (try dsimp only at hSw); go_simp; (try with_reducible rfl))
    simp only [List.setIfInBounds_toArray, List.set_cons_zero, List.set_cons_succ]
    refine wpAnyH_ready (rs := [10]) (by kernel_rfl) (by simp) ?_
    refine AllReadyH.cons rfl (fun K hK => ?_) AllReadyH.nil
    go_simp
    refine hK.out _ _ ?_ (fun hHeld => ?_)
    · exact ((Mods.refl (S := [])).alloc _).cell hHeld (by simp)
    clear hK K
    have HMA := Lib.hid (HM2.out.drew.alloc (.cells zK.cells 26))
    have HRA := Lib.hid (heap_alloc (o' := .cells zK.cells 26) (heap_drew HR2.out))
    have HQA := Lib.hid (heap_alloc (o' := .cells zK.cells 26) (heap_drew HQ2.out))
    have RGA : (w2.drew.alloc (.cells zK.cells 26)).heap[w2.heap.size]? = some (.cells zK.cells 26 (0, 0)) := heap_alloc_new w2.drew _
    have hz3 : w.heap.size + 1 < w2.heap.size := hz2
    refine wpAnyH_ready (rs := [11]) (by kernel_rfl) (by simp) ?_
    refine AllReadyH.cons rfl (fun K hK => ?_) AllReadyH.nil
    refine exec_store rfl rfl rfl RGA rfl rfl (by rfl) Try.infoC (cvC_one f sg 0 0 0 0 none 0 0) (fun w3 R3 M3 => ?_)
    refine hK.out _ _ ?_ (fun hHeld => ?_)
    · exact M3.cell hHeld (by simp; omega)
    clear hK K
    refine wpAnyH_done (by kernel_rfl) ?_ _
    have HM3 := Lib.hid (HMA.out.comp M3 (fun k hk => by simp at hk; exact .inr (by omega)))
    have HR3 := Lib.hid (M3.heap HRA.out (by simp; omega))
    have HQ3 := Lib.hid (M3.heap HQA.out (by simp; omega))
    have HG3 : Hid (w3.heap[w2.heap.size]? = some (.cells (cvC f sg 0 0 0 0 (.slice none 0 0)) 26 (0, 0))) := Lib.hid R3
    have cg0 : w3.cell? ⟨w2.heap.size, 0, none⟩ = some (.int .i64 f) := (cell_blk R3 0).trans rfl
    clear hHeld HMA HRA HQA RGA R3 M3 HM2 HR2 HQ2
    generalize w2.heap.size = g6 at HG3 cg0 hz3 ⊢
    clear ea es ew
    go_wp2_with (first
      | (refine wpList_load_row rfl 26 (.tmp 5) rfl (w.heap.size + 1) (by rfl) _ _ _ _ HR3.out Try.underlying26 rfl Try.infoC ?_)
      | (refine wpList_store_row (cs := zK.cells) rfl 26 (.tmp 2) (.tmp 33) rfl HQ3.out (by rfl) (by rfl) rfl Try.infoC zK_one ?_; intro w9 R9 M9))
    have HMX := HM3.out.comp M9 (fun k hk => by simp at hk; exact .inr (by omega))
    refine bodyPost_ret (results_cell_row3 rfl _ _ w.heap.size _ _ _ _ rfl R9 Try.underlying26 rfl Try.infoC) rfl ?_
    have := HE.out _ (by rw [HR.out]; decide) HMX
    rw [HR.out] at this
    exact this
  · skip
    have HV := Lib.hid hv
    have HB := Lib.hid hb
    obtain ⟨ad, cap, rfl, h1, h2, -⟩ := hv.u8
    have h3 : cap ≤ 9223372036854775807 := h2
    clear hv hb h2
    have HE : Hid (∀ W, errC A ≠ 0 → Mods [] w W → DecRes w A (.returned (.tuple #[.agg zK.cells, .int .i64 0, .int .i64 (errC A)])) W) := Lib.hid fun W h M => by unfold DecRes; rw [if_neg h]; exact ⟨rfl, M⟩
    have R0 := Lib.hid (heap_alloc_new w (.cells zK.cells 26))
    have M0 := Lib.hid ((Mods.refl (S := []) (w := w)).alloc (.cells zK.cells 26))
    have R1 : ((w.alloc (.cells zK.cells 26)).alloc (.cells zK.cells 26)).heap[w.heap.size + 1]? = some (.cells zK.cells 26 (0, 0)) := by
      have := heap_alloc_new (w.alloc (.cells zK.cells 26)) (.cells zK.cells 26)
      rwa [World.size_alloc] at this
    have HR1 := Lib.hid R1
    clear R1
    have hp : 0 < A.length := List.length_pos_iff.2 h0
    obtain ⟨_, _, he, _, _, hc0⟩ := HV.out.u8
    obtain ⟨bb, off, rfl, x0⟩ := hc0 0 hp
    injection he with he1 he2 he3
    subst he1 he3
    have HCC := Lib.hid (fun i (hi : i < A.length) => show w.cell? ⟨bb, off + i, none⟩ = some (.int .u8 (A.getD i 0)) from by
      obtain ⟨b', o', he, hx⟩ := hc0 i hi
      cases he
      exact hx)
    clear hc0 he2 h0
    rw [Nat.add_zero] at x0
    have hbb : bb < w.heap.size := World.block_lt_of_cell? w _ x0
    have HX0 := Lib.hid x0
    have hb0 := HB.out 0
    have HDC := Lib.hid (show ∀ pv, decC A pv = if A.getD 0 0 % 128 = 5 then ⟨5, decide (128 ≤ A.getD 0 0), 0, 0, 0, 0, pv⟩ else ⟨A.getD 0 0 % 128, decide (128 ≤ A.getD 0 0), signA A 1 2, signA A 3 2, signA A 5 1, signA A 6 1, pv⟩ from fun _ => rfl)
    have HDP := Lib.hid (show decP A = if A.getD 0 0 % 128 = 5 then ptsOf A (A.getD 1 0).toNat else [] from rfl)
    clear x0
    generalize A.getD 0 0 = x at *
    obtain ⟨hb00, hb01⟩ := hb0
    have ea : x.tmod 128 = x % 128 := Int.tmod_eq_emod_of_nonneg hb00
    have ew : IntKind.i64.wrap x = x := IntWalk.i64_in _ (by omega)
    have i0 : (0 : Int) < (A.length : Int) := by omega
    have hfr : 0 ≤ x % 128 ∧ x % 128 ≤ 127 := by omega
    generalize x % 128 = f at *
    obtain ⟨hfa, hfb⟩ := hfr
    have es : ∀ W : World, True := fun _ => trivial
    clear es
    generalize hsg : decide (128 ≤ x) = sg at HDC
    have es : decide (x ≥ 128) = sg := hsg
    clear hsg
    have d1 : decide (f < 1) = false := decide_eq_false (by omega)
    have d2 : decide (f > 5) = true := decide_eq_true hf
    go_enter Try.func60, Try.ntmps60
    go_wp2_with (refine wpList_store_row (cs := zK.cells) rfl 26 (.tmp 5) (.tmp 10) rfl HR1.out (by rfl) (by rfl) rfl Try.infoC zK_one ?_; intro w2 R2 M2; have HR2 := Lib.hid R2; have HQ2 := Lib.hid (M2.heap (heap_alloc (o' := .cells zK.cells 26) R0.out) (by simp)); have HM2 := Lib.hid ((M0.out.alloc (.cells zK.cells 26)).comp M2 (fun k hk => by simp at hk; exact .inr (by omega))); have hz2 := lt_of_block R2; clear R2 M2)
    go_wp2_with fail
    try dsimp only [Act.put]
    refine heldStart (S := fun W => W.cell? ⟨bb, off, none⟩ = some (.int .u8 x)) 12 rfl (by kernel_rfl) (HM2.out.drew.cell HX0.out (by simp)) (fun hHeld => ?_)
    refine takeD (i := 0) (d := 15) (v := ?_) rfl rfl (by kernel_rfl) (by kernel_rfl) (by kernel_rfl) (fun _ _ _ h => h) (Or.inl ⟨by rfl, ?_⟩) hHeld ?_
    rotate_left 1
    · (intro w hSw; (try dsimp only at hSw); go_simp; (try with_reducible rfl))
    simp only [List.setIfInBounds_toArray, List.set_cons_zero, List.set_cons_succ]
    refine takeD (i := 1) (d := 16) (v := ?_) rfl rfl (by kernel_rfl) (by kernel_rfl) (by kernel_rfl) (fun _ _ _ h => h) (Or.inl ⟨by rfl, ?_⟩) hHeld ?_
    rotate_left 1
    · (intro w hSw; (try dsimp only at hSw); go_simp; (try with_reducible rfl))
    simp only [List.setIfInBounds_toArray, List.set_cons_zero, List.set_cons_succ]
    refine takeD (i := 2) (d := 17) (v := ?_) rfl rfl (by kernel_rfl) (by kernel_rfl) (by kernel_rfl) (fun _ _ _ h => h) (Or.inl ⟨by rfl, ?_⟩) hHeld ?_
    rotate_left 1
    · (intro w hSw; (try dsimp only at hSw); go_simp; (try with_reducible rfl))
    simp only [List.setIfInBounds_toArray, List.set_cons_zero, List.set_cons_succ]
    refine takeD (i := 3) (d := 18) (v := ?_) rfl rfl (by kernel_rfl) (by kernel_rfl) (by kernel_rfl) (fun _ _ _ h => h) (Or.inl ⟨by rfl, ?_⟩) hHeld ?_
    rotate_left 1
    · (intro w hSw; (try dsimp only at hSw); go_simp; (try with_reducible rfl))
    simp only [List.setIfInBounds_toArray, List.set_cons_zero, List.set_cons_succ]
    refine takeD (i := 4) (d := 19) (v := ?_) rfl rfl (by kernel_rfl) (by kernel_rfl) (by kernel_rfl) (fun _ _ _ h => h) (Or.inl ⟨by rfl, ?_⟩) hHeld ?_
    rotate_left 1
    · (intro w hSw; (try dsimp only at hSw); go_simp; (try with_reducible rfl))
    simp only [List.setIfInBounds_toArray, List.set_cons_zero, List.set_cons_succ]
    refine takeD (i := 5) (d := 20) (v := ?_) rfl rfl (by kernel_rfl) (by kernel_rfl) (by kernel_rfl) (fun _ _ _ h => h) (Or.inl ⟨by rfl, ?_⟩) hHeld ?_
    rotate_left 1
    · (intro w hSw; (try dsimp only at hSw); go_simp; (try with_reducible rfl))
    simp only [List.setIfInBounds_toArray, List.set_cons_zero, List.set_cons_succ]
    refine takeD (i := 6) (d := 21) (v := ?_) rfl rfl (by kernel_rfl) (by kernel_rfl) (by kernel_rfl) (fun _ _ _ h => h) (Or.inl ⟨by rfl, ?_⟩) hHeld ?_
    rotate_left 1
    · (intro w hSw; (try dsimp only at hSw); go_simp; (try with_reducible rfl))
    simp only [List.setIfInBounds_toArray, List.set_cons_zero, List.set_cons_succ]
    refine takeD (i := 7) (d := 22) (v := ?_) rfl rfl (by kernel_rfl) (by kernel_rfl) (by kernel_rfl) (fun _ _ _ h => h) (Or.inl ⟨by rfl, ?_⟩) hHeld ?_
    rotate_left 1
    · (intro w hSw; (try dsimp only at hSw); go_simp; (try with_reducible rfl))
    simp only [List.setIfInBounds_toArray, List.set_cons_zero, List.set_cons_succ]
    refine takeD (i := 8) (d := 23) (v := ?_) rfl rfl (by kernel_rfl) (by kernel_rfl) (by kernel_rfl) (fun _ _ _ h => h) (Or.inl ⟨by rfl, ?_⟩) hHeld ?_
    rotate_left 1
    · (intro w hSw; (try dsimp only at hSw); go_simp; (try with_reducible rfl))
    simp only [List.setIfInBounds_toArray, List.set_cons_zero, List.set_cons_succ]
    refine takeD (i := 9) (d := 24) (v := ?_) rfl rfl (by kernel_rfl) (by kernel_rfl) (by kernel_rfl) (fun _ _ _ h => h) (Or.inl ⟨by rfl, ?_⟩) hHeld ?_
    rotate_left 1
    · (intro w hSw; (try dsimp only at hSw); go_simp; (try with_reducible rfl))
    simp only [List.setIfInBounds_toArray, List.set_cons_zero, List.set_cons_succ]
    refine wpAnyH_ready (rs := [10]) (by kernel_rfl) (by simp) ?_
    refine AllReadyH.cons rfl (fun K hK => ?_) AllReadyH.nil
    go_simp
    refine hK.out _ _ ?_ (fun hHeld => ?_)
    · exact ((Mods.refl (S := [])).alloc _).cell hHeld (by simp)
    clear hK K
    have HMA := Lib.hid (HM2.out.drew.alloc (.cells zK.cells 26))
    have HRA := Lib.hid (heap_alloc (o' := .cells zK.cells 26) (heap_drew HR2.out))
    have HQA := Lib.hid (heap_alloc (o' := .cells zK.cells 26) (heap_drew HQ2.out))
    have RGA : (w2.drew.alloc (.cells zK.cells 26)).heap[w2.heap.size]? = some (.cells zK.cells 26 (0, 0)) := heap_alloc_new w2.drew _
    have hz3 : w.heap.size + 1 < w2.heap.size := hz2
    refine wpAnyH_ready (rs := [11]) (by kernel_rfl) (by simp) ?_
    refine AllReadyH.cons rfl (fun K hK => ?_) AllReadyH.nil
    refine exec_store rfl rfl rfl RGA rfl rfl (by rfl) Try.infoC (cvC_one f sg 0 0 0 0 none 0 0) (fun w3 R3 M3 => ?_)
    refine hK.out _ _ ?_ (fun hHeld => ?_)
    · exact M3.cell hHeld (by simp; omega)
    clear hK K
    refine wpAnyH_done (by kernel_rfl) ?_ _
    have HM3 := Lib.hid (HMA.out.comp M3 (fun k hk => by simp at hk; exact .inr (by omega)))
    have HR3 := Lib.hid (M3.heap HRA.out (by simp; omega))
    have HQ3 := Lib.hid (M3.heap HQA.out (by simp; omega))
    have HG3 : Hid (w3.heap[w2.heap.size]? = some (.cells (cvC f sg 0 0 0 0 (.slice none 0 0)) 26 (0, 0))) := Lib.hid R3
    have cg0 : w3.cell? ⟨w2.heap.size, 0, none⟩ = some (.int .i64 f) := (cell_blk R3 0).trans rfl
    clear hHeld HMA HRA HQA RGA R3 M3 HM2 HR2 HQ2
    generalize w2.heap.size = g6 at HG3 cg0 hz3 ⊢
    clear ea es ew
    go_wp2_with (first
      | (refine wpList_load_row rfl 26 (.tmp 5) rfl (w.heap.size + 1) (by rfl) _ _ _ _ HR3.out Try.underlying26 rfl Try.infoC ?_)
      | (refine wpList_store_row (cs := zK.cells) rfl 26 (.tmp 2) (.tmp 33) rfl HQ3.out (by rfl) (by rfl) rfl Try.infoC zK_one ?_; intro w9 R9 M9))
    have HMX := HM3.out.comp M9 (fun k hk => by simp at hk; exact .inr (by omega))
    refine bodyPost_ret (results_cell_row3 rfl _ _ w.heap.size _ _ _ _ rfl R9 Try.underlying26 rfl Try.infoC) rfl ?_
    have := HE.out _ (by rw [HR.out]; decide) HMX
    rw [HR.out] at this
    exact this
set_option maxRecDepth 100000 in
set_option maxHeartbeats 4000000 in
theorem refDec_one (w : World) (v : Value) (A : List Int) (hv : Rd w v (u8s A)) (hb : Bytes A) (h0 : A ≠ []) (hf : A.getD 0 0 % 128 = 5) (hl : A.length = 1) :
    Calls Try.prog 60 #[v] w fun e w' => DecRes w A e w' := by
  have HR := Lib.hid (errC_len (lenC_one h0 hf hl) (by decide))
  have HV := Lib.hid hv
  have HB := Lib.hid hb
  obtain ⟨ad, cap, rfl, h1, h2, -⟩ := hv.u8
  have h3 : cap ≤ 9223372036854775807 := h2
  clear hv hb h2
  have HE : Hid (∀ W, errC A ≠ 0 → Mods [] w W → DecRes w A (.returned (.tuple #[.agg zK.cells, .int .i64 0, .int .i64 (errC A)])) W) := Lib.hid fun W h M => by unfold DecRes; rw [if_neg h]; exact ⟨rfl, M⟩
  have R0 := Lib.hid (heap_alloc_new w (.cells zK.cells 26))
  have M0 := Lib.hid ((Mods.refl (S := []) (w := w)).alloc (.cells zK.cells 26))
  have R1 : ((w.alloc (.cells zK.cells 26)).alloc (.cells zK.cells 26)).heap[w.heap.size + 1]? = some (.cells zK.cells 26 (0, 0)) := by
    have := heap_alloc_new (w.alloc (.cells zK.cells 26)) (.cells zK.cells 26)
    rwa [World.size_alloc] at this
  have HR1 := Lib.hid R1
  clear R1
  have hp : 0 < A.length := List.length_pos_iff.2 h0
  obtain ⟨_, _, he, _, _, hc0⟩ := HV.out.u8
  obtain ⟨bb, off, rfl, x0⟩ := hc0 0 hp
  injection he with he1 he2 he3
  subst he1 he3
  have HCC := Lib.hid (fun i (hi : i < A.length) => show w.cell? ⟨bb, off + i, none⟩ = some (.int .u8 (A.getD i 0)) from by
    obtain ⟨b', o', he, hx⟩ := hc0 i hi
    cases he
    exact hx)
  clear hc0 he2 h0
  rw [Nat.add_zero] at x0
  have hbb : bb < w.heap.size := World.block_lt_of_cell? w _ x0
  have HX0 := Lib.hid x0
  have hb0 := HB.out 0
  have HDC := Lib.hid (show ∀ pv, decC A pv = if A.getD 0 0 % 128 = 5 then ⟨5, decide (128 ≤ A.getD 0 0), 0, 0, 0, 0, pv⟩ else ⟨A.getD 0 0 % 128, decide (128 ≤ A.getD 0 0), signA A 1 2, signA A 3 2, signA A 5 1, signA A 6 1, pv⟩ from fun _ => rfl)
  have HDP := Lib.hid (show decP A = if A.getD 0 0 % 128 = 5 then ptsOf A (A.getD 1 0).toNat else [] from rfl)
  clear x0
  generalize A.getD 0 0 = x at *
  obtain ⟨hb00, hb01⟩ := hb0
  have ea : x.tmod 128 = x % 128 := Int.tmod_eq_emod_of_nonneg hb00
  have ew : IntKind.i64.wrap x = x := IntWalk.i64_in _ (by omega)
  have i0 : (0 : Int) < (A.length : Int) := by omega
  have hfr : 0 ≤ x % 128 ∧ x % 128 ≤ 127 := by omega
  generalize x % 128 = f at *
  obtain ⟨hfa, hfb⟩ := hfr
  have es : ∀ W : World, True := fun _ => trivial
  clear es
  generalize hsg : decide (128 ≤ x) = sg at HDC
  have es : decide (x ≥ 128) = sg := hsg
  clear hsg
  subst hf
  have d4 : decide ((A.length : Int) < 2) = true := decide_eq_true (by omega)
  go_enter Try.func60, Try.ntmps60
  go_wp2_with (refine wpList_store_row (cs := zK.cells) rfl 26 (.tmp 5) (.tmp 10) rfl HR1.out (by rfl) (by rfl) rfl Try.infoC zK_one ?_; intro w2 R2 M2; have HR2 := Lib.hid R2; have HQ2 := Lib.hid (M2.heap (heap_alloc (o' := .cells zK.cells 26) R0.out) (by simp)); have HM2 := Lib.hid ((M0.out.alloc (.cells zK.cells 26)).comp M2 (fun k hk => by simp at hk; exact .inr (by omega))); have hz2 := lt_of_block R2; clear R2 M2)
  go_wp2_with fail
  try dsimp only [Act.put]
  refine heldStart (S := fun W => W.cell? ⟨bb, off, none⟩ = some (.int .u8 x)) 12 rfl (by kernel_rfl) (HM2.out.drew.cell HX0.out (by simp)) (fun hHeld => ?_)
  refine takeD (i := 0) (d := 15) (v := ?_) rfl rfl (by kernel_rfl) (by kernel_rfl) (by kernel_rfl) (fun _ _ _ h => h) (Or.inl ⟨by rfl, ?_⟩) hHeld ?_
  rotate_left 1
  · (intro w hSw; (try dsimp only at hSw); go_simp; (try with_reducible rfl))
  simp only [List.setIfInBounds_toArray, List.set_cons_zero, List.set_cons_succ]
  refine takeD (i := 1) (d := 16) (v := ?_) rfl rfl (by kernel_rfl) (by kernel_rfl) (by kernel_rfl) (fun _ _ _ h => h) (Or.inl ⟨by rfl, ?_⟩) hHeld ?_
  rotate_left 1
  · (intro w hSw; (try dsimp only at hSw); go_simp; (try with_reducible rfl))
  simp only [List.setIfInBounds_toArray, List.set_cons_zero, List.set_cons_succ]
  refine takeD (i := 2) (d := 17) (v := ?_) rfl rfl (by kernel_rfl) (by kernel_rfl) (by kernel_rfl) (fun _ _ _ h => h) (Or.inl ⟨by rfl, ?_⟩) hHeld ?_
  rotate_left 1
  · (intro w hSw; (try dsimp only at hSw); go_simp; (try with_reducible rfl))
  simp only [List.setIfInBounds_toArray, List.set_cons_zero, List.set_cons_succ]
  refine takeD (i := 3) (d := 18) (v := ?_) rfl rfl (by kernel_rfl) (by kernel_rfl) (by kernel_rfl) (fun _ _ _ h => h) (Or.inl ⟨by rfl, ?_⟩) hHeld ?_
  rotate_left 1
  · (intro w hSw; (try dsimp only at hSw); go_simp; (try with_reducible rfl))
  simp only [List.setIfInBounds_toArray, List.set_cons_zero, List.set_cons_succ]
  refine takeD (i := 4) (d := 19) (v := ?_) rfl rfl (by kernel_rfl) (by kernel_rfl) (by kernel_rfl) (fun _ _ _ h => h) (Or.inl ⟨by rfl, ?_⟩) hHeld ?_
  rotate_left 1
  · (intro w hSw; (try dsimp only at hSw); go_simp; (try with_reducible rfl))
  simp only [List.setIfInBounds_toArray, List.set_cons_zero, List.set_cons_succ]
  refine takeD (i := 5) (d := 20) (v := ?_) rfl rfl (by kernel_rfl) (by kernel_rfl) (by kernel_rfl) (fun _ _ _ h => h) (Or.inl ⟨by rfl, ?_⟩) hHeld ?_
  rotate_left 1
  · (intro w hSw; (try dsimp only at hSw); go_simp; (try with_reducible rfl))
  simp only [List.setIfInBounds_toArray, List.set_cons_zero, List.set_cons_succ]
  refine takeD (i := 6) (d := 21) (v := ?_) rfl rfl (by kernel_rfl) (by kernel_rfl) (by kernel_rfl) (fun _ _ _ h => h) (Or.inl ⟨by rfl, ?_⟩) hHeld ?_
  rotate_left 1
  · (intro w hSw; (try dsimp only at hSw); go_simp; (try with_reducible rfl))
  simp only [List.setIfInBounds_toArray, List.set_cons_zero, List.set_cons_succ]
  refine takeD (i := 7) (d := 22) (v := ?_) rfl rfl (by kernel_rfl) (by kernel_rfl) (by kernel_rfl) (fun _ _ _ h => h) (Or.inl ⟨by rfl, ?_⟩) hHeld ?_
  rotate_left 1
  · (intro w hSw; (try dsimp only at hSw); go_simp; (try with_reducible rfl))
  simp only [List.setIfInBounds_toArray, List.set_cons_zero, List.set_cons_succ]
  refine takeD (i := 8) (d := 23) (v := ?_) rfl rfl (by kernel_rfl) (by kernel_rfl) (by kernel_rfl) (fun _ _ _ h => h) (Or.inl ⟨by rfl, ?_⟩) hHeld ?_
  rotate_left 1
  · (intro w hSw; (try dsimp only at hSw); go_simp; (try with_reducible rfl))
  simp only [List.setIfInBounds_toArray, List.set_cons_zero, List.set_cons_succ]
  refine takeD (i := 9) (d := 24) (v := ?_) rfl rfl (by kernel_rfl) (by kernel_rfl) (by kernel_rfl) (fun _ _ _ h => h) (Or.inl ⟨by rfl, ?_⟩) hHeld ?_
  rotate_left 1
  · (intro w hSw; (try dsimp only at hSw); go_simp; (try with_reducible rfl))
  simp only [List.setIfInBounds_toArray, List.set_cons_zero, List.set_cons_succ]
  refine wpAnyH_ready (rs := [10]) (by kernel_rfl) (by simp) ?_
  refine AllReadyH.cons rfl (fun K hK => ?_) AllReadyH.nil
  go_simp
  refine hK.out _ _ ?_ (fun hHeld => ?_)
  · exact ((Mods.refl (S := [])).alloc _).cell hHeld (by simp)
  clear hK K
  have HMA := Lib.hid (HM2.out.drew.alloc (.cells zK.cells 26))
  have HRA := Lib.hid (heap_alloc (o' := .cells zK.cells 26) (heap_drew HR2.out))
  have HQA := Lib.hid (heap_alloc (o' := .cells zK.cells 26) (heap_drew HQ2.out))
  have RGA : (w2.drew.alloc (.cells zK.cells 26)).heap[w2.heap.size]? = some (.cells zK.cells 26 (0, 0)) := heap_alloc_new w2.drew _
  have hz3 : w.heap.size + 1 < w2.heap.size := hz2
  refine wpAnyH_ready (rs := [11]) (by kernel_rfl) (by simp) ?_
  refine AllReadyH.cons rfl (fun K hK => ?_) AllReadyH.nil
  refine exec_store rfl rfl rfl RGA rfl rfl (by rfl) Try.infoC (cvC_one 5 sg 0 0 0 0 none 0 0) (fun w3 R3 M3 => ?_)
  refine hK.out _ _ ?_ (fun hHeld => ?_)
  · exact M3.cell hHeld (by simp; omega)
  clear hK K
  refine wpAnyH_done (by kernel_rfl) ?_ _
  have HM3 := Lib.hid (HMA.out.comp M3 (fun k hk => by simp at hk; exact .inr (by omega)))
  have HR3 := Lib.hid (M3.heap HRA.out (by simp; omega))
  have HQ3 := Lib.hid (M3.heap HQA.out (by simp; omega))
  have HG3 : Hid (w3.heap[w2.heap.size]? = some (.cells (cvC 5 sg 0 0 0 0 (.slice none 0 0)) 26 (0, 0))) := Lib.hid R3
  have cg0 : w3.cell? ⟨w2.heap.size, 0, none⟩ = some (.int .i64 5) := (cell_blk R3 0).trans rfl
  clear hHeld HMA HRA HQA RGA R3 M3 HM2 HR2 HQ2
  generalize w2.heap.size = g6 at HG3 cg0 hz3 ⊢
  clear ea es ew
  go_wp2_with (first
    | (refine wpList_load_row rfl 26 (.tmp 5) rfl (w.heap.size + 1) (by rfl) _ _ _ _ HR3.out Try.underlying26 rfl Try.infoC ?_)
    | (refine wpList_store_row (cs := zK.cells) rfl 26 (.tmp 2) (.tmp 40) rfl HQ3.out (by rfl) (by rfl) rfl Try.infoC zK_one ?_; intro w9 R9 M9))
  have HMX := HM3.out.comp M9 (fun k hk => by simp at hk; exact .inr (by omega))
  refine bodyPost_ret (results_cell_row3 rfl _ _ w.heap.size _ _ _ _ rfl R9 Try.underlying26 rfl Try.infoC) rfl ?_
  have := HE.out _ (by rw [HR.out]; decide) HMX
  rw [HR.out] at this
  exact this
set_option maxRecDepth 100000 in
set_option maxHeartbeats 4000000 in
theorem refDec_pts (w : World) (v : Value) (A : List Int) (hv : Rd w v (u8s A)) (hb : Bytes A) (h0 : A ≠ []) (hf : A.getD 0 0 % 128 = 5) (hl : A.length ≠ 1) (hy : A.getD 1 0 < 2 ∨ 12 < A.getD 1 0) :
    Calls Try.prog 60 #[v] w fun e w' => DecRes w A e w' := by
  have HR := Lib.hid (errC_len (lenC_pts h0 hf hl hy) (by decide))
  rcases hy with hy | hy
  · skip
    have HV := Lib.hid hv
    have HB := Lib.hid hb
    obtain ⟨ad, cap, rfl, h1, h2, -⟩ := hv.u8
    have h3 : cap ≤ 9223372036854775807 := h2
    clear hv hb h2
    have HE : Hid (∀ W, errC A ≠ 0 → Mods [] w W → DecRes w A (.returned (.tuple #[.agg zK.cells, .int .i64 0, .int .i64 (errC A)])) W) := Lib.hid fun W h M => by unfold DecRes; rw [if_neg h]; exact ⟨rfl, M⟩
    have R0 := Lib.hid (heap_alloc_new w (.cells zK.cells 26))
    have M0 := Lib.hid ((Mods.refl (S := []) (w := w)).alloc (.cells zK.cells 26))
    have R1 : ((w.alloc (.cells zK.cells 26)).alloc (.cells zK.cells 26)).heap[w.heap.size + 1]? = some (.cells zK.cells 26 (0, 0)) := by
      have := heap_alloc_new (w.alloc (.cells zK.cells 26)) (.cells zK.cells 26)
      rwa [World.size_alloc] at this
    have HR1 := Lib.hid R1
    clear R1
    have hp : 0 < A.length := List.length_pos_iff.2 h0
    obtain ⟨_, _, he, _, _, hc0⟩ := HV.out.u8
    obtain ⟨bb, off, rfl, x0⟩ := hc0 0 hp
    injection he with he1 he2 he3
    subst he1 he3
    have HCC := Lib.hid (fun i (hi : i < A.length) => show w.cell? ⟨bb, off + i, none⟩ = some (.int .u8 (A.getD i 0)) from by
      obtain ⟨b', o', he, hx⟩ := hc0 i hi
      cases he
      exact hx)
    clear hc0 he2 h0
    rw [Nat.add_zero] at x0
    have hbb : bb < w.heap.size := World.block_lt_of_cell? w _ x0
    have HX0 := Lib.hid x0
    have hb0 := HB.out 0
    have HDC := Lib.hid (show ∀ pv, decC A pv = if A.getD 0 0 % 128 = 5 then ⟨5, decide (128 ≤ A.getD 0 0), 0, 0, 0, 0, pv⟩ else ⟨A.getD 0 0 % 128, decide (128 ≤ A.getD 0 0), signA A 1 2, signA A 3 2, signA A 5 1, signA A 6 1, pv⟩ from fun _ => rfl)
    have HDP := Lib.hid (show decP A = if A.getD 0 0 % 128 = 5 then ptsOf A (A.getD 1 0).toNat else [] from rfl)
    clear x0
    generalize A.getD 0 0 = x at *
    obtain ⟨hb00, hb01⟩ := hb0
    have ea : x.tmod 128 = x % 128 := Int.tmod_eq_emod_of_nonneg hb00
    have ew : IntKind.i64.wrap x = x := IntWalk.i64_in _ (by omega)
    have i0 : (0 : Int) < (A.length : Int) := by omega
    have hfr : 0 ≤ x % 128 ∧ x % 128 ≤ 127 := by omega
    generalize x % 128 = f at *
    obtain ⟨hfa, hfb⟩ := hfr
    have es : ∀ W : World, True := fun _ => trivial
    clear es
    generalize hsg : decide (128 ≤ x) = sg at HDC
    have es : decide (x ≥ 128) = sg := hsg
    clear hsg
    have hl2 : 2 ≤ A.length := by omega
    have i1 : (1 : Int) < (A.length : Int) := by omega
    have d4 : decide ((A.length : Int) < 2) = false := decide_eq_false (by omega)
    have HX1 := Lib.hid (HCC.out 1 (by omega))
    have hb1 := HB.out 1
    generalize A.getD 1 0 = y at *
    subst hf
    have d5 : decide (y < 2) = true := decide_eq_true hy
    go_enter Try.func60, Try.ntmps60
    go_wp2_with (refine wpList_store_row (cs := zK.cells) rfl 26 (.tmp 5) (.tmp 10) rfl HR1.out (by rfl) (by rfl) rfl Try.infoC zK_one ?_; intro w2 R2 M2; have HR2 := Lib.hid R2; have HQ2 := Lib.hid (M2.heap (heap_alloc (o' := .cells zK.cells 26) R0.out) (by simp)); have HM2 := Lib.hid ((M0.out.alloc (.cells zK.cells 26)).comp M2 (fun k hk => by simp at hk; exact .inr (by omega))); have hz2 := lt_of_block R2; clear R2 M2)
    go_wp2_with fail
    try dsimp only [Act.put]
    refine heldStart (S := fun W => W.cell? ⟨bb, off, none⟩ = some (.int .u8 x)) 12 rfl (by kernel_rfl) (HM2.out.drew.cell HX0.out (by simp)) (fun hHeld => ?_)
    refine takeD (i := 0) (d := 15) (v := ?_) rfl rfl (by kernel_rfl) (by kernel_rfl) (by kernel_rfl) (fun _ _ _ h => h) (Or.inl ⟨by rfl, ?_⟩) hHeld ?_
    rotate_left 1
    · (intro w hSw; (try dsimp only at hSw); go_simp; (try with_reducible rfl))
    simp only [List.setIfInBounds_toArray, List.set_cons_zero, List.set_cons_succ]
    refine takeD (i := 1) (d := 16) (v := ?_) rfl rfl (by kernel_rfl) (by kernel_rfl) (by kernel_rfl) (fun _ _ _ h => h) (Or.inl ⟨by rfl, ?_⟩) hHeld ?_
    rotate_left 1
    · (intro w hSw; (try dsimp only at hSw); go_simp; (try with_reducible rfl))
    simp only [List.setIfInBounds_toArray, List.set_cons_zero, List.set_cons_succ]
    refine takeD (i := 2) (d := 17) (v := ?_) rfl rfl (by kernel_rfl) (by kernel_rfl) (by kernel_rfl) (fun _ _ _ h => h) (Or.inl ⟨by rfl, ?_⟩) hHeld ?_
    rotate_left 1
    · (intro w hSw; (try dsimp only at hSw); go_simp; (try with_reducible rfl))
    simp only [List.setIfInBounds_toArray, List.set_cons_zero, List.set_cons_succ]
    refine takeD (i := 3) (d := 18) (v := ?_) rfl rfl (by kernel_rfl) (by kernel_rfl) (by kernel_rfl) (fun _ _ _ h => h) (Or.inl ⟨by rfl, ?_⟩) hHeld ?_
    rotate_left 1
    · (intro w hSw; (try dsimp only at hSw); go_simp; (try with_reducible rfl))
    simp only [List.setIfInBounds_toArray, List.set_cons_zero, List.set_cons_succ]
    refine takeD (i := 4) (d := 19) (v := ?_) rfl rfl (by kernel_rfl) (by kernel_rfl) (by kernel_rfl) (fun _ _ _ h => h) (Or.inl ⟨by rfl, ?_⟩) hHeld ?_
    rotate_left 1
    · (intro w hSw; (try dsimp only at hSw); go_simp; (try with_reducible rfl))
    simp only [List.setIfInBounds_toArray, List.set_cons_zero, List.set_cons_succ]
    refine takeD (i := 5) (d := 20) (v := ?_) rfl rfl (by kernel_rfl) (by kernel_rfl) (by kernel_rfl) (fun _ _ _ h => h) (Or.inl ⟨by rfl, ?_⟩) hHeld ?_
    rotate_left 1
    · (intro w hSw; (try dsimp only at hSw); go_simp; (try with_reducible rfl))
    simp only [List.setIfInBounds_toArray, List.set_cons_zero, List.set_cons_succ]
    refine takeD (i := 6) (d := 21) (v := ?_) rfl rfl (by kernel_rfl) (by kernel_rfl) (by kernel_rfl) (fun _ _ _ h => h) (Or.inl ⟨by rfl, ?_⟩) hHeld ?_
    rotate_left 1
    · (intro w hSw; (try dsimp only at hSw); go_simp; (try with_reducible rfl))
    simp only [List.setIfInBounds_toArray, List.set_cons_zero, List.set_cons_succ]
    refine takeD (i := 7) (d := 22) (v := ?_) rfl rfl (by kernel_rfl) (by kernel_rfl) (by kernel_rfl) (fun _ _ _ h => h) (Or.inl ⟨by rfl, ?_⟩) hHeld ?_
    rotate_left 1
    · (intro w hSw; (try dsimp only at hSw); go_simp; (try with_reducible rfl))
    simp only [List.setIfInBounds_toArray, List.set_cons_zero, List.set_cons_succ]
    refine takeD (i := 8) (d := 23) (v := ?_) rfl rfl (by kernel_rfl) (by kernel_rfl) (by kernel_rfl) (fun _ _ _ h => h) (Or.inl ⟨by rfl, ?_⟩) hHeld ?_
    rotate_left 1
    · (intro w hSw; (try dsimp only at hSw); go_simp; (try with_reducible rfl))
    simp only [List.setIfInBounds_toArray, List.set_cons_zero, List.set_cons_succ]
    refine takeD (i := 9) (d := 24) (v := ?_) rfl rfl (by kernel_rfl) (by kernel_rfl) (by kernel_rfl) (fun _ _ _ h => h) (Or.inl ⟨by rfl, ?_⟩) hHeld ?_
    rotate_left 1
    · (intro w hSw; (try dsimp only at hSw); go_simp; (try with_reducible rfl))
    simp only [List.setIfInBounds_toArray, List.set_cons_zero, List.set_cons_succ]
    refine wpAnyH_ready (rs := [10]) (by kernel_rfl) (by simp) ?_
    refine AllReadyH.cons rfl (fun K hK => ?_) AllReadyH.nil
    go_simp
    refine hK.out _ _ ?_ (fun hHeld => ?_)
    · exact ((Mods.refl (S := [])).alloc _).cell hHeld (by simp)
    clear hK K
    have HMA := Lib.hid (HM2.out.drew.alloc (.cells zK.cells 26))
    have HRA := Lib.hid (heap_alloc (o' := .cells zK.cells 26) (heap_drew HR2.out))
    have HQA := Lib.hid (heap_alloc (o' := .cells zK.cells 26) (heap_drew HQ2.out))
    have RGA : (w2.drew.alloc (.cells zK.cells 26)).heap[w2.heap.size]? = some (.cells zK.cells 26 (0, 0)) := heap_alloc_new w2.drew _
    have hz3 : w.heap.size + 1 < w2.heap.size := hz2
    refine wpAnyH_ready (rs := [11]) (by kernel_rfl) (by simp) ?_
    refine AllReadyH.cons rfl (fun K hK => ?_) AllReadyH.nil
    refine exec_store rfl rfl rfl RGA rfl rfl (by rfl) Try.infoC (cvC_one 5 sg 0 0 0 0 none 0 0) (fun w3 R3 M3 => ?_)
    refine hK.out _ _ ?_ (fun hHeld => ?_)
    · exact M3.cell hHeld (by simp; omega)
    clear hK K
    refine wpAnyH_done (by kernel_rfl) ?_ _
    have HM3 := Lib.hid (HMA.out.comp M3 (fun k hk => by simp at hk; exact .inr (by omega)))
    have HR3 := Lib.hid (M3.heap HRA.out (by simp; omega))
    have HQ3 := Lib.hid (M3.heap HQA.out (by simp; omega))
    have HG3 : Hid (w3.heap[w2.heap.size]? = some (.cells (cvC 5 sg 0 0 0 0 (.slice none 0 0)) 26 (0, 0))) := Lib.hid R3
    have cg0 : w3.cell? ⟨w2.heap.size, 0, none⟩ = some (.int .i64 5) := (cell_blk R3 0).trans rfl
    clear hHeld HMA HRA HQA RGA R3 M3 HM2 HR2 HQ2
    generalize w2.heap.size = g6 at HG3 cg0 hz3 ⊢
    clear ea es ew
    have x1 : w3.cell? ⟨bb, off + 1, none⟩ = some (.int .u8 y) := HM3.out.cell HX1.out (by simp)
    go_wp2_with (first
      | (refine wpList_load_row rfl 26 (.tmp 5) rfl (w.heap.size + 1) (by rfl) _ _ _ _ HR3.out Try.underlying26 rfl Try.infoC ?_)
      | (refine wpList_store_row (cs := zK.cells) rfl 26 (.tmp 2) (.tmp 51) rfl HQ3.out (by rfl) (by rfl) rfl Try.infoC zK_one ?_; intro w9 R9 M9))
    have HMX := HM3.out.comp M9 (fun k hk => by simp at hk; exact .inr (by omega))
    refine bodyPost_ret (results_cell_row3 rfl _ _ w.heap.size _ _ _ _ rfl R9 Try.underlying26 rfl Try.infoC) rfl ?_
    have := HE.out _ (by rw [HR.out]; decide) HMX
    rw [HR.out] at this
    exact this
  · skip
    have HV := Lib.hid hv
    have HB := Lib.hid hb
    obtain ⟨ad, cap, rfl, h1, h2, -⟩ := hv.u8
    have h3 : cap ≤ 9223372036854775807 := h2
    clear hv hb h2
    have HE : Hid (∀ W, errC A ≠ 0 → Mods [] w W → DecRes w A (.returned (.tuple #[.agg zK.cells, .int .i64 0, .int .i64 (errC A)])) W) := Lib.hid fun W h M => by unfold DecRes; rw [if_neg h]; exact ⟨rfl, M⟩
    have R0 := Lib.hid (heap_alloc_new w (.cells zK.cells 26))
    have M0 := Lib.hid ((Mods.refl (S := []) (w := w)).alloc (.cells zK.cells 26))
    have R1 : ((w.alloc (.cells zK.cells 26)).alloc (.cells zK.cells 26)).heap[w.heap.size + 1]? = some (.cells zK.cells 26 (0, 0)) := by
      have := heap_alloc_new (w.alloc (.cells zK.cells 26)) (.cells zK.cells 26)
      rwa [World.size_alloc] at this
    have HR1 := Lib.hid R1
    clear R1
    have hp : 0 < A.length := List.length_pos_iff.2 h0
    obtain ⟨_, _, he, _, _, hc0⟩ := HV.out.u8
    obtain ⟨bb, off, rfl, x0⟩ := hc0 0 hp
    injection he with he1 he2 he3
    subst he1 he3
    have HCC := Lib.hid (fun i (hi : i < A.length) => show w.cell? ⟨bb, off + i, none⟩ = some (.int .u8 (A.getD i 0)) from by
      obtain ⟨b', o', he, hx⟩ := hc0 i hi
      cases he
      exact hx)
    clear hc0 he2 h0
    rw [Nat.add_zero] at x0
    have hbb : bb < w.heap.size := World.block_lt_of_cell? w _ x0
    have HX0 := Lib.hid x0
    have hb0 := HB.out 0
    have HDC := Lib.hid (show ∀ pv, decC A pv = if A.getD 0 0 % 128 = 5 then ⟨5, decide (128 ≤ A.getD 0 0), 0, 0, 0, 0, pv⟩ else ⟨A.getD 0 0 % 128, decide (128 ≤ A.getD 0 0), signA A 1 2, signA A 3 2, signA A 5 1, signA A 6 1, pv⟩ from fun _ => rfl)
    have HDP := Lib.hid (show decP A = if A.getD 0 0 % 128 = 5 then ptsOf A (A.getD 1 0).toNat else [] from rfl)
    clear x0
    generalize A.getD 0 0 = x at *
    obtain ⟨hb00, hb01⟩ := hb0
    have ea : x.tmod 128 = x % 128 := Int.tmod_eq_emod_of_nonneg hb00
    have ew : IntKind.i64.wrap x = x := IntWalk.i64_in _ (by omega)
    have i0 : (0 : Int) < (A.length : Int) := by omega
    have hfr : 0 ≤ x % 128 ∧ x % 128 ≤ 127 := by omega
    generalize x % 128 = f at *
    obtain ⟨hfa, hfb⟩ := hfr
    have es : ∀ W : World, True := fun _ => trivial
    clear es
    generalize hsg : decide (128 ≤ x) = sg at HDC
    have es : decide (x ≥ 128) = sg := hsg
    clear hsg
    have hl2 : 2 ≤ A.length := by omega
    have i1 : (1 : Int) < (A.length : Int) := by omega
    have d4 : decide ((A.length : Int) < 2) = false := decide_eq_false (by omega)
    have HX1 := Lib.hid (HCC.out 1 (by omega))
    have hb1 := HB.out 1
    generalize A.getD 1 0 = y at *
    subst hf
    have d5 : decide (y < 2) = false := decide_eq_false (by omega)
    have d6 : decide (y > 12) = true := decide_eq_true hy
    go_enter Try.func60, Try.ntmps60
    go_wp2_with (refine wpList_store_row (cs := zK.cells) rfl 26 (.tmp 5) (.tmp 10) rfl HR1.out (by rfl) (by rfl) rfl Try.infoC zK_one ?_; intro w2 R2 M2; have HR2 := Lib.hid R2; have HQ2 := Lib.hid (M2.heap (heap_alloc (o' := .cells zK.cells 26) R0.out) (by simp)); have HM2 := Lib.hid ((M0.out.alloc (.cells zK.cells 26)).comp M2 (fun k hk => by simp at hk; exact .inr (by omega))); have hz2 := lt_of_block R2; clear R2 M2)
    go_wp2_with fail
    try dsimp only [Act.put]
    refine heldStart (S := fun W => W.cell? ⟨bb, off, none⟩ = some (.int .u8 x)) 12 rfl (by kernel_rfl) (HM2.out.drew.cell HX0.out (by simp)) (fun hHeld => ?_)
    refine takeD (i := 0) (d := 15) (v := ?_) rfl rfl (by kernel_rfl) (by kernel_rfl) (by kernel_rfl) (fun _ _ _ h => h) (Or.inl ⟨by rfl, ?_⟩) hHeld ?_
    rotate_left 1
    · (intro w hSw; (try dsimp only at hSw); go_simp; (try with_reducible rfl))
    simp only [List.setIfInBounds_toArray, List.set_cons_zero, List.set_cons_succ]
    refine takeD (i := 1) (d := 16) (v := ?_) rfl rfl (by kernel_rfl) (by kernel_rfl) (by kernel_rfl) (fun _ _ _ h => h) (Or.inl ⟨by rfl, ?_⟩) hHeld ?_
    rotate_left 1
    · (intro w hSw; (try dsimp only at hSw); go_simp; (try with_reducible rfl))
    simp only [List.setIfInBounds_toArray, List.set_cons_zero, List.set_cons_succ]
    refine takeD (i := 2) (d := 17) (v := ?_) rfl rfl (by kernel_rfl) (by kernel_rfl) (by kernel_rfl) (fun _ _ _ h => h) (Or.inl ⟨by rfl, ?_⟩) hHeld ?_
    rotate_left 1
    · (intro w hSw; (try dsimp only at hSw); go_simp; (try with_reducible rfl))
    simp only [List.setIfInBounds_toArray, List.set_cons_zero, List.set_cons_succ]
    refine takeD (i := 3) (d := 18) (v := ?_) rfl rfl (by kernel_rfl) (by kernel_rfl) (by kernel_rfl) (fun _ _ _ h => h) (Or.inl ⟨by rfl, ?_⟩) hHeld ?_
    rotate_left 1
    · (intro w hSw; (try dsimp only at hSw); go_simp; (try with_reducible rfl))
    simp only [List.setIfInBounds_toArray, List.set_cons_zero, List.set_cons_succ]
    refine takeD (i := 4) (d := 19) (v := ?_) rfl rfl (by kernel_rfl) (by kernel_rfl) (by kernel_rfl) (fun _ _ _ h => h) (Or.inl ⟨by rfl, ?_⟩) hHeld ?_
    rotate_left 1
    · (intro w hSw; (try dsimp only at hSw); go_simp; (try with_reducible rfl))
    simp only [List.setIfInBounds_toArray, List.set_cons_zero, List.set_cons_succ]
    refine takeD (i := 5) (d := 20) (v := ?_) rfl rfl (by kernel_rfl) (by kernel_rfl) (by kernel_rfl) (fun _ _ _ h => h) (Or.inl ⟨by rfl, ?_⟩) hHeld ?_
    rotate_left 1
    · (intro w hSw; (try dsimp only at hSw); go_simp; (try with_reducible rfl))
    simp only [List.setIfInBounds_toArray, List.set_cons_zero, List.set_cons_succ]
    refine takeD (i := 6) (d := 21) (v := ?_) rfl rfl (by kernel_rfl) (by kernel_rfl) (by kernel_rfl) (fun _ _ _ h => h) (Or.inl ⟨by rfl, ?_⟩) hHeld ?_
    rotate_left 1
    · (intro w hSw; (try dsimp only at hSw); go_simp; (try with_reducible rfl))
    simp only [List.setIfInBounds_toArray, List.set_cons_zero, List.set_cons_succ]
    refine takeD (i := 7) (d := 22) (v := ?_) rfl rfl (by kernel_rfl) (by kernel_rfl) (by kernel_rfl) (fun _ _ _ h => h) (Or.inl ⟨by rfl, ?_⟩) hHeld ?_
    rotate_left 1
    · (intro w hSw; (try dsimp only at hSw); go_simp; (try with_reducible rfl))
    simp only [List.setIfInBounds_toArray, List.set_cons_zero, List.set_cons_succ]
    refine takeD (i := 8) (d := 23) (v := ?_) rfl rfl (by kernel_rfl) (by kernel_rfl) (by kernel_rfl) (fun _ _ _ h => h) (Or.inl ⟨by rfl, ?_⟩) hHeld ?_
    rotate_left 1
    · (intro w hSw; (try dsimp only at hSw); go_simp; (try with_reducible rfl))
    simp only [List.setIfInBounds_toArray, List.set_cons_zero, List.set_cons_succ]
    refine takeD (i := 9) (d := 24) (v := ?_) rfl rfl (by kernel_rfl) (by kernel_rfl) (by kernel_rfl) (fun _ _ _ h => h) (Or.inl ⟨by rfl, ?_⟩) hHeld ?_
    rotate_left 1
    · (intro w hSw; (try dsimp only at hSw); go_simp; (try with_reducible rfl))
    simp only [List.setIfInBounds_toArray, List.set_cons_zero, List.set_cons_succ]
    refine wpAnyH_ready (rs := [10]) (by kernel_rfl) (by simp) ?_
    refine AllReadyH.cons rfl (fun K hK => ?_) AllReadyH.nil
    go_simp
    refine hK.out _ _ ?_ (fun hHeld => ?_)
    · exact ((Mods.refl (S := [])).alloc _).cell hHeld (by simp)
    clear hK K
    have HMA := Lib.hid (HM2.out.drew.alloc (.cells zK.cells 26))
    have HRA := Lib.hid (heap_alloc (o' := .cells zK.cells 26) (heap_drew HR2.out))
    have HQA := Lib.hid (heap_alloc (o' := .cells zK.cells 26) (heap_drew HQ2.out))
    have RGA : (w2.drew.alloc (.cells zK.cells 26)).heap[w2.heap.size]? = some (.cells zK.cells 26 (0, 0)) := heap_alloc_new w2.drew _
    have hz3 : w.heap.size + 1 < w2.heap.size := hz2
    refine wpAnyH_ready (rs := [11]) (by kernel_rfl) (by simp) ?_
    refine AllReadyH.cons rfl (fun K hK => ?_) AllReadyH.nil
    refine exec_store rfl rfl rfl RGA rfl rfl (by rfl) Try.infoC (cvC_one 5 sg 0 0 0 0 none 0 0) (fun w3 R3 M3 => ?_)
    refine hK.out _ _ ?_ (fun hHeld => ?_)
    · exact M3.cell hHeld (by simp; omega)
    clear hK K
    refine wpAnyH_done (by kernel_rfl) ?_ _
    have HM3 := Lib.hid (HMA.out.comp M3 (fun k hk => by simp at hk; exact .inr (by omega)))
    have HR3 := Lib.hid (M3.heap HRA.out (by simp; omega))
    have HQ3 := Lib.hid (M3.heap HQA.out (by simp; omega))
    have HG3 : Hid (w3.heap[w2.heap.size]? = some (.cells (cvC 5 sg 0 0 0 0 (.slice none 0 0)) 26 (0, 0))) := Lib.hid R3
    have cg0 : w3.cell? ⟨w2.heap.size, 0, none⟩ = some (.int .i64 5) := (cell_blk R3 0).trans rfl
    clear hHeld HMA HRA HQA RGA R3 M3 HM2 HR2 HQ2
    generalize w2.heap.size = g6 at HG3 cg0 hz3 ⊢
    clear ea es ew
    have x1 : w3.cell? ⟨bb, off + 1, none⟩ = some (.int .u8 y) := HM3.out.cell HX1.out (by simp)
    go_wp2_with (first
      | (refine wpList_load_row rfl 26 (.tmp 5) rfl (w.heap.size + 1) (by rfl) _ _ _ _ HR3.out Try.underlying26 rfl Try.infoC ?_)
      | (refine wpList_store_row (cs := zK.cells) rfl 26 (.tmp 2) (.tmp 51) rfl HQ3.out (by rfl) (by rfl) rfl Try.infoC zK_one ?_; intro w9 R9 M9))
    have HMX := HM3.out.comp M9 (fun k hk => by simp at hk; exact .inr (by omega))
    refine bodyPost_ret (results_cell_row3 rfl _ _ w.heap.size _ _ _ _ rfl R9 Try.underlying26 rfl Try.infoC) rfl ?_
    have := HE.out _ (by rw [HR.out]; decide) HMX
    rw [HR.out] at this
    exact this
set_option maxRecDepth 100000 in
set_option maxHeartbeats 4000000 in
theorem refDec_cut7 (w : World) (v : Value) (A : List Int) (hv : Rd w v (u8s A)) (hb : Bytes A) (h0 : A ≠ []) (hf1 : 1 ≤ A.getD 0 0 % 128) (hf5 : A.getD 0 0 % 128 ≤ 5) (hf : A.getD 0 0 % 128 ≠ 5) (hl : (A.length : Int) < 7) :
    Calls Try.prog 60 #[v] w fun e w' => DecRes w A e w' := by
  have HR := Lib.hid (errC_cut (lenC_lin h0 hf1 hf5 hf) hl)
  have HV := Lib.hid hv
  have HB := Lib.hid hb
  obtain ⟨ad, cap, rfl, h1, h2, -⟩ := hv.u8
  have h3 : cap ≤ 9223372036854775807 := h2
  clear hv hb h2
  have HE : Hid (∀ W, errC A ≠ 0 → Mods [] w W → DecRes w A (.returned (.tuple #[.agg zK.cells, .int .i64 0, .int .i64 (errC A)])) W) := Lib.hid fun W h M => by unfold DecRes; rw [if_neg h]; exact ⟨rfl, M⟩
  have R0 := Lib.hid (heap_alloc_new w (.cells zK.cells 26))
  have M0 := Lib.hid ((Mods.refl (S := []) (w := w)).alloc (.cells zK.cells 26))
  have R1 : ((w.alloc (.cells zK.cells 26)).alloc (.cells zK.cells 26)).heap[w.heap.size + 1]? = some (.cells zK.cells 26 (0, 0)) := by
    have := heap_alloc_new (w.alloc (.cells zK.cells 26)) (.cells zK.cells 26)
    rwa [World.size_alloc] at this
  have HR1 := Lib.hid R1
  clear R1
  have hp : 0 < A.length := List.length_pos_iff.2 h0
  obtain ⟨_, _, he, _, _, hc0⟩ := HV.out.u8
  obtain ⟨bb, off, rfl, x0⟩ := hc0 0 hp
  injection he with he1 he2 he3
  subst he1 he3
  have HCC := Lib.hid (fun i (hi : i < A.length) => show w.cell? ⟨bb, off + i, none⟩ = some (.int .u8 (A.getD i 0)) from by
    obtain ⟨b', o', he, hx⟩ := hc0 i hi
    cases he
    exact hx)
  clear hc0 he2 h0
  rw [Nat.add_zero] at x0
  have hbb : bb < w.heap.size := World.block_lt_of_cell? w _ x0
  have HX0 := Lib.hid x0
  have hb0 := HB.out 0
  have HDC := Lib.hid (show ∀ pv, decC A pv = if A.getD 0 0 % 128 = 5 then ⟨5, decide (128 ≤ A.getD 0 0), 0, 0, 0, 0, pv⟩ else ⟨A.getD 0 0 % 128, decide (128 ≤ A.getD 0 0), signA A 1 2, signA A 3 2, signA A 5 1, signA A 6 1, pv⟩ from fun _ => rfl)
  have HDP := Lib.hid (show decP A = if A.getD 0 0 % 128 = 5 then ptsOf A (A.getD 1 0).toNat else [] from rfl)
  clear x0
  generalize A.getD 0 0 = x at *
  obtain ⟨hb00, hb01⟩ := hb0
  have ea : x.tmod 128 = x % 128 := Int.tmod_eq_emod_of_nonneg hb00
  have ew : IntKind.i64.wrap x = x := IntWalk.i64_in _ (by omega)
  have i0 : (0 : Int) < (A.length : Int) := by omega
  have hfr : 0 ≤ x % 128 ∧ x % 128 ≤ 127 := by omega
  generalize x % 128 = f at *
  obtain ⟨hfa, hfb⟩ := hfr
  have es : ∀ W : World, True := fun _ => trivial
  clear es
  generalize hsg : decide (128 ≤ x) = sg at HDC
  have es : decide (x ≥ 128) = sg := hsg
  clear hsg
  have d1 : decide (f < 1) = false := decide_eq_false (by omega)
  have d2 : decide (f > 5) = false := decide_eq_false (by omega)
  have d3 : (f == 5) = false := by simpa using hf
  have d4 : decide ((A.length : Int) < 7) = true := decide_eq_true hl
  clear hf
  go_enter Try.func60, Try.ntmps60
  go_wp2_with (refine wpList_store_row (cs := zK.cells) rfl 26 (.tmp 5) (.tmp 10) rfl HR1.out (by rfl) (by rfl) rfl Try.infoC zK_one ?_; intro w2 R2 M2; have HR2 := Lib.hid R2; have HQ2 := Lib.hid (M2.heap (heap_alloc (o' := .cells zK.cells 26) R0.out) (by simp)); have HM2 := Lib.hid ((M0.out.alloc (.cells zK.cells 26)).comp M2 (fun k hk => by simp at hk; exact .inr (by omega))); have hz2 := lt_of_block R2; clear R2 M2)
  go_wp2_with fail
  try dsimp only [Act.put]
  refine heldStart (S := fun W => W.cell? ⟨bb, off, none⟩ = some (.int .u8 x)) 12 rfl (by kernel_rfl) (HM2.out.drew.cell HX0.out (by simp)) (fun hHeld => ?_)
  refine takeD (i := 0) (d := 15) (v := ?_) rfl rfl (by kernel_rfl) (by kernel_rfl) (by kernel_rfl) (fun _ _ _ h => h) (Or.inl ⟨by rfl, ?_⟩) hHeld ?_
  rotate_left 1
  · (intro w hSw; (try dsimp only at hSw); go_simp; (try with_reducible rfl))
  simp only [List.setIfInBounds_toArray, List.set_cons_zero, List.set_cons_succ]
  refine takeD (i := 1) (d := 16) (v := ?_) rfl rfl (by kernel_rfl) (by kernel_rfl) (by kernel_rfl) (fun _ _ _ h => h) (Or.inl ⟨by rfl, ?_⟩) hHeld ?_
  rotate_left 1
  · (intro w hSw; (try dsimp only at hSw); go_simp; (try with_reducible rfl))
  simp only [List.setIfInBounds_toArray, List.set_cons_zero, List.set_cons_succ]
  refine takeD (i := 2) (d := 17) (v := ?_) rfl rfl (by kernel_rfl) (by kernel_rfl) (by kernel_rfl) (fun _ _ _ h => h) (Or.inl ⟨by rfl, ?_⟩) hHeld ?_
  rotate_left 1
  · (intro w hSw; (try dsimp only at hSw); go_simp; (try with_reducible rfl))
  simp only [List.setIfInBounds_toArray, List.set_cons_zero, List.set_cons_succ]
  refine takeD (i := 3) (d := 18) (v := ?_) rfl rfl (by kernel_rfl) (by kernel_rfl) (by kernel_rfl) (fun _ _ _ h => h) (Or.inl ⟨by rfl, ?_⟩) hHeld ?_
  rotate_left 1
  · (intro w hSw; (try dsimp only at hSw); go_simp; (try with_reducible rfl))
  simp only [List.setIfInBounds_toArray, List.set_cons_zero, List.set_cons_succ]
  refine takeD (i := 4) (d := 19) (v := ?_) rfl rfl (by kernel_rfl) (by kernel_rfl) (by kernel_rfl) (fun _ _ _ h => h) (Or.inl ⟨by rfl, ?_⟩) hHeld ?_
  rotate_left 1
  · (intro w hSw; (try dsimp only at hSw); go_simp; (try with_reducible rfl))
  simp only [List.setIfInBounds_toArray, List.set_cons_zero, List.set_cons_succ]
  refine takeD (i := 5) (d := 20) (v := ?_) rfl rfl (by kernel_rfl) (by kernel_rfl) (by kernel_rfl) (fun _ _ _ h => h) (Or.inl ⟨by rfl, ?_⟩) hHeld ?_
  rotate_left 1
  · (intro w hSw; (try dsimp only at hSw); go_simp; (try with_reducible rfl))
  simp only [List.setIfInBounds_toArray, List.set_cons_zero, List.set_cons_succ]
  refine takeD (i := 6) (d := 21) (v := ?_) rfl rfl (by kernel_rfl) (by kernel_rfl) (by kernel_rfl) (fun _ _ _ h => h) (Or.inl ⟨by rfl, ?_⟩) hHeld ?_
  rotate_left 1
  · (intro w hSw; (try dsimp only at hSw); go_simp; (try with_reducible rfl))
  simp only [List.setIfInBounds_toArray, List.set_cons_zero, List.set_cons_succ]
  refine takeD (i := 7) (d := 22) (v := ?_) rfl rfl (by kernel_rfl) (by kernel_rfl) (by kernel_rfl) (fun _ _ _ h => h) (Or.inl ⟨by rfl, ?_⟩) hHeld ?_
  rotate_left 1
  · (intro w hSw; (try dsimp only at hSw); go_simp; (try with_reducible rfl))
  simp only [List.setIfInBounds_toArray, List.set_cons_zero, List.set_cons_succ]
  refine takeD (i := 8) (d := 23) (v := ?_) rfl rfl (by kernel_rfl) (by kernel_rfl) (by kernel_rfl) (fun _ _ _ h => h) (Or.inl ⟨by rfl, ?_⟩) hHeld ?_
  rotate_left 1
  · (intro w hSw; (try dsimp only at hSw); go_simp; (try with_reducible rfl))
  simp only [List.setIfInBounds_toArray, List.set_cons_zero, List.set_cons_succ]
  refine takeD (i := 9) (d := 24) (v := ?_) rfl rfl (by kernel_rfl) (by kernel_rfl) (by kernel_rfl) (fun _ _ _ h => h) (Or.inl ⟨by rfl, ?_⟩) hHeld ?_
  rotate_left 1
  · (intro w hSw; (try dsimp only at hSw); go_simp; (try with_reducible rfl))
  simp only [List.setIfInBounds_toArray, List.set_cons_zero, List.set_cons_succ]
  refine wpAnyH_ready (rs := [10]) (by kernel_rfl) (by simp) ?_
  refine AllReadyH.cons rfl (fun K hK => ?_) AllReadyH.nil
  go_simp
  refine hK.out _ _ ?_ (fun hHeld => ?_)
  · exact ((Mods.refl (S := [])).alloc _).cell hHeld (by simp)
  clear hK K
  have HMA := Lib.hid (HM2.out.drew.alloc (.cells zK.cells 26))
  have HRA := Lib.hid (heap_alloc (o' := .cells zK.cells 26) (heap_drew HR2.out))
  have HQA := Lib.hid (heap_alloc (o' := .cells zK.cells 26) (heap_drew HQ2.out))
  have RGA : (w2.drew.alloc (.cells zK.cells 26)).heap[w2.heap.size]? = some (.cells zK.cells 26 (0, 0)) := heap_alloc_new w2.drew _
  have hz3 : w.heap.size + 1 < w2.heap.size := hz2
  refine wpAnyH_ready (rs := [11]) (by kernel_rfl) (by simp) ?_
  refine AllReadyH.cons rfl (fun K hK => ?_) AllReadyH.nil
  refine exec_store rfl rfl rfl RGA rfl rfl (by rfl) Try.infoC (cvC_one f sg 0 0 0 0 none 0 0) (fun w3 R3 M3 => ?_)
  refine hK.out _ _ ?_ (fun hHeld => ?_)
  · exact M3.cell hHeld (by simp; omega)
  clear hK K
  refine wpAnyH_done (by kernel_rfl) ?_ _
  have HM3 := Lib.hid (HMA.out.comp M3 (fun k hk => by simp at hk; exact .inr (by omega)))
  have HR3 := Lib.hid (M3.heap HRA.out (by simp; omega))
  have HQ3 := Lib.hid (M3.heap HQA.out (by simp; omega))
  have HG3 : Hid (w3.heap[w2.heap.size]? = some (.cells (cvC f sg 0 0 0 0 (.slice none 0 0)) 26 (0, 0))) := Lib.hid R3
  have cg0 : w3.cell? ⟨w2.heap.size, 0, none⟩ = some (.int .i64 f) := (cell_blk R3 0).trans rfl
  clear hHeld HMA HRA HQA RGA R3 M3 HM2 HR2 HQ2
  generalize w2.heap.size = g6 at HG3 cg0 hz3 ⊢
  clear ea es ew
  go_wp2_with (first
    | (refine wpList_load_row rfl 26 (.tmp 5) rfl (w.heap.size + 1) (by rfl) _ _ _ _ HR3.out Try.underlying26 rfl Try.infoC ?_)
    | (refine wpList_store_row (cs := zK.cells) rfl 26 (.tmp 2) (.tmp 62) rfl HQ3.out (by rfl) (by rfl) rfl Try.infoC zK_one ?_; intro w9 R9 M9))
  have HMX := HM3.out.comp M9 (fun k hk => by simp at hk; exact .inr (by omega))
  refine bodyPost_ret (results_cell_row3 rfl _ _ w.heap.size _ _ _ _ rfl R9 Try.underlying26 rfl Try.infoC) rfl ?_
  have := HE.out _ (by rw [HR.out]; decide) HMX
  rw [HR.out] at this
  exact this
set_option maxRecDepth 100000 in
set_option maxHeartbeats 4000000 in
theorem refDec_cutN (w : World) (v : Value) (A : List Int) (hv : Rd w v (u8s A)) (hb : Bytes A) (h0 : A ≠ []) (hf : A.getD 0 0 % 128 = 5) (hl : A.length ≠ 1) (hy : ¬ (A.getD 1 0 < 2 ∨ 12 < A.getD 1 0)) (hc : (A.length : Int) < 2 + 7 * A.getD 1 0) :
    Calls Try.prog 60 #[v] w fun e w' => DecRes w A e w' := by
  have HR := Lib.hid (errC_cut (lenC_tab h0 hf hl hy) hc)
  have HV := Lib.hid hv
  have HB := Lib.hid hb
  obtain ⟨ad, cap, rfl, h1, h2, -⟩ := hv.u8
  have h3 : cap ≤ 9223372036854775807 := h2
  clear hv hb h2
  have HE : Hid (∀ W, errC A ≠ 0 → Mods [] w W → DecRes w A (.returned (.tuple #[.agg zK.cells, .int .i64 0, .int .i64 (errC A)])) W) := Lib.hid fun W h M => by unfold DecRes; rw [if_neg h]; exact ⟨rfl, M⟩
  have R0 := Lib.hid (heap_alloc_new w (.cells zK.cells 26))
  have M0 := Lib.hid ((Mods.refl (S := []) (w := w)).alloc (.cells zK.cells 26))
  have R1 : ((w.alloc (.cells zK.cells 26)).alloc (.cells zK.cells 26)).heap[w.heap.size + 1]? = some (.cells zK.cells 26 (0, 0)) := by
    have := heap_alloc_new (w.alloc (.cells zK.cells 26)) (.cells zK.cells 26)
    rwa [World.size_alloc] at this
  have HR1 := Lib.hid R1
  clear R1
  have hp : 0 < A.length := List.length_pos_iff.2 h0
  obtain ⟨_, _, he, _, _, hc0⟩ := HV.out.u8
  obtain ⟨bb, off, rfl, x0⟩ := hc0 0 hp
  injection he with he1 he2 he3
  subst he1 he3
  have HCC := Lib.hid (fun i (hi : i < A.length) => show w.cell? ⟨bb, off + i, none⟩ = some (.int .u8 (A.getD i 0)) from by
    obtain ⟨b', o', he, hx⟩ := hc0 i hi
    cases he
    exact hx)
  clear hc0 he2 h0
  rw [Nat.add_zero] at x0
  have hbb : bb < w.heap.size := World.block_lt_of_cell? w _ x0
  have HX0 := Lib.hid x0
  have hb0 := HB.out 0
  have HDC := Lib.hid (show ∀ pv, decC A pv = if A.getD 0 0 % 128 = 5 then ⟨5, decide (128 ≤ A.getD 0 0), 0, 0, 0, 0, pv⟩ else ⟨A.getD 0 0 % 128, decide (128 ≤ A.getD 0 0), signA A 1 2, signA A 3 2, signA A 5 1, signA A 6 1, pv⟩ from fun _ => rfl)
  have HDP := Lib.hid (show decP A = if A.getD 0 0 % 128 = 5 then ptsOf A (A.getD 1 0).toNat else [] from rfl)
  clear x0
  generalize A.getD 0 0 = x at *
  obtain ⟨hb00, hb01⟩ := hb0
  have ea : x.tmod 128 = x % 128 := Int.tmod_eq_emod_of_nonneg hb00
  have ew : IntKind.i64.wrap x = x := IntWalk.i64_in _ (by omega)
  have i0 : (0 : Int) < (A.length : Int) := by omega
  have hfr : 0 ≤ x % 128 ∧ x % 128 ≤ 127 := by omega
  generalize x % 128 = f at *
  obtain ⟨hfa, hfb⟩ := hfr
  have es : ∀ W : World, True := fun _ => trivial
  clear es
  generalize hsg : decide (128 ≤ x) = sg at HDC
  have es : decide (x ≥ 128) = sg := hsg
  clear hsg
  have hl2 : 2 ≤ A.length := by omega
  have i1 : (1 : Int) < (A.length : Int) := by omega
  have d4 : decide ((A.length : Int) < 2) = false := decide_eq_false (by omega)
  have HX1 := Lib.hid (HCC.out 1 (by omega))
  have hb1 := HB.out 1
  generalize A.getD 1 0 = y at *
  subst hf
  have d4 : decide ((A.length : Int) < 2) = false := decide_eq_false (by omega)
  have d5 : decide (y < 2) = false := decide_eq_false (by omega)
  have d6 : decide (y > 12) = false := decide_eq_false (by omega)
  have d7 : decide ((A.length : Int) < 2 + 7 * y) = true := decide_eq_true hc
  have y0 : (0 : Int) ≤ y := by omega
  have y1 : y ≤ 12 := by omega
  clear hy hc
  go_enter Try.func60, Try.ntmps60
  go_wp2_with (refine wpList_store_row (cs := zK.cells) rfl 26 (.tmp 5) (.tmp 10) rfl HR1.out (by rfl) (by rfl) rfl Try.infoC zK_one ?_; intro w2 R2 M2; have HR2 := Lib.hid R2; have HQ2 := Lib.hid (M2.heap (heap_alloc (o' := .cells zK.cells 26) R0.out) (by simp)); have HM2 := Lib.hid ((M0.out.alloc (.cells zK.cells 26)).comp M2 (fun k hk => by simp at hk; exact .inr (by omega))); have hz2 := lt_of_block R2; clear R2 M2)
  go_wp2_with fail
  try dsimp only [Act.put]
  refine heldStart (S := fun W => W.cell? ⟨bb, off, none⟩ = some (.int .u8 x)) 12 rfl (by kernel_rfl) (HM2.out.drew.cell HX0.out (by simp)) (fun hHeld => ?_)
  refine takeD (i := 0) (d := 15) (v := ?_) rfl rfl (by kernel_rfl) (by kernel_rfl) (by kernel_rfl) (fun _ _ _ h => h) (Or.inl ⟨by rfl, ?_⟩) hHeld ?_
  rotate_left 1
  · (intro w hSw; (try dsimp only at hSw); go_simp; (try with_reducible rfl))
  simp only [List.setIfInBounds_toArray, List.set_cons_zero, List.set_cons_succ]
  refine takeD (i := 1) (d := 16) (v := ?_) rfl rfl (by kernel_rfl) (by kernel_rfl) (by kernel_rfl) (fun _ _ _ h => h) (Or.inl ⟨by rfl, ?_⟩) hHeld ?_
  rotate_left 1
  · (intro w hSw; (try dsimp only at hSw); go_simp; (try with_reducible rfl))
  simp only [List.setIfInBounds_toArray, List.set_cons_zero, List.set_cons_succ]
  refine takeD (i := 2) (d := 17) (v := ?_) rfl rfl (by kernel_rfl) (by kernel_rfl) (by kernel_rfl) (fun _ _ _ h => h) (Or.inl ⟨by rfl, ?_⟩) hHeld ?_
  rotate_left 1
  · (intro w hSw; (try dsimp only at hSw); go_simp; (try with_reducible rfl))
  simp only [List.setIfInBounds_toArray, List.set_cons_zero, List.set_cons_succ]
  refine takeD (i := 3) (d := 18) (v := ?_) rfl rfl (by kernel_rfl) (by kernel_rfl) (by kernel_rfl) (fun _ _ _ h => h) (Or.inl ⟨by rfl, ?_⟩) hHeld ?_
  rotate_left 1
  · (intro w hSw; (try dsimp only at hSw); go_simp; (try with_reducible rfl))
  simp only [List.setIfInBounds_toArray, List.set_cons_zero, List.set_cons_succ]
  refine takeD (i := 4) (d := 19) (v := ?_) rfl rfl (by kernel_rfl) (by kernel_rfl) (by kernel_rfl) (fun _ _ _ h => h) (Or.inl ⟨by rfl, ?_⟩) hHeld ?_
  rotate_left 1
  · (intro w hSw; (try dsimp only at hSw); go_simp; (try with_reducible rfl))
  simp only [List.setIfInBounds_toArray, List.set_cons_zero, List.set_cons_succ]
  refine takeD (i := 5) (d := 20) (v := ?_) rfl rfl (by kernel_rfl) (by kernel_rfl) (by kernel_rfl) (fun _ _ _ h => h) (Or.inl ⟨by rfl, ?_⟩) hHeld ?_
  rotate_left 1
  · (intro w hSw; (try dsimp only at hSw); go_simp; (try with_reducible rfl))
  simp only [List.setIfInBounds_toArray, List.set_cons_zero, List.set_cons_succ]
  refine takeD (i := 6) (d := 21) (v := ?_) rfl rfl (by kernel_rfl) (by kernel_rfl) (by kernel_rfl) (fun _ _ _ h => h) (Or.inl ⟨by rfl, ?_⟩) hHeld ?_
  rotate_left 1
  · (intro w hSw; (try dsimp only at hSw); go_simp; (try with_reducible rfl))
  simp only [List.setIfInBounds_toArray, List.set_cons_zero, List.set_cons_succ]
  refine takeD (i := 7) (d := 22) (v := ?_) rfl rfl (by kernel_rfl) (by kernel_rfl) (by kernel_rfl) (fun _ _ _ h => h) (Or.inl ⟨by rfl, ?_⟩) hHeld ?_
  rotate_left 1
  · (intro w hSw; (try dsimp only at hSw); go_simp; (try with_reducible rfl))
  simp only [List.setIfInBounds_toArray, List.set_cons_zero, List.set_cons_succ]
  refine takeD (i := 8) (d := 23) (v := ?_) rfl rfl (by kernel_rfl) (by kernel_rfl) (by kernel_rfl) (fun _ _ _ h => h) (Or.inl ⟨by rfl, ?_⟩) hHeld ?_
  rotate_left 1
  · (intro w hSw; (try dsimp only at hSw); go_simp; (try with_reducible rfl))
  simp only [List.setIfInBounds_toArray, List.set_cons_zero, List.set_cons_succ]
  refine takeD (i := 9) (d := 24) (v := ?_) rfl rfl (by kernel_rfl) (by kernel_rfl) (by kernel_rfl) (fun _ _ _ h => h) (Or.inl ⟨by rfl, ?_⟩) hHeld ?_
  rotate_left 1
  · (intro w hSw; (try dsimp only at hSw); go_simp; (try with_reducible rfl))
  simp only [List.setIfInBounds_toArray, List.set_cons_zero, List.set_cons_succ]
  refine wpAnyH_ready (rs := [10]) (by kernel_rfl) (by simp) ?_
  refine AllReadyH.cons rfl (fun K hK => ?_) AllReadyH.nil
  go_simp
  refine hK.out _ _ ?_ (fun hHeld => ?_)
  · exact ((Mods.refl (S := [])).alloc _).cell hHeld (by simp)
  clear hK K
  have HMA := Lib.hid (HM2.out.drew.alloc (.cells zK.cells 26))
  have HRA := Lib.hid (heap_alloc (o' := .cells zK.cells 26) (heap_drew HR2.out))
  have HQA := Lib.hid (heap_alloc (o' := .cells zK.cells 26) (heap_drew HQ2.out))
  have RGA : (w2.drew.alloc (.cells zK.cells 26)).heap[w2.heap.size]? = some (.cells zK.cells 26 (0, 0)) := heap_alloc_new w2.drew _
  have hz3 : w.heap.size + 1 < w2.heap.size := hz2
  refine wpAnyH_ready (rs := [11]) (by kernel_rfl) (by simp) ?_
  refine AllReadyH.cons rfl (fun K hK => ?_) AllReadyH.nil
  refine exec_store rfl rfl rfl RGA rfl rfl (by rfl) Try.infoC (cvC_one 5 sg 0 0 0 0 none 0 0) (fun w3 R3 M3 => ?_)
  refine hK.out _ _ ?_ (fun hHeld => ?_)
  · exact M3.cell hHeld (by simp; omega)
  clear hK K
  refine wpAnyH_done (by kernel_rfl) ?_ _
  have HM3 := Lib.hid (HMA.out.comp M3 (fun k hk => by simp at hk; exact .inr (by omega)))
  have HR3 := Lib.hid (M3.heap HRA.out (by simp; omega))
  have HQ3 := Lib.hid (M3.heap HQA.out (by simp; omega))
  have HG3 : Hid (w3.heap[w2.heap.size]? = some (.cells (cvC 5 sg 0 0 0 0 (.slice none 0 0)) 26 (0, 0))) := Lib.hid R3
  have cg0 : w3.cell? ⟨w2.heap.size, 0, none⟩ = some (.int .i64 5) := (cell_blk R3 0).trans rfl
  clear hHeld HMA HRA HQA RGA R3 M3 HM2 HR2 HQ2
  generalize w2.heap.size = g6 at HG3 cg0 hz3 ⊢
  clear ea es ew
  have x1 : w3.cell? ⟨bb, off + 1, none⟩ = some (.int .u8 y) := HM3.out.cell HX1.out (by simp)
  go_wp2_with (first
    | (refine wpList_load_row rfl 26 (.tmp 5) rfl (w.heap.size + 1) (by rfl) _ _ _ _ HR3.out Try.underlying26 rfl Try.infoC ?_)
    | (refine wpList_store_row (cs := zK.cells) rfl 26 (.tmp 2) (.tmp 62) rfl HQ3.out (by rfl) (by rfl) rfl Try.infoC zK_one ?_; intro w9 R9 M9))
  have HMX := HM3.out.comp M9 (fun k hk => by simp at hk; exact .inr (by omega))
  refine bodyPost_ret (results_cell_row3 rfl _ _ w.heap.size _ _ _ _ rfl R9 Try.underlying26 rfl Try.infoC) rfl ?_
  have := HE.out _ (by rw [HR.out]; decide) HMX
  rw [HR.out] at this
  exact this
end Go.Proofs.Ytgjjmiaiclhidaa
