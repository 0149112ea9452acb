/- The method open of a log: the contract (under way). -/
import Derived.Test.YtkdadnlleepkfaaLgDel
import Derived.Test.YtkdadnlleepkfaaFlashErase
import Derived.Test.YtkdadnlleepkfaaFlashProg
import Derived.Test.YtkdadnlleepkfaaBothV
namespace Go.Proofs.Ytkdadnlleepkfaa
open Go.RowKit
set_option linter.unusedVariables false
set_option linter.unusedSimpArgs false
theorem blank_sec {D : Dev} {G : Geo} (F : Fits G D) {j : Nat} (hj : j < G.n) : blankL (secA D G j) = blankS (byt D) G j := by
  have hl := secA_len F hj
  rw [Bool.eq_iff_iff, blankS_iff]
  unfold blankL
  rw [List.all_eq_true]
  constructor
  · intro hx i hi
    have h0 : (secA D G j).getD i 0 ∈ secA D G j := by
      rw [List.getD_eq_getElem?_getD, List.getElem?_eq_getElem (by rw [hl]; exact hi)]; simp
    have h1 : (secA D G j).getD i 0 = 255 := of_decide_eq_true (hx _ h0)
    rw [← secA_f i hi, h1]; rfl
  · intro hx y hy
    obtain ⟨i, hi, rfl⟩ := List.mem_iff_getElem.1 hy
    have hi' : i < G.size := by rw [hl] at hi; exact hi
    have h1 := hx i hi'
    rw [← secA_f i hi', List.getD_eq_getElem?_getD, List.getElem?_eq_getElem hi] at h1
    simp only [Option.getD_some] at h1
    exact decide_eq_true (by omega)
theorem OwnB.apartS {w : World} {B : Nat} {v : Value} {A : List Int} (h : OwnB w B v A) {g : Nat} {c : Array Value} {T : TypeId} {fr : Nat × Nat} (R : w.heap[g]? = some (.cells c T fr)) (hT : c.size < A.length) : g ∉ v.ownBlock.toList := fun hm => by
  rcases h.2 with ⟨rfl, _⟩ | ⟨g', cap, cur, rfl, _, hg, h1, _, h2, _⟩
  · simp [Value.ownBlock] at hm
  · simp [Value.ownBlock] at hm
    subst hm
    rw [R] at hg
    injection hg with hg
    injection hg with h3 _ _
    subst h3
    rw [u8s_length] at h1
    omega
theorem rdRow {w : World} {b : Nat} {T : TypeId} (l : List Int) (h : w.heap[b]? = some (.cells (u8s l).toArray T (0, 0))) (hl : l.length ≤ maxLen) : Rd w (.slice (some ⟨b, 0, none⟩) l.length l.length) (u8s l) := by
  have := RowAt.rd (w := w) (g := b) (cap := l.length) (T := T) (l := u8s l) ⟨_, h, by simp [u8s], by simp [u8s], hl, by simp⟩
  simpa [u8s] using this
def LopenPost (w : World) (q : LogAt) (B : Nat) (p : DevAt) (G : Geo) (D : Dev) (L : LogP) (t : Nat) (e : Ending) (w' : World) : Prop :=
  ∃ v', e = .returned (.int .i64 (openL G D L.s t).1) ∧ IsDev w' p (openL G D L.s t).2.1 ∧ IsLog w' ⟨q.b, v'⟩ B (.pointer (some ⟨p.b, 0, none⟩)) G.first G.n { L with s := (openL G D L.s t).2.2 } ∧
    Mods (p.foot ++ q.foot) w w' ∧ ∀ y, v'.ownBlock = some y → q.v.ownBlock = some y ∨ w.heap.size ≤ y
set_option maxRecDepth 100000 in
set_option maxHeartbeats 8000000 in
theorem lopen_ok (w : World) (q : LogAt) (B : Nat) (p : DevAt) (D : Dev) (hD : IsDev w p D) (G : Geo) (F : Fits G D) (hz : D.size ≤ 1024) (hw16 : D.wear.length ≤ 16) (hdn : D.down = false) (hst : D.steps ≤ 4611686018426000000) (hwr : ∀ i, D.wear.getD i 0 ≤ 4611686018426000000)
    (L : LogP) (h : IsLog w q B (.pointer (some ⟨p.b, 0, none⟩)) G.first G.n L) (hB : B ≤ w.heap.size) (hap : ∀ k ∈ p.foot, k ∉ q.foot) (hN : L.s.newest ≤ 2147483648) (hrc : L.s.recs.length ≤ 100000) (hnx : 1 ≤ L.s.next ∧ L.s.next ≤ 65534) (t : Nat) (ht : t ≤ 2147483649) :
    Calls Try.prog 79 #[.pointer (some ⟨q.b, 0, none⟩), .int .i64 (t : Nat)] w fun e w' => LopenPost w q B p G D L t e w' := by
  have HD := Lib.hid hD
  have HF := Lib.hid F
  have HL := Lib.hid h
  have HAP := Lib.hid hap
  have HRC := Lib.hid hrc
  have HLQ := Lib.hid h.lt
  have HFW := Lib.hid (show Few D 4611686018426000000 from ⟨hst, hwr⟩)
  have HWR := Lib.hid (show ∀ i, D.wear.getD i 0 ≤ 4611686018427000000 from fun i => Int.le_trans (hwr i) (by decide))
  have hn2 := F.n2
  have hs64 := F.s64
  have hsec := F.sec
  have HSZ := Lib.hid F.size
  obtain ⟨hx1, hx2⟩ := hnx
  have M0 := Lib.hid ((Mods.refl (S := []) (w := w)).alloc (.cells #[.int .i64 (t : Nat)] 3))
  have B0 := Lib.hid (heap_alloc_new w (.cells #[.int .i64 (t : Nat)] 3))
  clear hD F h hap hwr
  by_cases hlim : L.s.newest = 2147483648
  · have HO := Lib.hid (show openL G D L.s t = (3, D, L.s) from if_pos (by omega))
    have c4 := ((HL.out.mods0 M0.out).c 4).trans (show _ = some (Value.int .i64 2147483648) from by show some (Value.int .i64 ((L.s.newest : Nat) : Int)) = _; rw [hlim]; rfl)
    clear hlim
    go_enter Try.func79, Try.ntmps79
    go_wp2_with fail
    go_ret
    refine ⟨q.v, by rw [HO.out]; rfl, ?_, ?_, M0.out.nil, fun y hy => .inl hy⟩
    · rw [HO.out]; exact HD.out.mods0 M0.out
    · rw [HO.out]; exact HL.out.mods0 M0.out
  · have hlim2 : L.s.newest + 1 ≤ 2147483648 := by omega
    have HL0 := Lib.hid (HL.out.mods0 M0.out)
    have HD0 := Lib.hid (HD.out.mods0 M0.out)
    have hz0 := M0.out.size
    have hw0 := lt_of_block B0.out
    generalize hg3 : w.heap.size = g3 at B0 hw0
    have HG3 := Lib.hid hg3
    obtain ⟨j, hj⟩ : ∃ j, j = L.s.newest % G.n := ⟨_, rfl⟩
    have hT1 : ((L.s.newest : Nat) : Int).tmod (G.n : Int) = ((j : Nat) : Int) := by rw [Int.tmod_eq_emod_of_nonneg (by omega), hj, Int.natCast_emod]
    have hjn : j < G.n := by rw [hj]; exact Nat.mod_lt _ (by omega)
    have HJ := Lib.hid hj
    have e1 : ((L.s.newest : Nat) : Int) + 1 ≤ 2147483648 := by omega
    have hm0 : IntKind.i64.wrap ((((G.first : Nat) : Int) + ((j : Nat) : Int)) * ((D.size : Nat) : Int)) = ((G.at j : Nat) : Int) := by
      have h1 : G.at j + G.size ≤ D.data.length := HF.out.sect hjn
      have h2 := HF.out.ok.len
      have h3 : G.at j = (G.first + j) * D.size := by unfold Geo.at; rw [HSZ.out]
      rw [← Int.natCast_add, ← Int.natCast_mul, ← h3]
      exact IntWalk.i64_in _ (by omega)
    clear hj
    have HLM := Lib.hid (show L.s.newest + 1 ≤ 2147483648 ∧ t ≤ 2147483649 ∧ D.steps ≤ 4611686018426000000 from ⟨hlim2, ht, hst⟩)
    have e2 : ¬ (2147483648 : Int) < ((L.s.newest : Nat) : Int) + 1 := by omega
    have e3 : (0 : Int) ≤ ((L.s.newest : Nat) : Int) := by omega
    clear hlim hlim2 hN ht hst
    go_enter Try.func79, Try.ntmps79
    go_upto_region 1 with (fail)
    generalize w.alloc (.cells #[.int .i64 (t : Nat)] 3) = w0 at HL0 HD0 hz0 hw0 B0 M0 ⊢
    clear hg3
    have c0 := (HL0.out.c 0).trans (show _ = some (Value.pointer (some ⟨p.b, 0, none⟩)) from rfl)
    have c1 := (HL0.out.c 1).trans (show _ = some (Value.int .i64 (G.first : Nat)) from rfl)
    have c2 := (HL0.out.c 2).trans (show _ = some (Value.int .i64 (G.n : Nat)) from rfl)
    have c4 := (HL0.out.c 4).trans (show _ = some (Value.int .i64 (L.s.newest : Nat)) from rfl)
    go_upto_region 4 with (fail)
    go_quiet (fail)
    have HS := Lib.hid (fun W (M : Mods [] w0 W) => size_ok W p D (HD0.out.mods0 M))
    have HR := Lib.hid (fun W (M : Mods [] w0 W) at_ n => read_ok W p D (HD0.out.mods0 M) HF.out.ok at_ n)
    go_upto_region 6 with (go_at_call 48; refine (HS.out _ (Mods.refl.drewN _)).mono ?_; rintro e w' ⟨rfl, rfl⟩)
    have HRD := Lib.hid (show D.read ((G.at j : Nat) : Int) ((D.size : Nat) : Int) = (secA D G j, 0) by
      have hf : fits D ((G.at j : Nat) : Int) ((D.size : Nat) : Int) = true := decide_eq_true ⟨by omega, by omega, by have := HF.out.sect hjn; rw [HSZ.out] at this; omega⟩
      unfold Dev.read
      rw [if_neg (by rw [hdn]; decide), if_pos hf]
      simp [secA, subA, HSZ.out])
    clear c0 c1 c2 c4
    refine heldStart (S := fun W => Mods [] w0 W) 16 rfl (by kernel_rfl) (Mods.refl.drewN _).drew (fun hHeld => ?_)
    refine takeD (i := 0) (d := 37) (v := ?_) rfl rfl (by kernel_rfl) (by kernel_rfl) (by kernel_rfl) (fun _ _ _ h => h) (Or.inl ⟨by rfl, ?_⟩) hHeld ?_
    rotate_left 1
    · (intro w hSw; (try dsimp only at hSw); go_simp; (try with_reducible rfl))
    simp only [List.setIfInBounds_toArray, List.set_cons_zero, List.set_cons_succ]
    refine takeD (i := 1) (d := 38) (v := ?_) rfl rfl (by kernel_rfl) (by kernel_rfl) (by kernel_rfl) (fun _ _ _ h => h) (Or.inl ⟨by rfl, ?_⟩) hHeld ?_
    rotate_left 1
    · (intro w hSw; (try dsimp only at hSw); go_simp; (try with_reducible rfl))
    simp only [List.setIfInBounds_toArray, List.set_cons_zero, List.set_cons_succ]
    refine takeD (i := 2) (d := 39) (v := ?_) rfl rfl (by kernel_rfl) (by kernel_rfl) (by kernel_rfl) (fun _ _ _ h => h) (Or.inl ⟨by rfl, ?_⟩) hHeld ?_
    rotate_left 1
    · (intro w hSw; (try dsimp only at hSw); go_simp; (try with_reducible rfl))
    simp only [List.setIfInBounds_toArray, List.set_cons_zero, List.set_cons_succ]
    refine takeD (i := 3) (d := 40) (v := (.pointer (some ⟨p.b,0,none⟩))) rfl rfl (by kernel_rfl) (by kernel_rfl) (by kernel_rfl) (fun _ _ _ h => h) (Or.inl ⟨by rfl, fun w hSw => ?_⟩) hHeld ?_
    · have cst := (cell_blk (hSw.heap HL0.out.blk (by simp)) 0).trans (show _ = some (.pointer (some ⟨p.b,0,none⟩)) from rfl)
      go_simp
    simp only [List.setIfInBounds_toArray, List.set_cons_zero, List.set_cons_succ]
    refine takeD (i := 4) (d := 41) (v := ?_) rfl rfl (by kernel_rfl) (by kernel_rfl) (by kernel_rfl) (fun _ _ _ h => h) (Or.inl ⟨by rfl, ?_⟩) hHeld ?_
    rotate_left 1
    · (intro w hSw; (try dsimp only at hSw); go_simp; (try with_reducible rfl))
    simp only [List.setIfInBounds_toArray, List.set_cons_zero, List.set_cons_succ]
    refine takeD (i := 5) (d := 42) (v := ?_) rfl rfl (by kernel_rfl) (by kernel_rfl) (by kernel_rfl) (fun _ _ _ h => h) (Or.inl ⟨by rfl, ?_⟩) hHeld ?_
    rotate_left 1
    · (intro w hSw; (try dsimp only at hSw); go_simp; (try with_reducible rfl))
    simp only [List.setIfInBounds_toArray, List.set_cons_zero, List.set_cons_succ]
    refine takeD (i := 6) (d := 43) (v := ?_) rfl rfl (by kernel_rfl) (by kernel_rfl) (by kernel_rfl) (fun _ _ _ h => h) (Or.inl ⟨by rfl, ?_⟩) hHeld ?_
    rotate_left 1
    · (intro w hSw; (try dsimp only at hSw); go_simp; (try with_reducible rfl))
    simp only [List.setIfInBounds_toArray, List.set_cons_zero, List.set_cons_succ]
    refine takeD (i := 7) (d := 44) (v := ?_) rfl rfl (by kernel_rfl) (by kernel_rfl) (by kernel_rfl) (fun _ _ _ h => h) (Or.inl ⟨by rfl, ?_⟩) hHeld ?_
    rotate_left 1
    · (intro w hSw; (try dsimp only at hSw); go_simp; (try with_reducible rfl))
    simp only [List.setIfInBounds_toArray, List.set_cons_zero, List.set_cons_succ]
    refine takeD (i := 8) (d := 45) (v := (.pointer (some ⟨p.b,0,none⟩))) rfl rfl (by kernel_rfl) (by kernel_rfl) (by kernel_rfl) (fun _ _ _ h => h) (Or.inl ⟨by rfl, fun w hSw => ?_⟩) hHeld ?_
    · have cst := (cell_blk (hSw.heap HL0.out.blk (by simp)) 0).trans (show _ = some (.pointer (some ⟨p.b,0,none⟩)) from rfl)
      go_simp
    simp only [List.setIfInBounds_toArray, List.set_cons_zero, List.set_cons_succ]
    refine wpAnyH_ready (rs := [9]) (by kernel_rfl) (by simp) ?_
    refine AllReadyH.cons rfl (fun K hK => ?_) AllReadyH.nil
    go_simp
    go_wp2_with (refine (HS.out _ hHeld).mono ?_; rintro e w' ⟨rfl, rfl⟩)
    refine hK.out _ _ ?_ (fun hHeld => ?_)
    · exact hHeld
    clear hK K
    have HH := Lib.hid hHeld
    refine wpAnyH_ready (rs := [10]) (by kernel_rfl) (by simp) ?_
    refine AllReadyH.cons rfl (fun K4 hK => ?_) AllReadyH.nil
    go_simp
    refine (HR.out _ HH.out _ _).mono ?_
    rintro e w' ⟨v, rfl, hov, MR⟩
    rw [HRD.out] at hov ⊢
    have HMR := Lib.hid (HH.out.trans MR)
    have HOV := Lib.hid (Rd.own hov)
    have HVO := Lib.hid (show ∀ y, v.ownBlock = some y → w0.heap.size ≤ y ∧ y < w'.heap.size from fun y hy => by
      have h1 := World.ownsRow.lt hov y hy
      have h2 := HH.out.size
      exact ⟨Nat.le_trans h2 h1.1, h1.2⟩)
    clear hov MR HH
    go_simp
    refine hK.out _ _ HMR.out (fun hHeld => ?_)
    clear hK K4
    refine takeD (i := 11) (d := 36) (v := ?_) rfl rfl (by kernel_rfl) (by kernel_rfl) (by kernel_rfl) (fun _ _ _ h => h) (Or.inl ⟨by rfl, ?_⟩) hHeld ?_
    rotate_left 1
    · (intro w hSw; (try dsimp only at hSw); go_simp; (try with_reducible rfl))
    simp only [List.setIfInBounds_toArray, List.set_cons_zero, List.set_cons_succ]
    refine takeD (i := 12) (d := 48) (v := ?_) rfl rfl (by kernel_rfl) (by kernel_rfl) (by kernel_rfl) (fun _ _ _ h => h) (Or.inl ⟨by rfl, ?_⟩) hHeld ?_
    rotate_left 1
    · (intro w hSw; (try dsimp only at hSw); go_simp; (try with_reducible rfl))
    simp only [List.setIfInBounds_toArray, List.set_cons_zero, List.set_cons_succ]
    refine takeD (i := 13) (d := 49) (v := ?_) rfl rfl (by kernel_rfl) (by kernel_rfl) (by kernel_rfl) (fun _ _ _ h => h) (Or.inl ⟨by rfl, ?_⟩) hHeld ?_
    rotate_left 1
    · (intro w hSw; (try dsimp only at hSw); go_simp; (try with_reducible rfl))
    simp only [List.setIfInBounds_toArray, List.set_cons_zero, List.set_cons_succ]
    refine takeD (i := 14) (d := 8) (v := ?_) rfl rfl (by kernel_rfl) (by kernel_rfl) (by kernel_rfl) (fun _ _ _ h => h) (Or.inl ⟨by rfl, ?_⟩) hHeld ?_
    rotate_left 1
    · (intro w hSw; (try dsimp only at hSw); go_simp; (try with_reducible rfl))
    simp only [List.setIfInBounds_toArray, List.set_cons_zero, List.set_cons_succ]
    refine takeD (i := 15) (d := 9) (v := ?_) rfl rfl (by kernel_rfl) (by kernel_rfl) (by kernel_rfl) (fun _ _ _ h => h) (Or.inl ⟨by rfl, ?_⟩) hHeld ?_
    rotate_left 1
    · (intro w hSw; (try dsimp only at hSw); go_simp; (try with_reducible rfl))
    simp only [List.setIfInBounds_toArray, List.set_cons_zero, List.set_cons_succ]
    refine wpAnyH_done (by kernel_rfl) ?_ _
    clear hHeld HS HR HRD e1 e2 hm0
    have HBK := Lib.hid (blank_ok w' (secA D G j) v HOV.out)
    rw [blank_sec HF.out hjn] at HBK
    go_upto_region 7 with (fail)
    go_cut [56] (fun u wx => u = .bool (!blankS (byt D) G j) ∧ Mods [] w' wx)
    case first =>
      go_wp2_with fail
      refine HBK.out.mono ?_
      rintro e w2 ⟨rfl, M⟩
      go_wp2_with fail
      go_meet
      exact ⟨rfl, M⟩
    case rest =>
      obtain ⟨rfl, MC⟩ := hcut
      have HMC := Lib.hid (HMR.out.trans MC)
      have HDC := Lib.hid (HD0.out.mods0 HMC.out)
      have HLC := Lib.hid (HL0.out.mods0 HMC.out)
      clear MC
      generalize wc = w3 at HMC HDC HLC ⊢
      have c0 := (HLC.out.c 0).trans (show _ = some (Value.pointer (some ⟨p.b, 0, none⟩)) from rfl)
      have HER := Lib.hid (erase_ok w3 p D HDC.out HF.out.ok ((G.first + j : Nat) : Int) (by have := HLM.out.2.2; omega) HWR.out)
      go_upto_if 56 with (fail)
      go_cut [9] (fun u wx => u = .int .i64 (openE G D j).1 ∧ IsDev wx p (openE G D j).2 ∧ Mods p.foot w3 wx)
      case first =>
        obtain ⟨bk, hbk⟩ : ∃ bk, bk = blankS (byt D) G j := ⟨_, rfl⟩
        have HE := Lib.hid (show openE G D j = if bk = true then (0, D) else D.erase ((G.first + j : Nat) : Int) by rw [hbk]; rfl)
        rw [← hbk]
        clear hbk
        cases bk with
        | true =>
          go_wp2_with fail
          go_meet
          rw [HE.out]
          exact ⟨rfl, HDC.out, Mods.refl⟩
        | false =>
          have HE2 := Lib.hid (show openE G D j = D.erase ((G.first + j : Nat) : Int) from HE.out)
          go_wp2_with fail
          refine HER.out.mono ?_
          rintro e w4 ⟨rfl, hd4, hm4⟩
          have HH4 := Lib.hid (And.intro hd4 hm4)
          clear hd4 hm4
          go_wp2_with fail
          go_meet
          rw [HE2.out]
          exact ⟨rfl, HH4.out⟩
      case rest =>
        obtain ⟨rfl, hdE, hmE⟩ := hcut
        have HDE := Lib.hid hdE
        have HME := Lib.hid (show Mods (p.foot ++ q.foot) w0 wc from HMC.out.nil.trans (hmE.mono (fun y hy => .inl (List.mem_append.2 (.inl hy)))))
        have HLE := Lib.hid (HLC.out.mods hmE (fun y hy hm => HAP.out y hm hy))
        clear hdE hmE HER c0 HLC HDC HMC
        generalize wc = w5 at HDE HME HLE ⊢
        have hOL : openL G D L.s t = ((openD G D j (L.s.newest + 1) t L.s.next).1, (openD G D j (L.s.newest + 1) t L.s.next).2, if (openD G D j (L.s.newest + 1) t L.s.next).1 = 0 then grownS L.s t else L.s) := by
          rw [HJ.out]
          exact if_neg (by have := HLM.out.1; omega)
        by_cases hE : (openE G D j).1 = 0
        · have HE1 := Lib.hid hE
          have HG5 := Lib.hid (HME.out.heap B0.out (fun hm => by
            have h1 := HG3.out
            rcases List.mem_append.1 hm with h | h
            · have := HD.out.lt _ h; omega
            · have := HL.out.footlt _ h; omega))
          have HSE := Lib.hid (openE_spec HF.out hdn hjn HFW.out)
          have HOK := Lib.hid HSE.out.1.ok
          have HFE := Lib.hid (show (openE G D j).2.steps ≤ 4611686018427000000 from Int.le_trans HSE.out.2.1.st (by decide))
          rw [hE]
          go_upto_region 10 with (fail)
          have HPQ := Lib.hid (show q.b ∉ p.foot from fun h => HAP.out _ h (by simp [LogAt.foot]))
          have HG3P := Lib.hid (show g3 ∉ p.foot from fun h => by have := HD.out.lt _ h; have := HG3.out; omega)
          have HOH := Lib.hid (show openH G D j (L.s.newest + 1) t L.s.next = (openE G D j).2.program ((G.at j : Nat) : Int) (hdrL (L.s.newest + 1) t L.s.next) from if_pos HE1.out)
          go_cut [9] (fun u wx => u = .int .i64 (openH G D j (L.s.newest + 1) t L.s.next).1 ∧ IsDev wx p (openH G D j (L.s.newest + 1) t L.s.next).2 ∧ Mods p.foot w5 wx)
          case first =>
            refine heldStart (S := fun W => Mods p.foot w5 W) 25 rfl (by kernel_rfl) Mods.refl.drew (fun hHeld => ?_)
            refine takeD (i := 0) (d := 65) (v := ?_) rfl rfl (by kernel_rfl) (by kernel_rfl) (by kernel_rfl) (fun _ _ _ h => h) (Or.inl ⟨by rfl, ?_⟩) hHeld ?_
            rotate_left 1
            · (intro w hSw; (try dsimp only at hSw); go_simp; (try with_reducible rfl))
            simp only [List.setIfInBounds_toArray, List.set_cons_zero, List.set_cons_succ]
            refine takeD (i := 1) (d := 66) (v := ?_) rfl rfl (by kernel_rfl) (by kernel_rfl) (by kernel_rfl) (fun _ _ _ h => h) (Or.inl ⟨by rfl, ?_⟩) hHeld ?_
            rotate_left 1
            · (intro w hSw; (try dsimp only at hSw); go_simp; (try with_reducible rfl))
            simp only [List.setIfInBounds_toArray, List.set_cons_zero, List.set_cons_succ]
            refine takeD (i := 2) (d := 67) (v := ?_) rfl rfl (by kernel_rfl) (by kernel_rfl) (by kernel_rfl) (fun _ _ _ h => h) (Or.inl ⟨by rfl, ?_⟩) hHeld ?_
            rotate_left 1
            · (intro w hSw; (try dsimp only at hSw); go_simp; (try with_reducible rfl))
            simp only [List.setIfInBounds_toArray, List.set_cons_zero, List.set_cons_succ]
            refine takeD (i := 3) (d := 68) (v := (.pointer (some ⟨p.b,0,none⟩))) rfl rfl (by kernel_rfl) (by kernel_rfl) (by kernel_rfl) (fun _ _ _ h => h) (Or.inl ⟨by rfl, fun w hSw => ?_⟩) hHeld ?_
            · have cst := (cell_blk (hSw.heap HLE.out.blk HPQ.out) 0).trans (show _ = some (.pointer (some ⟨p.b,0,none⟩)) from rfl)
              go_simp
            simp only [List.setIfInBounds_toArray, List.set_cons_zero, List.set_cons_succ]
            refine takeD (i := 4) (d := 69) (v := ?_) rfl rfl (by kernel_rfl) (by kernel_rfl) (by kernel_rfl) (fun _ _ _ h => h) (Or.inl ⟨by rfl, ?_⟩) hHeld ?_
            rotate_left 1
            · (intro w hSw; (try dsimp only at hSw); go_simp; (try with_reducible rfl))
            simp only [List.setIfInBounds_toArray, List.set_cons_zero, List.set_cons_succ]
            refine takeD (i := 5) (d := 70) (v := ?_) rfl rfl (by kernel_rfl) (by kernel_rfl) (by kernel_rfl) (fun _ _ _ h => h) (Or.inl ⟨by rfl, ?_⟩) hHeld ?_
            rotate_left 1
            · (intro w hSw; (try dsimp only at hSw); go_simp; (try with_reducible rfl))
            simp only [List.setIfInBounds_toArray, List.set_cons_zero, List.set_cons_succ]
            refine takeD (i := 7) (d := 72) (v := (.int .i64 (t:Nat))) rfl rfl (by kernel_rfl) (by kernel_rfl) (by kernel_rfl) (fun _ _ _ h => h) (Or.inl ⟨by rfl, fun w hSw => ?_⟩) hHeld ?_
            · have cst := (cell_blk (hSw.heap HG5.out HG3P.out) 0).trans (show _ = some (.int .i64 (t:Nat)) from rfl)
              go_simp
            simp only [List.setIfInBounds_toArray, List.set_cons_zero, List.set_cons_succ]
            refine takeD (i := 10) (d := 75) (v := ?_) rfl rfl (by kernel_rfl) (by kernel_rfl) (by kernel_rfl) (fun _ _ _ h => h) (Or.inl ⟨by rfl, ?_⟩) hHeld ?_
            rotate_left 1
            · (intro w hSw; (try dsimp only at hSw); go_simp; (try with_reducible rfl))
            simp only [List.setIfInBounds_toArray, List.set_cons_zero, List.set_cons_succ]
            refine takeD (i := 11) (d := 76) (v := ?_) rfl rfl (by kernel_rfl) (by kernel_rfl) (by kernel_rfl) (fun _ _ _ h => h) (Or.inl ⟨by rfl, ?_⟩) hHeld ?_
            rotate_left 1
            · (intro w hSw; (try dsimp only at hSw); go_simp; (try with_reducible rfl))
            simp only [List.setIfInBounds_toArray, List.set_cons_zero, List.set_cons_succ]
            refine takeD (i := 12) (d := 77) (v := ?_) rfl rfl (by kernel_rfl) (by kernel_rfl) (by kernel_rfl) (fun _ _ _ h => h) (Or.inl ⟨by rfl, ?_⟩) hHeld ?_
            rotate_left 1
            · (intro w hSw; (try dsimp only at hSw); go_simp; (try with_reducible rfl))
            simp only [List.setIfInBounds_toArray, List.set_cons_zero, List.set_cons_succ]
            refine takeD (i := 13) (d := 78) (v := (.int .u16 (L.s.next:Nat))) rfl rfl (by kernel_rfl) (by kernel_rfl) (by kernel_rfl) (fun _ _ _ h => h) (Or.inl ⟨by rfl, fun w hSw => ?_⟩) hHeld ?_
            · have cst := (cell_blk (hSw.heap HLE.out.blk HPQ.out) 7).trans (show _ = some (.int .u16 (L.s.next:Nat)) from rfl)
              go_simp
            simp only [List.setIfInBounds_toArray, List.set_cons_zero, List.set_cons_succ]
            refine takeD (i := 14) (d := 79) (v := ?_) rfl rfl (by kernel_rfl) (by kernel_rfl) (by kernel_rfl) (fun _ _ _ h => h) (Or.inl ⟨by rfl, ?_⟩) hHeld ?_
            rotate_left 1
            · (intro w hSw; (try dsimp only at hSw); go_simp; (try with_reducible rfl))
            simp only [List.setIfInBounds_toArray, List.set_cons_zero, List.set_cons_succ]
            refine takeD (i := 15) (d := 80) (v := ?_) rfl rfl (by kernel_rfl) (by kernel_rfl) (by kernel_rfl) (fun _ _ _ h => h) (Or.inl ⟨by rfl, ?_⟩) hHeld ?_
            rotate_left 1
            · (intro w hSw; (try dsimp only at hSw); go_simp; (try with_reducible rfl))
            simp only [List.setIfInBounds_toArray, List.set_cons_zero, List.set_cons_succ]
            refine takeD (i := 16) (d := 81) (v := ?_) rfl rfl (by kernel_rfl) (by kernel_rfl) (by kernel_rfl) (fun _ _ _ h => h) (Or.inl ⟨by rfl, ?_⟩) hHeld ?_
            rotate_left 1
            · (intro w hSw; (try dsimp only at hSw); go_simp; (try with_reducible rfl))
            simp only [List.setIfInBounds_toArray, List.set_cons_zero, List.set_cons_succ]
            refine takeD (i := 17) (d := 82) (v := ?_) rfl rfl (by kernel_rfl) (by kernel_rfl) (by kernel_rfl) (fun _ _ _ h => h) (Or.inl ⟨by rfl, ?_⟩) hHeld ?_
            rotate_left 1
            · (intro w hSw; (try dsimp only at hSw); go_simp; (try with_reducible rfl))
            simp only [List.setIfInBounds_toArray, List.set_cons_zero, List.set_cons_succ]
            refine takeD (i := 18) (d := 83) (v := (.int .u16 (L.s.next:Nat))) rfl rfl (by kernel_rfl) (by kernel_rfl) (by kernel_rfl) (fun _ _ _ h => h) (Or.inl ⟨by rfl, fun w hSw => ?_⟩) hHeld ?_
            · have cst := (cell_blk (hSw.heap HLE.out.blk HPQ.out) 7).trans (show _ = some (.int .u16 (L.s.next:Nat)) from rfl)
              go_simp
            simp only [List.setIfInBounds_toArray, List.set_cons_zero, List.set_cons_succ]
            refine takeD (i := 19) (d := 84) (v := ?_) rfl rfl (by kernel_rfl) (by kernel_rfl) (by kernel_rfl) (fun _ _ _ h => h) (Or.inl ⟨by rfl, ?_⟩) hHeld ?_
            rotate_left 1
            · (intro w hSw; (try dsimp only at hSw); go_simp; (try with_reducible rfl))
            simp only [List.setIfInBounds_toArray, List.set_cons_zero, List.set_cons_succ]
            refine takeD (i := 20) (d := 85) (v := ?_) rfl rfl (by kernel_rfl) (by kernel_rfl) (by kernel_rfl) (fun _ _ _ h => h) (Or.inl ⟨by rfl, ?_⟩) hHeld ?_
            rotate_left 1
            · (intro w hSw; (try dsimp only at hSw); go_simp; (try with_reducible rfl))
            simp only [List.setIfInBounds_toArray, List.set_cons_zero, List.set_cons_succ]
            have HZ := Lib.hid (show (#[.int .u8 (IntKind.u8.wrap ((L.s.next : Nat) : Int)), .int .u8 (IntKind.u8.wrap (((L.s.next : Nat) : Int) / 256))] : Array Value) = (u8s (leL L.s.next 2)).toArray by simp [leL, List.range_succ, u8s, IntKind.wrap, IntKind.signed, IntKind.bits])
            have HW4q := Lib.hid (fun W => write4_ok W (L.s.newest + 1) (by have := HLM.out.1; omega))
            have HW4t := Lib.hid (fun W => write4_ok W t (by have := HLM.out.2.1; omega))
            have HQ1 := Lib.hid (show ((L.s.newest : Nat) : Int) + 1 = ((L.s.newest + 1 : Nat) : Int) by omega)
            refine (bothV_step (T := 5) (z := #[.int .u8 (IntKind.u8.wrap ((L.s.next : Nat) : Int)), .int .u8 (IntKind.u8.wrap (((L.s.next : Nat) : Int) / 256))]) (vA := fun g => .slice (some ⟨g, 0, none⟩) 2 2) (iA := 21) (dA := 86) (df := []) (B := w5.heap.size) rfl rfl rfl (fun a w ha => by obtain ⟨_, _⟩ := a; cases ha; go_simp) hHeld.size (i := 6) (d := 71) rfl (by decide) (by decide) (by kernel_rfl) (by kernel_rfl) (fun W M => hHeld.trans M.nil) (J := fun u W => OwnB W w5.heap.size u (leL ((L.s.newest + 1 : Nat) : Int) 4) ∧ Mods [] w5 W) (fun _ _ h => h.2.nil) ?_ ?_).1
            · intro W t' M ht K F hK
              have MW := (Mods.refl (S := []) (w := w5)).drew.trans M
              rcases ht with rfl | ⟨x, rfl⟩
              all_goals
                go_simp
                rw [HQ1.out]
                go_wp2_with (go_at_call 96; refine (HW4q.out _).mono ?_; rintro e W' ⟨v6, rfl, O6, M6⟩)
                exact hK v6 W' ⟨owns_down O6 MW.size, MW.trans M6⟩ (fun g hg => M6.heap hg (by simp))
            intro x1 W1 hJ1
            replace hHeld := hJ1.2
            refine (bothV_step (T := 5) (z := #[.int .u8 (IntKind.u8.wrap ((L.s.next : Nat) : Int)), .int .u8 (IntKind.u8.wrap (((L.s.next : Nat) : Int) / 256))]) (vA := fun g => .slice (some ⟨g, 0, none⟩) 2 2) (iA := 21) (dA := 86) (df := []) (B := w5.heap.size) rfl rfl rfl (fun a w ha => by obtain ⟨_, _⟩ := a; cases ha; go_simp) hHeld.size (i := 8) (d := 73) rfl (by decide) (by decide) (by kernel_rfl) (by kernel_rfl) (fun W M => (hHeld.trans M).nil) (J := fun u W => OwnB W w5.heap.size x1 (leL ((L.s.newest + 1 : Nat) : Int) 4) ∧ OwnB W w5.heap.size u (leL t 4) ∧ Mods [] w5 W) (fun _ _ h => h.2.2.nil) ?_ ?_)
            · intro W t' M ht K F hK
              have MW := hHeld.trans M
              rcases ht with rfl | ⟨x, rfl⟩
              all_goals
                go_simp
                go_wp2_with (go_at_call 96; refine (HW4t.out _).mono ?_; rintro e W' ⟨v6, rfl, O6, M6⟩)
                exact hK v6 W' ⟨(hJ1.1.mods0 M).mods0 M6, owns_down O6 MW.size, MW.trans M6⟩ (fun g hg => M6.heap hg (by simp))
            intro x2 W2 hJ2
            replace hHeld := hJ2.2.2
            clear hJ1
            refine (bothV_step (T := 5) (z := #[.int .u8 (IntKind.u8.wrap ((L.s.next : Nat) : Int)), .int .u8 (IntKind.u8.wrap (((L.s.next : Nat) : Int) / 256))]) (vA := fun g => .slice (some ⟨g, 0, none⟩) 2 2) (iA := 21) (dA := 86) (df := []) (B := w5.heap.size) rfl rfl rfl (fun a w ha => by obtain ⟨_, _⟩ := a; cases ha; go_simp) hHeld.size (i := 9) (d := 74) rfl (by decide) (by decide) (by kernel_rfl) (by kernel_rfl) (fun W M => (hHeld.trans M).nil) (J := fun u W => OwnB W w5.heap.size u (leL ((L.s.newest + 1 : Nat) : Int) 4 ++ leL t 4) ∧ Mods [] w5 W) (fun _ _ h => h.2.nil) ?_ ?_)
            · intro W t' M ht K F hK
              have MW := hHeld.trans M
              have hO1 := hJ2.1.mods0 M
              rcases ht with rfl | ⟨x, rfl⟩
              all_goals
                refine step_appD (a := ⟨_, []⟩) (by rfl) 74 rfl (.tmp 71) (.tmp 73) rfl (by rfl) hO1 (by rfl) (hJ2.2.1.mods0 M).rd (by simp [leL_length]) MW.size (fun u W' O M' => ?_)
                exact hK u W' ⟨O, MW.comp M' (fun q hq => .inr (hO1.back hq))⟩ (fun g hg => M'.heap hg (hO1.apartS hg (by simp [leL_length])))
            intro x3 W3 hJ3
            replace hHeld := hJ3.2
            clear hJ2
            refine bothV_last (T := 5) (z := #[.int .u8 (IntKind.u8.wrap ((L.s.next : Nat) : Int)), .int .u8 (IntKind.u8.wrap (((L.s.next : Nat) : Int) / 256))]) (vA := fun g => .slice (some ⟨g, 0, none⟩) 2 2) (iA := 21) (dA := 86) (df := []) (B := w5.heap.size) rfl rfl rfl (fun a w ha => by obtain ⟨_, _⟩ := a; cases ha; go_simp) hHeld.size (by kernel_rfl) (fun W M => (hHeld.trans M).nil) (fun W4 g M4 hgb hg => ?_)
            replace hHeld := hHeld.trans M4
            have HO3 := Lib.hid (hJ3.1.mods0 M4)
            have HGZ := Lib.hid (hg.trans (congrArg (fun z => some (Obj.cells z 5 (0, 0))) HZ.out))
            clear hJ3 hg M4
            try dsimp only
            refine wpAnyH_ready (rs := [22]) (by kernel_rfl) (by simp) ?_
            refine AllReadyH.cons rfl (fun K hK => ?_) AllReadyH.nil
            refine step_appD (a := ⟨_, []⟩) (by rfl) 87 rfl (.tmp 74) (.tmp 86) rfl (by rfl) HO3.out (X := leL L.s.next 2) (by rfl) (rdRow _ HGZ.out (by simp [leL_length]; decide)) (by simp [leL_length]) hHeld.size (fun x4 W5 O5 M5 => ?_)
            replace hHeld := hHeld.comp M5 (fun q hq => .inr (HO3.out.back hq))
            refine hK.out _ _ hHeld.nil (fun _ => ?_)
            clear hK K M5 HO3 HGZ
            have HO5 := Lib.hid (show OwnB W5 w5.heap.size x4 (hdrL (L.s.newest + 1) t L.s.next) from O5)
            clear O5
            refine wpAnyH_ready (rs := [23]) (by kernel_rfl) (by simp) ?_
            refine AllReadyH.cons rfl (fun K hK => ?_) AllReadyH.nil
            have HPG := Lib.hid (program_ok W5 p _ (HDE.out.mods0 hHeld) HOK.out ((G.at j : Nat) : Int) x4 _ HO5.out.rd (hdrL_bytes _ _ _) (fun _ k hk hm => by
              have h1 := (HO5.out.lt k hk).1
              have h2 := HDE.out.lt k (by simp [DevAt.foot] at hm ⊢; rcases hm with h | h <;> simp [h])
              omega) HFE.out)
            go_simp
            go_wp2_with (go_at_call 32; refine HPG.out.mono ?_; rintro e W6 ⟨rfl, D6, M6⟩)
            rw [← HOH.out] at D6 ⊢
            have HD6 := Lib.hid D6
            have HM6 := Lib.hid (show Mods p.foot w5 W6 from hHeld.nil.trans (M6.mono (fun y hy => .inl (by simp [DevAt.foot] at hy ⊢; rcases hy with h | h <;> simp [h]))))
            clear D6 M6
            refine hK.out _ _ HM6.out (fun hHeld => ?_)
            clear hK K
            refine takeD (i := 24) (d := 9) (v := ?_) rfl rfl (by kernel_rfl) (by kernel_rfl) (by kernel_rfl) (fun _ _ _ h => h) (Or.inl ⟨by rfl, ?_⟩) hHeld ?_
            rotate_left 1
            · (intro w hSw; (try dsimp only at hSw); go_simp; (try with_reducible rfl))
            simp only [List.setIfInBounds_toArray, List.set_cons_zero, List.set_cons_succ]
            refine wpAnyH_done (by kernel_rfl) ?_ _
            go_wp2_with fail
            go_meet
            exact ⟨rfl, HD6.out, HM6.out⟩
          case rest =>
            obtain ⟨rfl, hdH, hmH⟩ := hcut
            have HDH := Lib.hid hdH
            have HMH := Lib.hid (show Mods (p.foot ++ q.foot) w0 wc from HME.out.trans (hmH.mono (fun y hy => .inl (List.mem_append.2 (.inl hy)))))
            have HLH := Lib.hid (HLE.out.mods hmH (fun y hy hm => HAP.out y hm hy))
            have HGH := Lib.hid (hmH.heap HG5.out HG3P.out)
            clear hdH hmH HDE HLE HG5 HSE HOK HFE HME
            generalize wc = w6 at HDH HMH HLH HGH ⊢
            have HSH := Lib.hid (openH_spec HF.out hdn hjn HFW.out (L.s.newest + 1) t L.s.next)
            by_cases hH : (openH G D j (L.s.newest + 1) t L.s.next).1 = 0
            · have HOD := Lib.hid (show openD G D j (L.s.newest + 1) t L.s.next = (openH G D j (L.s.newest + 1) t L.s.next).2.program ((G.at j + 10 : Nat) : Int) [0] from if_pos hH)
              have c0 := (HLH.out.c 0).trans (show _ = some (Value.pointer (some ⟨p.b, 0, none⟩)) from rfl)
              have HCP := Lib.hid (fun W (M : Mods [] w6 W) v (hv : OwnB W w6.heap.size v [0]) => program_ok W p _ (HDH.out.mods0 M) HSH.out.1.ok ((G.at j + 10 : Nat) : Int) v [0] hv.rd (bytes_of (by simp)) (fun _ k hk hm => by
                have h1 := (hv.lt k hk).1
                have h2 := HDH.out.lt k (by simp [DevAt.foot] at hm ⊢; rcases hm with h | h <;> simp [h])
                omega) (Int.le_trans HSH.out.2.1.st (by decide)))
              have e4 : ((G.at j : Nat) : Int) ≤ 1000000 := by
                have h1 : G.at j + G.size ≤ D.data.length := HF.out.sect hjn
                have h2 := HF.out.ok.len
                have h3 : D.size * D.wear.length ≤ 1024 * 16 := Nat.mul_le_mul hz hw16
                rw [Nat.mul_comm] at h3
                first | omega | (rw [Nat.mul_comm] at h3; omega)
              rw [hH]
              go_upto_region 12 with (fail)
              go_cut [9] (fun u wx => u = .int .i64 (openD G D j (L.s.newest + 1) t L.s.next).1 ∧ IsDev wx p (openD G D j (L.s.newest + 1) t L.s.next).2 ∧ Mods p.foot w6 wx)
              case first =>
                have M1 := (Mods.refl (S := []) (w := w6)).alloc (.cells (u8s [0]).toArray 5)
                have HC1 := Lib.hid (HCP.out _ M1 _ (OwnB.lit w6 (Nat.le_refl _) [0] (by decide)))
                have HM1 := Lib.hid M1
                clear M1
                go_wp2_with (go_at_call 32; refine HC1.out.mono ?_; rintro e w7 ⟨rfl, D7, M7⟩; rw [← HOD.out] at D7 ⊢; have HD7 := Lib.hid D7; have HM7 := Lib.hid (show Mods p.foot w6 w7 from HM1.out.nil.trans (M7.mono (fun y hy => .inl (by simp [DevAt.foot] at hy ⊢; rcases hy with h | h <;> simp [h])))); clear D7 M7)
                go_meet
                exact ⟨rfl, HD7.out, HM7.out⟩
              case rest =>
                obtain ⟨rfl, hdH, hmH⟩ := hcut
                have HDD := Lib.hid hdH
                have HMD := Lib.hid (show Mods (p.foot ++ q.foot) w0 wc from HMH.out.trans (hmH.mono (fun y hy => .inl (List.mem_append.2 (.inl hy)))))
                have HLD := Lib.hid (HLH.out.mods hmH (fun y hy hm => HAP.out y hm hy))
                have HGD := Lib.hid (hmH.heap HGH.out HG3P.out)
                clear hdH hmH HDH HLH HGH HSH HCP c0
                generalize wc = w7 at HDD HMD HLD HGD ⊢
                by_cases hD0 : (openD G D j (L.s.newest + 1) t L.s.next).1 = 0
                · have HO := Lib.hid (show openL G D L.s t = (0, (openD G D j (L.s.newest + 1) t L.s.next).2, grownS L.s t) by rw [hOL, if_pos hD0, hD0])
                  clear hOL
                  have HGQ := Lib.hid (show g3 ∉ [q.b] by have h1 := HG3.out; have h2 := HL.out.footlt q.b (by simp [LogAt.foot]); simp; omega)
                  rw [hD0]
                  go_upto_region 14 with (fail)
                  have HBL7 := Lib.hid HLD.out.blk
                  refine heldStart (S := fun W => Mods [q.b] w7 W) 14 rfl (by kernel_rfl) Mods.refl.drew (fun hHeld => ?_)
                  refine takeD (i := 0) (d := 101) (v := ?_) rfl rfl (by kernel_rfl) (by kernel_rfl) (by kernel_rfl) (fun _ _ _ h => h) (Or.inl ⟨by rfl, ?_⟩) hHeld ?_
                  rotate_left 1
                  · (intro w hSw; (try dsimp only at hSw); go_simp; (try with_reducible rfl))
                  simp only [List.setIfInBounds_toArray, List.set_cons_zero, List.set_cons_succ]
                  refine takeD (i := 1) (d := 102) (v := ?_) rfl rfl (by kernel_rfl) (by kernel_rfl) (by kernel_rfl) (fun _ _ _ h => h) (Or.inl ⟨by rfl, ?_⟩) hHeld ?_
                  rotate_left 1
                  · (intro w hSw; (try dsimp only at hSw); go_simp; (try with_reducible rfl))
                  simp only [List.setIfInBounds_toArray, List.set_cons_zero, List.set_cons_succ]
                  refine takeD (i := 2) (d := 103) (v := ?_) rfl rfl (by kernel_rfl) (by kernel_rfl) (by kernel_rfl) (fun _ _ _ h => h) (Or.inl ⟨by rfl, ?_⟩) hHeld ?_
                  rotate_left 1
                  · (intro w hSw; (try dsimp only at hSw); go_simp; (try with_reducible rfl))
                  simp only [List.setIfInBounds_toArray, List.set_cons_zero, List.set_cons_succ]
                  refine takeD (i := 3) (d := 104) (v := ?_) rfl rfl (by kernel_rfl) (by kernel_rfl) (by kernel_rfl) (fun _ _ _ h => h) (Or.inl ⟨by rfl, ?_⟩) hHeld ?_
                  rotate_left 1
                  · (intro w hSw; (try dsimp only at hSw); go_simp; (try with_reducible rfl))
                  simp only [List.setIfInBounds_toArray, List.set_cons_zero, List.set_cons_succ]
                  refine takeD (i := 4) (d := 105) (v := (.int .i64 (t:Nat))) rfl rfl (by kernel_rfl) (by kernel_rfl) (by kernel_rfl) (fun _ _ _ h => h) (Or.inl ⟨by rfl, fun w hSw => ?_⟩) hHeld ?_
                  · have cst := (cell_blk (hSw.heap HGD.out HGQ.out) 0).trans (show _ = some (.int .i64 (t:Nat)) from rfl)
                    go_simp
                  simp only [List.setIfInBounds_toArray, List.set_cons_zero, List.set_cons_succ]
                  refine takeD (i := 5) (d := 106) (v := ?_) rfl rfl (by kernel_rfl) (by kernel_rfl) (by kernel_rfl) (fun _ _ _ h => h) (Or.inl ⟨by rfl, ?_⟩) hHeld ?_
                  rotate_left 1
                  · (intro w hSw; (try dsimp only at hSw); go_simp; (try with_reducible rfl))
                  simp only [List.setIfInBounds_toArray, List.set_cons_zero, List.set_cons_succ]
                  refine takeD (i := 6) (d := 107) (v := ?_) rfl rfl (by kernel_rfl) (by kernel_rfl) (by kernel_rfl) (fun _ _ _ h => h) (Or.inl ⟨by rfl, ?_⟩) hHeld ?_
                  rotate_left 1
                  · (intro w hSw; (try dsimp only at hSw); go_simp; (try with_reducible rfl))
                  simp only [List.setIfInBounds_toArray, List.set_cons_zero, List.set_cons_succ]
                  refine wpAnyH_ready (rs := [7]) (by kernel_rfl) (by simp) ?_
                  refine AllReadyH.cons rfl (fun K4 hK => ?_) AllReadyH.nil
                  refine exec_storeOne rfl rfl rfl HBL7.out rfl rfl (by show _ < 13; omega) Try.sizeI (by rfl) (fun W8 R8 M8 => ?_)
                  have HM8 := Lib.hid (show Mods [q.b] w7 W8 from Mods.refl.drew.trans M8)
                  have HR8 := Lib.hid R8
                  refine hK.out _ _ HM8.out (fun hHeld => ?_)
                  clear hK K4 R8 M8
                  refine takeD (i := 8) (d := 108) (v := ?_) rfl rfl (by kernel_rfl) (by kernel_rfl) (by kernel_rfl) (fun _ _ _ h => h) (Or.inl ⟨by rfl, ?_⟩) hHeld ?_
                  rotate_left 1
                  · (intro w hSw; (try dsimp only at hSw); go_simp; (try with_reducible rfl))
                  simp only [List.setIfInBounds_toArray, List.set_cons_zero, List.set_cons_succ]
                  refine takeD (i := 9) (d := 109) (v := ?_) rfl rfl (by kernel_rfl) (by kernel_rfl) (by kernel_rfl) (fun _ _ _ h => h) (Or.inl ⟨by rfl, ?_⟩) hHeld ?_
                  rotate_left 1
                  · (intro w hSw; (try dsimp only at hSw); go_simp; (try with_reducible rfl))
                  simp only [List.setIfInBounds_toArray, List.set_cons_zero, List.set_cons_succ]
                  refine wpAnyH_ready (rs := [10]) (by kernel_rfl) (by simp) ?_
                  refine AllReadyH.cons rfl (fun K4 hK => ?_) AllReadyH.nil
                  refine exec_storeOne rfl rfl rfl HR8.out rfl rfl (by show _ < 13; omega) Try.sizeI (by rfl) (fun W9 R9 M9 => ?_)
                  have HM9 := Lib.hid (show Mods [q.b] w7 W9 from HM8.out.trans M9)
                  have HR9 := Lib.hid R9
                  refine hK.out _ _ HM9.out (fun hHeld => ?_)
                  clear hK K4 R9 M9
                  refine takeD (i := 11) (d := 110) (v := ?_) rfl rfl (by kernel_rfl) (by kernel_rfl) (by kernel_rfl) (fun _ _ _ h => h) (Or.inl ⟨by rfl, ?_⟩) hHeld ?_
                  rotate_left 1
                  · (intro w hSw; (try dsimp only at hSw); go_simp; (try with_reducible rfl))
                  simp only [List.setIfInBounds_toArray, List.set_cons_zero, List.set_cons_succ]
                  refine takeD (i := 12) (d := 111) (v := ?_) rfl rfl (by kernel_rfl) (by kernel_rfl) (by kernel_rfl) (fun _ _ _ h => h) (Or.inl ⟨by rfl, ?_⟩) hHeld ?_
                  rotate_left 1
                  · (intro w hSw; (try dsimp only at hSw); go_simp; (try with_reducible rfl))
                  simp only [List.setIfInBounds_toArray, List.set_cons_zero, List.set_cons_succ]
                  refine wpAnyH_ready (rs := [13]) (by kernel_rfl) (by simp) ?_
                  refine AllReadyH.cons rfl (fun K4 hK => ?_) AllReadyH.nil
                  refine exec_storeOne rfl rfl rfl HR9.out rfl rfl (by show _ < 13; omega) Try.sizeI (by rfl) (fun WA RA MA => ?_)
                  have HMA := Lib.hid (show Mods [q.b] w7 WA from HM9.out.trans MA)
                  have HRA := Lib.hid (show WA.heap[q.b]? = some (.cells (logCells (.pointer (some ⟨p.b, 0, none⟩)) G.first G.n { L with s := ⟨L.s.newest + 1, t, 0, L.s.next, L.s.recs⟩ } q.v) 86 (0, 0)) from RA)
                  refine hK.out _ _ HMA.out (fun hHeld => ?_)
                  clear hK K4 RA MA
                  refine wpAnyH_done (by kernel_rfl) ?_ _
                  clear hHeld
                  have HOW := Lib.hid (HLD.out.own.mods HMA.out (fun k hk hm => by have h1 := (HLD.out.own.lt k hk).1; have h2 := HLD.out.lt; simp at hm; omega))
                  have HDA := Lib.hid (HDD.out.mods HMA.out (fun k hk hm => by simp at hm; subst hm; exact HPQ.out hk))
                  have HGA := Lib.hid (HMA.out.heap HGD.out HGQ.out)
                  have HMW := Lib.hid (show Mods (p.foot ++ q.foot) w0 WA from HMD.out.trans (HMA.out.mono (fun y hy => .inl (by simp at hy; subst hy; simp [LogAt.foot]))))
                  have HBW := Lib.hid (show B ≤ WA.heap.size by have h1 := HMW.out.size; omega)
                  have HDEL := Lib.hid (delete_ok WA B q.v L.s.recs HOW.out HRC.out HBW.out g3 t HGA.out)
                  clear HR8 HR9 HM8 HM9 HLD HDD HGD
                  have c8 := (cell_blk HRA.out 8).trans (show _ = some q.v from rfl)
                  go_wp2_with (go_at_call 97; refine HDEL.out.mono ?_; rintro e wB ⟨ad, nn, cap, rfl, OB, MB, NB⟩; have HOB := Lib.hid OB; have HMB := Lib.hid MB; have HNB := Lib.hid NB; have HRB := Lib.hid (MB.heap HRA.out (fun hm => by have h1 := HOW.out.back hm; have h2 := HLQ.out; omega)); clear OB MB NB; have f8 := froz_blk HRB.out 8; have d8 := (cell_blk HRB.out 8).trans (show _ = some q.v from rfl))
                  go_ret
                  have MS := (Mods.refl (S := [q.b]) (w := wB)).setCell (p := ⟨q.b, 8, none⟩) (.inl (by simp)) (.slice ad nn cap)
                  refine ⟨.slice ad nn cap, by rw [HO.out]; rfl, ?_, ?_, ?_, fun y hy => .inl (HNB.out y hy)⟩
                  · rw [HO.out]
                    exact (HDA.out.mods HMB.out (fun k hk hm => HAP.out k hk (by simp [LogAt.foot]; right; simpa using hm))).mods MS (fun k hk hm => by simp at hm; subst hm; exact HPQ.out hk)
                  · rw [HO.out]
                    refine ⟨heap_setCell (i := 8) (v := .slice ad nn cap) HRB.out, HOB.out.mods MS (fun k hk hm => by have h1 := (HOB.out.lt k hk).1; have h2 := HLQ.out; simp at hm; omega), HLQ.out⟩
                  · refine M0.out.nil.trans (HMW.out.trans ((HMB.out.mono (fun y hy => .inl ?_)).trans (MS.mono (fun y hy => .inl ?_))))
                    · simp [LogAt.foot] at hy ⊢; simp [hy]
                    · simp [LogAt.foot] at hy ⊢; simp [hy]
                · have HO := Lib.hid (show openL G D L.s t = ((openD G D j (L.s.newest + 1) t L.s.next).1, (openD G D j (L.s.newest + 1) t L.s.next).2, L.s) by rw [hOL, if_neg hD0])
                  clear hOL
                  generalize (openD G D j (L.s.newest + 1) t L.s.next).1 = er at hD0 HO ⊢
                  go_wp2_with fail
                  go_ret
                  refine ⟨q.v, by rw [HO.out]; rfl, by rw [HO.out]; exact HDD.out, by rw [HO.out]; exact HLD.out, M0.out.nil.trans HMD.out, fun y hy => .inl hy⟩
            · have HO := Lib.hid (show openL G D L.s t = ((openH G D j (L.s.newest + 1) t L.s.next).1, (openH G D j (L.s.newest + 1) t L.s.next).2, L.s) by
                have h2 : openD G D j (L.s.newest + 1) t L.s.next = openH G D j (L.s.newest + 1) t L.s.next := if_neg hH
                rw [hOL, h2, if_neg hH])
              clear hOL
              generalize (openH G D j (L.s.newest + 1) t L.s.next).1 = er at hH HO ⊢
              go_wp2_with fail
              go_ret
              refine ⟨q.v, by rw [HO.out]; rfl, by rw [HO.out]; exact HDH.out, by rw [HO.out]; exact HLH.out, M0.out.nil.trans HMH.out, fun y hy => .inl hy⟩
        · have HO := Lib.hid (show openL G D L.s t = ((openE G D j).1, (openE G D j).2, L.s) by
            have h1 : openH G D j (L.s.newest + 1) t L.s.next = openE G D j := if_neg hE
            have h2 : openD G D j (L.s.newest + 1) t L.s.next = openE G D j := by
              unfold openD
              rw [h1, if_neg hE]
            rw [hOL, h2, if_neg hE])
          clear hOL
          generalize (openE G D j).1 = er at hE HO ⊢
          go_wp2_with fail
          go_ret
          refine ⟨q.v, by rw [HO.out]; rfl, by rw [HO.out]; exact HDE.out, by rw [HO.out]; exact HLE.out, M0.out.nil.trans HME.out, fun y hy => .inl hy⟩
end Go.Proofs.Ytkdadnlleepkfaa
