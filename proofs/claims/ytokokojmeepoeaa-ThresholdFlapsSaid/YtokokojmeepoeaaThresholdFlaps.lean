/- ThresholdFlaps: the walk. -/
import Derived.Test.YtokokojmeepoeaaThresholdNested
import Derived.Test.YtokokojmeepoeaaChgApp
import Derived.BigQuiet
namespace Go.Proofs.Ytokokojmeepoeaa
open Go.RowKit

/-- What the last change of threshold j tells: at the number f j the state turned to what it is now. -/
def FlapOk (S : Sen) (st : Nat) (f : Nat → Int) : Prop := ∀ j, j < 6 → f j ≠ 1000 → (-128 ≤ f j ∧ f j ≤ 255) ∧ (st.testBit j = true → 0 ≤ beyI S j (f j)) ∧ (st.testBit j = false → beyI S j (f j) < -(hysI S j : Int))
theorem beyI_diff (S : Sen) (j : Nat) (x y : Int) : beyI S j x - beyI S j y = y - x ∨ beyI S j x - beyI S j y = x - y := by
  unfold beyI
  split
  · exact .inl (by omega)
  · exact .inr (by omega)
/-- Between two changes the number has moved by more than the hysteresis. -/
theorem flap_far {S : Sen} {st : Nat} {f : Nat → Int} (h : FlapOk S st f) {x : Int} {j : Nat} (hj : j < 6) (hf : f j ≠ 1000) (hc : (st ^^^ nextN S st x).testBit j = true) (hm : st &&& (255 - S.mask) = 0) (hM : S.mask < 256) :
    (hysI S j : Int) < max (x - f j) (f j - x) := by
  obtain ⟨_, h1, h2⟩ := h j hj hf
  have hd := beyI_diff S j x (f j)
  rw [Nat.testBit_xor, next_bit] at hc
  have hsm : st.testBit j = true → S.mask.testBit j = true := fun hs => by
    cases hmm : S.mask.testBit j with
    | true => rfl
    | false =>
      have := congrArg (fun n => n.testBit j) hm
      simp only [Nat.testBit_and, sub255 hM, Nat.zero_testBit, hs, hmm] at this
      simp at this
      omega
  cases hs : st.testBit j with
  | true =>
    have h1 := h1 hs
    rw [hs, hsm hs, decide_eq_true hj] at hc
    simp at hc
    obtain ⟨h3, h4⟩ := hc
    omega
  | false =>
    have h2 := h2 hs
    rw [hs, decide_eq_true hj] at hc
    simp at hc
    obtain ⟨_, h4⟩ := hc
    omega
/-- The last changes behind a step, the first p bits done. -/
def lastF (f : Nat → Int) (st to : Nat) (x : Int) (p : Nat) : Nat → Int := fun j => if j < p ∧ (st ^^^ to).testBit j = true then x else f j
theorem flap_next {S : Sen} {st : Nat} {f : Nat → Int} (h : FlapOk S st f) {x : Int} (hx : -128 ≤ x ∧ x ≤ 255) (hm : st &&& (255 - S.mask) = 0) (hM : S.mask < 256) : FlapOk S (nextN S st x) (lastF f st (nextN S st x) x 6) := by
  intro j hj hf
  unfold lastF at hf ⊢
  by_cases hc : (st ^^^ nextN S st x).testBit j = true
  · rw [if_pos ⟨hj, hc⟩]
    refine ⟨hx, fun hb => ?_, fun hb => ?_⟩
    · rw [Nat.testBit_xor, hb] at hc
      simp at hc
      rw [next_bit, hc] at hb
      simp at hb
      exact hb.2.2
    · rw [Nat.testBit_xor, hb] at hc
      simp at hc
      have hsm : S.mask.testBit j = true := by
        cases hmm : S.mask.testBit j with
        | true => rfl
        | false =>
          have := congrArg (fun n => n.testBit j) hm
          simp only [Nat.testBit_and, sub255 hM, Nat.zero_testBit, hc, hmm] at this
          simp at this
          omega
      rw [next_bit, hc, hsm, decide_eq_true hj] at hb
      simp at hb
      omega
  · rw [if_neg (fun h => hc h.2)] at hf ⊢
    have ⟨h0, h1, h2⟩ := h j hj hf
    have he : (nextN S st x).testBit j = st.testBit j := by
      rw [Nat.testBit_xor] at hc
      revert hc
      cases st.testBit j <;> cases (nextN S st x).testBit j <;> simp
    rw [he]
    exact ⟨h0, h1, h2⟩
theorem lastF_zero (f : Nat → Int) (st to : Nat) (x : Int) : lastF f st to x 0 = f := by
  funext j; unfold lastF; rw [if_neg (by omega)]
theorem lastF_same (f : Nat → Int) (st to : Nat) (x : Int) {p k : Nat} (h : p ≤ k) (hl : (chL st to p).length = (chL st to k).length) : lastF f st to x p = lastF f st to x k := by
  funext j
  unfold lastF
  by_cases hc : (st ^^^ to).testBit j = true
  · by_cases h1 : j < p
    · rw [if_pos ⟨h1, hc⟩, if_pos ⟨by omega, hc⟩]
    · rw [if_neg (fun h => h1 h.1)]
      by_cases h2 : j < k
      · exfalso
        have m1 := chL_mono st to (show p ≤ j by omega)
        have m2 := chL_mono st to (show j + 1 ≤ k by omega)
        have h3 : (st.testBit j ^^ to.testBit j) = true := by rw [← Nat.testBit_xor]; exact hc
        rw [chL_len, h3] at m2
        simp at m2
        omega
      · rw [if_neg (fun h => h2 h.1)]
  · rw [if_neg (fun h => hc h.2), if_neg (fun h => hc h.2)]
theorem lastF_succ (f : Nat → Int) (st to : Nat) (x : Int) (k : Nat) (hc : (st ^^^ to).testBit k = true) (j : Nat) : lastF f st to x (k + 1) j = if j = k then x else lastF f st to x k j := by
  unfold lastF
  by_cases h : j = k
  · subst h; rw [if_pos ⟨by omega, hc⟩, if_pos rfl]
  · rw [if_neg h]
    by_cases h2 : j < k
    · by_cases h3 : (st ^^^ to).testBit j = true
      · rw [if_pos ⟨by omega, h3⟩, if_pos ⟨h2, h3⟩]
      · rw [if_neg (fun h => h3 h.2), if_neg (fun h => h3 h.2)]
    · rw [if_neg (fun h => by omega), if_neg (fun h => by omega)]
theorem lastF_at (f : Nat → Int) (st to : Nat) (x : Int) (k : Nat) : lastF f st to x k k = f k := by unfold lastF; rw [if_neg (by omega)]
/-- The array of the last changes. -/
def arrC (f : Nat → Int) : Array Value := #[.int .i64 (f 0), .int .i64 (f 1), .int .i64 (f 2), .int .i64 (f 3), .int .i64 (f 4), .int .i64 (f 5)]
theorem arrC_get (f : Nat → Int) {j : Nat} (h : j < 6) : (arrC f)[j]? = some (.int .i64 (f j)) := by
  match j, h with
  | 0, _ | 1, _ | 2, _ | 3, _ | 4, _ | 5, _ => rfl
theorem arrC_set (f : Nat → Int) {j : Nat} (h : j < 6) (x : Int) (f' : Nat → Int) (hf : ∀ i, f' i = if i = j then x else f i) : (arrC f).setIfInBounds j (.int .i64 x) = arrC f' := by
  unfold arrC
  rw [hf 0, hf 1, hf 2, hf 3, hf 4, hf 5]
  match j, h with
  | 0, _ | 1, _ | 2, _ | 3, _ | 4, _ | 5, _ => rfl
set_option maxRecDepth 100000 in
set_option maxHeartbeats 4000000 in
theorem thresholdFlaps_walk (w : World) (v : Value) (L : List Int) (hv : Rd w v (i64s L)) (hb : ∀ i, -9223372036854775808 ≤ L.getD i 0 ∧ L.getD i 0 ≤ 9223372036854775807)
    (vr : Value) (R : List Int) (hr : Rd w vr (u8s R)) (hrb : Bytes R) :
    Calls Try.prog 7 #[v, vr] w fun e w' => e = .returned (.bool true) ∧ Mods [] w w' := by
  have HRR := Lib.hid hr
  have HRB := Lib.hid hrb
  obtain ⟨adr, capr, rfl, hr1, hr2, _⟩ := hr.u8
  have hr3 : capr ≤ 9223372036854775807 := hr2
  clear hr hr2 hrb
  have HL := Lib.hid (light_ok w v L hv)
  have HV := Lib.hid hv
  have HB := Lib.hid hb
  clear hv hb
  by_cases hl : L.length ≤ 600
  · by_cases hl2 : R.length ≤ 80
    · have HGT : decide ((80 : Int) < (R.length : Int)) = false := decide_eq_false (by omega)
      have HLL := Lib.hid (decide_eq_true hl)
      go_enter Try.func7, Try.ntmps7
      go_wp2_with fail
      refine HL.out.mono ?_
      rw [HLL.out]
      rintro e w' ⟨rfl, rfl⟩
      go_wp2_with fail
      refine (roll_ok w v L HV.out (by omega) HB.out).mono ?_
      rintro e w1 ⟨rfl, D1, M1, z1⟩
      go_wp2_with fail
      refine (analogM_ok w1 w.heap.size v L 0 D1 1 (by omega)).mono ?_
      rintro e w2 ⟨S, P, n2, rfl, IS, VS, DS, OP, PL, SN, D2, M2⟩
      have M2 : Mods [] w w2 := M1.comp M2 (fun q hq => by simp at hq; subst hq; exact .inr (Nat.le_refl _))
      have hone := Lib.hid IS.conv.rd.one
      have ⟨v1, v2, v3, _⟩ := validB_ana VS DS
      have HM64 := Lib.hid v3
      have HV1 := Lib.hid v1
      have HV2 := Lib.hid v2
      have HMK := Lib.hid IS.mask
      have HA : Hid (∀ W, W.heap[w2.heap.size]? = some (.cells S.cells 32 (0, 0)) → Mods [w2.heap.size] (w2.alloc (.cells zS.cells 32)) W → Sn W w.heap.size w2.heap.size S P ∧ IsDice W w.heap.size v L n2 ∧ Mods [] w W) := Lib.hid (fun W R M => by
        have ⟨x, y, z⟩ := Sn.made D1.lt IS OP D2 R M
        exact ⟨x, y, M2.trans z⟩)
      have HGW := Lib.hid M2.size
      clear D1 D2 M1 VS DS OP PL SN IS v1 v2 v3
      go_wp2_with (first | (refine wpList_load_sen rfl (.tmp 5) rfl HB4.out (by rfl) ?_) | (refine wpList_store_row (cs := S.cells) rfl 32 (.tmp 5) (.tmp 27) rfl (heap_alloc_new w2 _) (by rfl) (by rfl) (by rfl) (Sen.infoS _) (Sen.one _ hone.out) ?_; intro w4 R4 M4; have HA4 := Lib.hid (HA.out w4 R4 M4); have HB4 := Lib.hid HA4.out.1.box; skip; clear M4 R4))
      clear HA M2
      have HS := Lib.hid HA4.out.1
      have HM := Lib.hid HA4.out.2.2
      have HG4 := Lib.hid (lt_of_block HB4.out.blk)
      have HST := Lib.hid (show ∀ u x, u &&& (255 - S.mask) = 0 → stepN S P u x = (nextN S u (numI S.conv.sgn x), chL u (nextN S u (numI S.conv.sgn x)) 6, 0) from fun u x hu => by simp [stepN, HV1.out, hu])
      clear HA4 HB4
      have R5 := heap_alloc_new w4 (.cells (arrC fun _ => 1000) 62)
      have M5 := (Mods.refl (S := []) (w := w4)).alloc (.cells (arrC fun _ => 1000) 62)
      change Code.wp _ _ _ _ (w4.alloc (.cells (arrC fun _ => 1000) 62))
      generalize w4.alloc (.cells (arrC fun _ => 1000) 62) = w5 at R5 M5 ⊢
      generalize hga : w4.heap.size = ga at R5 HG4 ⊢
      have HGA := Lib.hid hga
      clear hga
      generalize w2.heap.size = g at HS HG4 HGW ⊢
      go_loopw [6, 8] (fun s i wr => ∃ (k st : Nat) (f : Nat → Int), k ≤ R.length ∧ i = .int .i64 k ∧ s = .int .u8 st ∧ st < 256 ∧ Hid (FlapOk S st f ∧ st &&& (255 - S.mask) = 0) ∧ Mods [] w4 wr ∧ wr.heap[ga]? = some (.cells (arrC f) 62 (0, 0))) (fun _ i _ => R.length - (intOf i).toNat)
      case atStart => exact ⟨0, 0, fun _ => 1000, Nat.zero_le _, rfl, rfl, by omega, Lib.hid ⟨fun j _ h => absurd rfl h, by simp⟩, M5, R5⟩
      case round =>
        obtain ⟨k, st, f, hk, rfl, rfl, hst, HN, M5, R6⟩ := hrel
        clear R5
        by_cases hlt : k < R.length
        · have i1 : (0 : Int) ≤ (k : Int) := by omega
          have i2 : (k : Int) < (R.length : Int) := by omega
          have HW := Lib.hid (HM.out.trans M5)
          have HS5 := Lib.hid (HS.out.mods0 M5)
          have HR6 := Lib.hid R6
          have HGR := Lib.hid (lt_of_block R6)
          obtain ⟨_, _, he, _, _, hc⟩ := (HRR.out.mods0 HW.out).u8
          obtain ⟨bb, off, rfl, x0⟩ := hc k hlt
          injection he with he1 he2 he3
          subst he1 he3
          clear hc he2
          have hb1 := HRB.out k
          obtain ⟨rk, hrk⟩ := Int.eq_ofNat_of_zero_le hb1.1
          rw [hrk] at x0 hb1
          have hrk2 : rk < 256 := by omega
          clear hrk hb1
          have HSC := Lib.hid (fun W (M : Mods [] wr W) => step_ok W S P (HS5.out.sen.mods0 M) st rk hst hrk2)
          rw [HST.out st rk HN.out.2] at HSC
          have HM5 := Lib.hid M5
          clear M5 hone HV1 R6
          go_wp2_with fail
          refine heldStart (S := fun W => W.heap[g]? = some (.cells S.cells 32 (0, 0)) ∧ W.cell? ⟨bb, off + k, none⟩ = some (.int .u8 rk)) 14 rfl (by kernel_rfl) ⟨HS5.out.box.blk, x0⟩ (fun hHeld => ?_)
          refine takeD (i := 0) (d := 36) (v := .agg S.cells) rfl rfl (by kernel_rfl) (by kernel_rfl) (by kernel_rfl) (fun _ _ _ h => h) (yieldsIf_load_row rfl 32 (.tmp 5) rfl g rfl 32 S.cells (0, 0) _ (fun w h=>h.1) Try.underlying32 rfl S.infoS) hHeld ?_
          simp only [List.setIfInBounds_toArray, List.set_cons_zero, List.set_cons_succ]
          refine takeD (i := 1) (d := 37) (v := ?_) rfl rfl (by kernel_rfl) (by kernel_rfl) (by kernel_rfl) (fun _ _ _ h => h) (Or.inl ⟨by rfl, ?_⟩) hHeld ?_
          rotate_left 1
          · (intro w hSw; (try dsimp only at hSw); go_simp; (try with_reducible rfl))
          simp only [List.setIfInBounds_toArray, List.set_cons_zero, List.set_cons_succ]
          refine takeD (i := 2) (d := 38) (v := ?_) rfl rfl (by kernel_rfl) (by kernel_rfl) (by kernel_rfl) (fun _ _ _ h => h) (Or.inl ⟨by rfl, ?_⟩) hHeld ?_
          rotate_left 1
          · (intro w hSw; (try dsimp only at hSw); go_simp; (try with_reducible rfl))
          simp only [List.setIfInBounds_toArray, List.set_cons_zero, List.set_cons_succ]
          refine takeD (i := 3) (d := 39) (v := ?_) rfl rfl (by kernel_rfl) (by kernel_rfl) (by kernel_rfl) (fun _ _ _ h => h) (Or.inl ⟨by rfl, ?_⟩) hHeld ?_
          rotate_left 1
          · (intro w hSw; (try dsimp only at hSw); go_simp; (try with_reducible rfl))
          simp only [List.setIfInBounds_toArray, List.set_cons_zero, List.set_cons_succ]
          refine takeD (i := 4) (d := 40) (v := ?_) rfl rfl (by kernel_rfl) (by kernel_rfl) (by kernel_rfl) (fun _ _ _ h => h) (Or.inl ⟨by rfl, ?_⟩) hHeld ?_
          rotate_left 1
          · (intro w hSw; (try dsimp only at hSw); go_simp; (try with_reducible rfl))
          simp only [List.setIfInBounds_toArray, List.set_cons_zero, List.set_cons_succ]
          refine takeD (i := 5) (d := 41) (v := ?_) rfl rfl (by kernel_rfl) (by kernel_rfl) (by kernel_rfl) (fun _ _ _ h => h) (Or.inl ⟨by rfl, ?_⟩) hHeld ?_
          rotate_left 1
          · (intro w hSw; (try dsimp only at hSw); go_simp; (try with_reducible rfl))
          simp only [List.setIfInBounds_toArray, List.set_cons_zero, List.set_cons_succ]
          refine wpAnyH_ready (rs := [6]) (by kernel_rfl) (by simp) ?_
          refine AllReadyH.cons rfl (fun K hK => ?_) AllReadyH.nil
          go_simp
          go_wp2_with (go_at_call 34; refine (HSC.out _ (Mods.refl.drewN 1)).mono ?_; rintro e wy ⟨vv, rfl, Oy, My⟩)
          refine hK.out _ _ ?_ (fun hHeld => ?_)
          · exact ⟨My.heap hHeld.1 (by simp), My.cell hHeld.2 (by simp)⟩
          clear hK K
          refine takeD (i := 7) (d := 35) (v := ?_) rfl rfl (by kernel_rfl) (by kernel_rfl) (by kernel_rfl) (fun _ _ _ h => h) (Or.inl ⟨by rfl, ?_⟩) hHeld ?_
          rotate_left 1
          · (intro w hSw; (try dsimp only at hSw); go_simp; (try with_reducible rfl))
          simp only [List.setIfInBounds_toArray, List.set_cons_zero, List.set_cons_succ]
          refine takeD (i := 8) (d := 43) (v := ?_) rfl rfl (by kernel_rfl) (by kernel_rfl) (by kernel_rfl) (fun _ _ _ h => h) (Or.inl ⟨by rfl, ?_⟩) hHeld ?_
          rotate_left 1
          · (intro w hSw; (try dsimp only at hSw); go_simp; (try with_reducible rfl))
          simp only [List.setIfInBounds_toArray, List.set_cons_zero, List.set_cons_succ]
          refine takeD (i := 9) (d := 44) (v := ?_) rfl rfl (by kernel_rfl) (by kernel_rfl) (by kernel_rfl) (fun _ _ _ h => h) (Or.inl ⟨by rfl, ?_⟩) hHeld ?_
          rotate_left 1
          · (intro w hSw; (try dsimp only at hSw); go_simp; (try with_reducible rfl))
          simp only [List.setIfInBounds_toArray, List.set_cons_zero, List.set_cons_succ]
          refine takeD (i := 10) (d := 45) (v := ?_) rfl rfl (by kernel_rfl) (by kernel_rfl) (by kernel_rfl) (fun _ _ _ h => h) (Or.inl ⟨by rfl, ?_⟩) hHeld ?_
          rotate_left 1
          · (intro w hSw; (try dsimp only at hSw); go_simp; (try with_reducible rfl))
          simp only [List.setIfInBounds_toArray, List.set_cons_zero, List.set_cons_succ]
          refine takeD (i := 11) (d := 9) (v := ?_) rfl rfl (by kernel_rfl) (by kernel_rfl) (by kernel_rfl) (fun _ _ _ h => h) (Or.inl ⟨by rfl, ?_⟩) hHeld ?_
          rotate_left 1
          · (intro w hSw; (try dsimp only at hSw); go_simp; (try with_reducible rfl))
          simp only [List.setIfInBounds_toArray, List.set_cons_zero, List.set_cons_succ]
          refine takeD (i := 12) (d := 10) (v := ?_) rfl rfl (by kernel_rfl) (by kernel_rfl) (by kernel_rfl) (fun _ _ _ h => h) (Or.inl ⟨by rfl, ?_⟩) hHeld ?_
          rotate_left 1
          · (intro w hSw; (try dsimp only at hSw); go_simp; (try with_reducible rfl))
          simp only [List.setIfInBounds_toArray, List.set_cons_zero, List.set_cons_succ]
          refine takeD (i := 13) (d := 11) (v := ?_) rfl rfl (by kernel_rfl) (by kernel_rfl) (by kernel_rfl) (fun _ _ _ h => h) (Or.inl ⟨by rfl, ?_⟩) hHeld ?_
          rotate_left 1
          · (intro w hSw; (try dsimp only at hSw); go_simp; (try with_reducible rfl))
          simp only [List.setIfInBounds_toArray, List.set_cons_zero, List.set_cons_succ]
          refine wpAnyH_done (by kernel_rfl) ?_ _
          have MY : Mods [] wr wy := (Mods.refl.drewN 1).trans My
          have HSY := Lib.hid (HS5.out.mods0 MY)
          have HMY := Lib.hid (HM5.out.trans MY)
          have HRY := Lib.hid (MY.heap HR6.out (by simp))
          have hxb := numI_bd (sgn := S.conv.sgn) hrk2
          have HFN := Lib.hid (flap_next HN.out.1 hxb HN.out.2 HMK.out)
          have HFB := Lib.hid (fun j (hj : j < 6) (hf : f j ≠ 1000) => (HN.out.1 j hj hf).1)
          have HHB := Lib.hid (show S.hl < 256 ∧ S.hu < 256 from ⟨HS5.out.sen.hl, HS5.out.sen.hu⟩)
          have HFF := Lib.hid (fun j (hj : j < 6) (hf : f j ≠ 1000) hc => flap_far HN.out.1 (x := numI S.conv.sgn rk) hj hf hc HN.out.2 HMK.out)
          have HN2 := Lib.hid (next_mask S st (numI S.conv.sgn rk) HMK.out)
          have hlt2 := nextN_lt S st (numI S.conv.sgn rk)
          have c8 : wy.cell? ⟨g, 8, none⟩ = some (.bool S.conv.sgn) := HSY.out.box.conv.2.1
          have x0 := hHeld.2
          have HOY : Hid (OwnChg wy wr.heap.size vv (chL st (nextN S st (numI S.conv.sgn rk)) 6)) := Lib.hid Oy
          generalize nextN S st (numI S.conv.sgn rk) = st2 at HN2 hlt2 HFN HFF HOY ⊢
          obtain ⟨adv, capv, rfl, hcv1, hcv2, _⟩ := HOY.out.rd
          have hcv3 : capv ≤ 9223372036854775807 := hcv2
          clear hHeld My HSC HS5 HN hcv2 Oy
          go_wp2_with fail
          go_quiet ((go_at_call 35; exact quiet_left (refNumber_ok _ _ (by assumption) _)))
          generalize numI S.conv.sgn rk = x at hxb HFN HFF ⊢
          have MQ : Mods [] wy (wy.drewN nq) := Mods.refl.drewN nq
          have HSQ := Lib.hid (HSY.out.mods0 MQ)
          have HMQ := Lib.hid (HMY.out.trans MQ)
          have HRQ := Lib.hid (MQ.heap HRY.out (by simp))
          have HOQ := Lib.hid (HOY.out.mods0 MQ)
          generalize wy.drewN nq = w6 at HSQ HMQ HRQ HOQ ⊢
          clear HSY HMY HRY HOY MQ MY c8 x0
          go_wp2_with fail
          have hln := chL_length st st2 6
          have HGA := Lib.hid (show w4.heap.size ≤ ga from Nat.le_of_eq HGA.out)
          have HVR := Lib.hid (fun W (M : Mods [ga] w6 W) => HOQ.out.rd.mods M (fun _ q hq => by have := (World.ownsRow.lt HOQ.out q hq).1; have := HGR.out; simp at this ⊢; omega))
          have hsz := Lib.hid HOQ.out
          go_loopw [13] (fun i wr2 => ∃ p k2 : Nat, p ≤ 6 ∧ (chL st st2 p).length = k2 ∧ i = .int .i64 k2 ∧ wr2.heap[ga]? = some (.cells (arrC (lastF f st st2 x p)) 62 (0, 0)) ∧ Mods [ga] w6 wr2) (fun i _ => 6 - (intOf i).toNat)
          case atStart => exact ⟨0, 0, by omega, rfl, rfl, by rw [lastF_zero]; exact HRQ.out, Mods.refl⟩
          case round =>
            obtain ⟨p, k2, hp, hpk, rfl, R8, M8⟩ := hrel
            by_cases hlt2 : k2 < (chL st st2 6).length
            · obtain ⟨_, _, he, _, _, hc⟩ := HVR.out _ M8
              obtain ⟨b2, of2, rfl, x0, x1⟩ := hc k2 hlt2
              injection he with he1 he2 he3
              subst he1 he3
              clear hc he2
              obtain ⟨j, hj, he, hbj, hjl⟩ := chL_get st st2 6 k2 hlt2
              rw [he] at x0 x1
              simp only at x0 x1
              have hpj : p ≤ j := by
                rcases Nat.lt_or_ge j p with h | h
                · have h1 := chL_mono st st2 (show j + 1 ≤ p from h)
                  have h2 : (st.testBit j ^^ st2.testBit j) = true := by rw [← Nat.testBit_xor]; exact hbj
                  rw [chL_len, h2] at h1
                  simp at h1
                  omega
                · exact h
              have HNX : Hid ((chL st st2 (j + 1)).length = k2 + 1) := Lib.hid (by
                have h2 : (st.testBit j ^^ st2.testBit j) = true := by rw [← Nat.testBit_xor]; exact hbj
                rw [chL_len, h2, hjl]; simp)
              rw [lastF_same f st st2 x hpj (by omega)] at R8
              have HSET := Lib.hid (arrC_set (lastF f st st2 x j) hj x (lastF f st st2 x (j + 1)) (lastF_succ f st st2 x j hbj))
              have c7 : wr.cell? ⟨ga, j, none⟩ = some (.int .i64 (f j)) := by rw [cell_blk R8, arrC_get _ hj, lastF_at]
              have f7 : wr.frozen? ⟨ga, j, none⟩ = false := froz_blk R8 _
              have hgne : g ≠ ga := by have := HG4.out; omega
              have HB8 := Lib.hid (HSQ.out.box.mods M8 (by simpa using hgne))
              have c21 : wr.cell? ⟨g, 21, none⟩ = some (.int .u8 S.hl) := HB8.out.rest.1
              have c22 : wr.cell? ⟨g, 22, none⟩ = some (.int .u8 S.hu) := HB8.out.rest.2.1
              have HR8 := Lib.hid R8
              have HM8 := Lib.hid M8
              have i3 : (0 : Int) ≤ (k2 : Int) := by omega
              have i4 : (k2 : Int) < ((chL st st2 6).length : Int) := by omega
              have i5 : (0 : Int) ≤ (j : Int) := by omega
              have i6 : (j : Int) < 6 := by omega
              have d1 : decide ((j : Int) < 0) = false := decide_eq_false (by omega)
              have d2 : decide ((5 : Int) < (j : Int)) = false := decide_eq_false (by omega)
              have hfb : f j = 1000 ∨ (-128 ≤ f j ∧ f j ≤ 255) := by
                by_cases h : f j = 1000
                · exact .inl h
                · exact .inr (HFB.out j hj h)
              have hff := HFF.out j hj
              obtain ⟨hb1, hb2⟩ := HHB.out
              clear R8 M8 hpk he hjl hgne
              generalize hfj : f j = y at c7 hfb hff
              clear hfj
              by_cases h3 : 3 ≤ j
              · have HH : hysI S j = S.hu := by rw [hysI, if_neg (by omega)]
                have d3 : decide ((3 : Int) ≤ (j : Int)) = true := decide_eq_true (by omega)
                by_cases hf : y = 1000
                · subst hf
                  have g1 : ((1000 : Int) != 1000) = false := by simp
                  clear hff hfb
                  go_wp2_with fail
                  go_quiet (fail)
                  go_wp2
                  exact ⟨⟨j + 1, k2 + 1, by omega, HNX.out, by go_num, by rw [← HSET.out]; exact heap_setCell (heap_drewN HR8.out), (HM8.out.drewN _).setCell (.inl (by simp)) _⟩, by simp only [intOf]; omega⟩
                · have g1 : (y != 1000) = true := by simpa using hf
                  have g2 := hff hf hbj
                  rw [HH] at g2
                  have hy : -128 ≤ y ∧ y ≤ 255 := by rcases hfb with h | h; exact absurd h hf; exact h
                  clear hff hfb
                  go_wp2_with fail
                  go_quiet (fail)
                  have g3 : decide ((if x - y < y - x then y - x else x - y) ≤ ((S.hu : Nat) : Int)) = false := decide_eq_false (by split <;> omega)
                  go_wp2
                  exact ⟨⟨j + 1, k2 + 1, by omega, HNX.out, by go_num, by rw [← HSET.out]; exact heap_setCell (heap_drewN HR8.out), (HM8.out.drewN _).setCell (.inl (by simp)) _⟩, by simp only [intOf]; omega⟩
              · have HH : hysI S j = S.hl := by rw [hysI, if_pos (by omega)]
                have d3 : decide ((3 : Int) ≤ (j : Int)) = false := decide_eq_false (by omega)
                by_cases hf : y = 1000
                · subst hf
                  have g1 : ((1000 : Int) != 1000) = false := by simp
                  clear hff hfb
                  go_wp2_with fail
                  go_quiet (fail)
                  go_wp2
                  exact ⟨⟨j + 1, k2 + 1, by omega, HNX.out, by go_num, by rw [← HSET.out]; exact heap_setCell (heap_drewN HR8.out), (HM8.out.drewN _).setCell (.inl (by simp)) _⟩, by simp only [intOf]; omega⟩
                · have g1 : (y != 1000) = true := by simpa using hf
                  have g2 := hff hf hbj
                  rw [HH] at g2
                  have hy : -128 ≤ y ∧ y ≤ 255 := by rcases hfb with h | h; exact absurd h hf; exact h
                  clear hff hfb
                  go_wp2_with fail
                  go_quiet (fail)
                  have g3 : decide ((if x - y < y - x then y - x else x - y) ≤ ((S.hl : Nat) : Int)) = false := decide_eq_false (by split <;> omega)
                  go_wp2
                  exact ⟨⟨j + 1, k2 + 1, by omega, HNX.out, by go_num, by rw [← HSET.out]; exact heap_setCell (heap_drewN HR8.out), (HM8.out.drewN _).setCell (.inl (by simp)) _⟩, by simp only [intOf]; omega⟩
            · have h1 := chL_mono st st2 hp
              rw [lastF_same f st st2 x hp (by omega)] at R8
              have HR8 := Lib.hid R8
              have HM8 := Lib.hid (HMQ.out.comp M8 (fun q hq => by simp at hq; subst hq; exact .inr HGA.out))
              clear R8 M8
              go_wp2
              exact ⟨⟨k + 1, st2, lastF f st st2 x 6, by omega, by go_num, rfl, by omega, Lib.hid ⟨HFN.out, HN2.out⟩, HM8.out, HR8.out⟩, by simp only [intOf]; omega⟩
        · have HM9 := Lib.hid (HM.out.trans M5)
          go_wp2_with fail
          refine (awakeT_ok _).mono ?_
          rintro e w10 ⟨rfl, M10⟩
          go_wp2
          go_ret
          exact ⟨rfl, HM9.out.trans M10⟩
    · have HGT : decide ((80 : Int) < (R.length : Int)) = true := decide_eq_true (by omega)
      have HLL := Lib.hid (decide_eq_true hl)
      go_enter Try.func7, Try.ntmps7
      go_wp2_with fail
      refine HL.out.mono ?_
      rw [HLL.out]
      rintro e w' ⟨rfl, rfl⟩
      go_wp2_with fail
      refine (awakeT_ok _).mono ?_
      rintro e w1 ⟨rfl, M1⟩
      go_wp2
      go_ret
      exact ⟨rfl, M1⟩
  · skip
    have HLL := Lib.hid (decide_eq_false hl)
    go_enter Try.func7, Try.ntmps7
    go_wp2_with fail
    refine HL.out.mono ?_
    rw [HLL.out]
    rintro e w' ⟨rfl, rfl⟩
    go_wp2_with fail
    refine (awakeT_ok _).mono ?_
    rintro e w1 ⟨rfl, M1⟩
    go_wp2
    go_ret
    exact ⟨rfl, M1⟩
end Go.Proofs.Ytokokojmeepoeaa
