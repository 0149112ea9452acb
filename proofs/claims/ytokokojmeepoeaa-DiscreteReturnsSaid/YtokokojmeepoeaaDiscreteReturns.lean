/- DiscreteReturns: the walk. -/
import Derived.Test.YtokokojmeepoeaaDiscreteWay
import Derived.Test.YtokokojmeepoeaaNear
import Derived.Test.YtokokojmeepoeaaThLaws
import Derived.Test.YtokokojmeepoeaaHeldRow
namespace Go.Proofs.Ytokokojmeepoeaa
open Go.RowKit

theorem chL_cnt (a b k : Nat) : (chL a b (k + 1)).length = (chL a b k).length + (a ^^^ b) / 2 ^ k % 2 := by
  rw [chL, List.length_append]
  congr 1
  have h := tb (a ^^^ b) k
  rcases Nat.mod_two_eq_zero_or_one ((a ^^^ b) / 2 ^ k) with h1 | h1
  · rw [h1] at h ⊢; rw [h]; rfl
  · rw [h1] at h ⊢; rw [h]; rfl
theorem chL_small {a b j : Nat} (h : a ^^^ b < 2 ^ j) {n : Nat} (hn : j ≤ n) : (chL a b n).length = (chL a b j).length := by
  induction hn with
  | refl => rfl
  | step hn ih =>
    rename_i n
    have h2 : 2 ^ j ≤ 2 ^ n := Nat.pow_le_pow_right (by omega) hn
    rw [chL_cnt, ih, Nat.div_eq_of_lt (by omega)]; rfl
theorem xor_masked (a b s : Nat) : (a ^^^ b) &&& s = (a &&& s) ^^^ (b &&& s) := Nat.eq_of_testBit_eq fun i => by
  simp only [Nat.testBit_and, Nat.testBit_xor]
  cases a.testBit i <;> cases b.testBit i <;> cases s.testBit i <;> rfl
theorem heap_two {w : World} {o o' : Obj} : ((w.alloc o).alloc o').heap[w.heap.size]? = some o := heap_alloc (heap_alloc_new w o)
set_option maxRecDepth 100000 in
set_option maxHeartbeats 4000000 in
theorem discreteReturns_walk (w : World) (v : Value) (L : List Int) (hv : Rd w v (i64s L)) (hb : ∀ i, -9223372036854775808 ≤ L.getD i 0 ∧ L.getD i 0 ≤ 9223372036854775807)
    (a : Int) (ha : 0 ≤ a ∧ a ≤ 65535) (b : Int) (hbb : 0 ≤ b ∧ b ≤ 65535) (c : Int) (hcc : 0 ≤ c ∧ c ≤ 255) :
    Calls Try.prog 13 #[v, .int .u16 a, .int .u16 b, .int .u8 c] w fun e w' => e = .returned (.bool true) ∧ Mods [] w w' := by
  obtain ⟨a0, a1⟩ := ha
  obtain ⟨b0, b1⟩ := hbb
  obtain ⟨c0, c1⟩ := hcc
  obtain ⟨ra, rfl⟩ := Int.eq_ofNat_of_zero_le a0
  obtain ⟨rb, rfl⟩ := Int.eq_ofNat_of_zero_le b0
  obtain ⟨rc, rfl⟩ := Int.eq_ofNat_of_zero_le c0
  have hra : ra < 65536 := by omega
  have hrb : rb < 65536 := by omega
  have hrc : rc < 256 := by omega
  clear a0 a1 b0 b1 c0 c1
  have HL := Lib.hid (light_ok w v L hv)
  have HV := Lib.hid hv
  have HB := Lib.hid hb
  clear hv hb
  by_cases hl : L.length ≤ 600
  · skip
    have HLL := Lib.hid (decide_eq_true hl)
    go_enter Try.func13, Try.ntmps13
    go_wp2_with fail
    refine HL.out.mono ?_
    rw [HLL.out]
    rintro e w' ⟨rfl, rfl⟩
    go_wp2_with fail
    refine (roll_ok w v L HV.out (by omega) HB.out).mono ?_
    rintro e w1 ⟨rfl, D1, M1, z1⟩
    go_wp2_with fail
    have hb1 := D1.lt
    refine (digital_ok w1 w.heap.size v L 0 D1 1 (by omega)).mono ?_
    rintro e w2 ⟨S, n2, rfl, IS, VS, DS, HSL, OP, SN, D2, M2⟩
    have hone := Lib.hid IS.conv.rd.one
    have HDB := Lib.hid (show digB S [] = true by rw [digB, DS, VS]; rfl)
    have HMW := M1.comp M2 (fun q hq => by simp at hq; subst hq; exact .inr (Nat.le_refl _))
    have hz2 := M2.size
    clear M2 VS DS SN
    go_wp2_with fail
    refine (analogM_ok w2 w.heap.size v L n2 D2 2 (by omega)).mono ?_
    rintro e w3 ⟨T, P, n3, rfl, IT, VT, DT, OT, PL, TN, D3, M3⟩
    have honeT := Lib.hid IT.conv.rd.one
    have ⟨v1, v2, v3, _⟩ := validB_ana VT DT
    have HV1 := Lib.hid v1
    have HM64 := Lib.hid v3
    have HMK := Lib.hid IT.mask
    have hz3 := M3.size
    have HIS : Hid (IsSen w3 S [] ∧ (∀ q, S.conv.pts.ownBlock = some q → w1.heap.size ≤ q ∧ q < w2.heap.size)) := Lib.hid ⟨IS.mods M3 (fun h => absurd rfl h), fun q hq => OP.own q hq⟩
    have HIT : Hid (IsSen w3 T P ∧ (∀ q, T.conv.pts.ownBlock = some q → w2.heap.size ≤ q ∧ q < w3.heap.size)) := Lib.hid ⟨IT, fun q hq => OT.own q hq⟩
    have HMW := Lib.hid (HMW.comp M3 (fun q hq => by simp at hq; subst hq; exact .inr (Nat.le_refl _)))
    have HD3 := Lib.hid D3
    clear D1 D2 M1 IS OP VT DT OT PL TN IT M3 v1 v2 v3 D3
    have HA : Hid (∀ W W2, W.heap[w3.heap.size]? = some (.cells S.cells 32 (0, 0)) → Mods [w3.heap.size] ((w3.alloc (.cells zS.cells 32)).alloc (.cells zS.cells 32)) W →
        W2.heap[w3.heap.size + 1]? = some (.cells T.cells 32 (0, 0)) → Mods [w3.heap.size + 1] W W2 →
        Sn W2 w.heap.size w3.heap.size S [] ∧ Sn W2 w.heap.size (w3.heap.size + 1) T P ∧ IsDice W2 w.heap.size v L n3 ∧ Mods [] w W2) := Lib.hid (fun W W2 R M R2 M2 => by
      have A0 := ((Mods.refl (S := []) (w := w3)).alloc (.cells zS.cells 32)).alloc (.cells zS.cells 32)
      have A1 : Mods [] w3 W := A0.comp M (fun q hq => by simp at hq; subst hq; exact .inr (Nat.le_refl _))
      have A2 : Mods [] w3 W2 := A1.comp M2 (fun q hq => by simp at hq; subst hq; exact .inr (Nat.le_succ _))
      have h3 := HD3.out.lt
      refine ⟨⟨⟨M2.heap R (by simp)⟩, HIS.out.1.mods0 A2, by omega, fun q hq => by have := HIS.out.2 q hq; omega⟩, ⟨⟨R2⟩, HIT.out.1.mods0 A2, by omega, fun q hq => by have := HIT.out.2 q hq; omega⟩, HD3.out.mods0 A2, HMW.out.trans A2⟩)
    have e1 : bits .and .u16 (ra : Int) (S.states : Int) = ((ra &&& S.states : Nat) : Int) := u16_and_nat _ _ hra (by omega)
    have e2 : bits .and .u16 (rb : Int) (S.states : Int) = ((rb &&& S.states : Nat) : Int) := u16_and_nat _ _ hrb (by omega)
    go_wp2_with (first
      | (refine wpList_load_sen rfl (.tmp 10) rfl HB5.out.1.box (by rfl) ?_)
      | (refine wpList_store_row (cs := T.cells) rfl 32 (.tmp 11) (.tmp 34) rfl (M4.heap (heap_alloc2_new w3 _ _) (by simp)) (by rfl) (by rfl) (by rfl) (Sen.infoS _) (Sen.one _ honeT.out) ?_; intro w5 R5 M5; have HB5 := Lib.hid (HA.out w4 w5 R4 M4 R5 M5); have c23 : w5.cell? ⟨w3.heap.size, 23, none⟩ = some (.int .u16 S.states) := HB5.out.1.box.rest.2.2.1)
      | (refine wpList_store_row (cs := S.cells) rfl 32 (.tmp 10) (.tmp 32) rfl (heap_two (w := w3) (o := .cells zS.cells 32) (o' := .cells zS.cells 32)) (by rfl) (by rfl) (by rfl) (Sen.infoS _) (Sen.one _ hone.out) ?_; intro w4 R4 M4))
    have hx : ra &&& S.states < 32768 := Nat.lt_of_le_of_lt Nat.and_le_right HSL
    have hy : rb &&& S.states < 32768 := Nat.lt_of_le_of_lt Nat.and_le_right HSL
    have Hxy := Lib.hid (dstep_of HDB.out _ _ (masked (x := ra) (y := rb) (show S.states < 65536 by omega)))
    have e3 : bits .xor .u16 (ra : Int) (rb : Int) = ((ra ^^^ rb : Nat) : Int) := u16_xor_nat _ _ hra hrb
    have e4 : bits .and .u16 ((ra ^^^ rb : Nat) : Int) (S.states : Int) = (((ra &&& S.states) ^^^ (rb &&& S.states) : Nat) : Int) := by
      rw [u16_and_nat _ _ (Nat.xor_lt_two_pow (n := 16) hra hrb) (by omega), xor_masked]
    clear HA M4 R4 M5 R5 hz2 hz3 hone honeT HIS HIT HD3 HMW c23
    generalize w3.heap.size + 1 = g2 at HB5 ⊢
    generalize w3.heap.size = g at HB5 ⊢
    generalize ra &&& S.states = x at e1 e4 hx Hxy ⊢
    generalize rb &&& S.states = y at e2 e4 hy Hxy ⊢
    refine (dstep_ok _ S [] HB5.out.1.sen x y (by omega) (by omega)).mono ?_
    rw [Hxy.out]
    rintro e w6 ⟨v6, rfl, O6, M6⟩
    have HB6 := Lib.hid (show Sn w6 w.heap.size g S [] ∧ Sn w6 w.heap.size g2 T P ∧ IsDice w6 w.heap.size v L n3 ∧ Mods [] w w6 from ⟨HB5.out.1.mods0 M6, HB5.out.2.1.mods0 M6, HB5.out.2.2.1.mods0 M6, HB5.out.2.2.2.trans M6⟩)
    have HO6 : Hid (OwnChg w6 w5.heap.size v6 (chL x y 15)) := Lib.hid O6
    have HAP := Lib.hid (show applyN x (chL x y 15) = (y, 0) by
      have h2 := apply_step (Nat.le_refl 15) hx hy []
      rw [List.append_nil] at h2
      rw [h2]; rfl)
    have HCO := Lib.hid (ChgOk.of (chL_ok x y 15 (Nat.le_refl _)))
    have hl6 := chL_length x y 15
    have c23 : w6.cell? ⟨g, 23, none⟩ = some (.int .u16 S.states) := HB6.out.1.box.rest.2.2.1
    clear O6 M6 HB5 Hxy
    go_wp2_with fail
    refine (apply_ok _ x (by omega) v6 (chL x y 15) HO6.out.rd HCO.out (by omega)).mono ?_
    rw [HAP.out]
    rintro e w7 ⟨rfl, M7⟩
    have HB7 := Lib.hid (show Sn w7 w.heap.size g S [] ∧ Sn w7 w.heap.size g2 T P ∧ IsDice w7 w.heap.size v L n3 ∧ Mods [] w w7 from ⟨HB6.out.1.mods0 M7, HB6.out.2.1.mods0 M7, HB6.out.2.2.1.mods0 M7, HB6.out.2.2.2.trans M7⟩)
    obtain ⟨ad6, cap6, rfl, h61, h62, _⟩ := HO6.out.rd
    have h63 : cap6 ≤ 9223372036854775807 := h62
    have c14 : w7.cell? ⟨g2, 14, none⟩ = some (.int .u8 T.mask) := HB7.out.2.1.box.lims.1
    have ec : bits .and .u8 (rc : Int) (T.mask : Int) = ((rc &&& T.mask : Nat) : Int) := u8_and_nat _ _ hrc HMK.out
    have hwas : rc &&& T.mask < 64 := Nat.lt_of_le_of_lt Nat.and_le_right HM64.out
    have hw0 := Lib.hid (and_mask rc T.mask HMK.out)
    have HST := Lib.hid (show ∀ u x, u &&& (255 - T.mask) = 0 → stepN T P u x = (nextN T u (numI T.conv.sgn x), chL u (nextN T u (numI T.conv.sgn x)) 6, 0) from fun u x hu => by simp [stepN, HV1.out, hu])
    generalize hwx : rc &&& T.mask = was at ec hwas hw0
    clear hwx M7 HB6 c23 HAP HCO h62
    go_wp2_with fail
    clear c14
    refine heldStart (S := fun W => W.heap[g2]? = some (.cells T.cells 32 (0, 0))) 13 rfl (by kernel_rfl) HB7.out.2.1.box.blk (fun hHeld => ?_)
    refine takeD (i := 0) (d := 64) (v := .agg T.cells) rfl rfl (by kernel_rfl) (by kernel_rfl) (by kernel_rfl) (fun _ _ _ h => h) (yieldsIf_load_row rfl 32 (.tmp 11) rfl g2 rfl 32 T.cells (0, 0) _ (fun w h=>h) Try.underlying32 rfl T.infoS) hHeld ?_
    simp only [List.setIfInBounds_toArray, List.set_cons_zero, List.set_cons_succ]
    refine takeD (i := 1) (d := 65) (v := ?_) rfl rfl (by kernel_rfl) (by kernel_rfl) (by kernel_rfl) (fun _ _ _ h => h) (Or.inl ⟨by rfl, ?_⟩) hHeld ?_
    rotate_left 1
    · (intro w hSw; (try dsimp only at hSw); go_simp; (try with_reducible rfl))
    simp only [List.setIfInBounds_toArray, List.set_cons_zero, List.set_cons_succ]
    refine takeD (i := 2) (d := 66) (v := ?_) rfl rfl (by kernel_rfl) (by kernel_rfl) (by kernel_rfl) (fun _ _ _ h => h) (Or.inl ⟨by rfl, ?_⟩) hHeld ?_
    rotate_left 1
    · (intro w hSw; (try dsimp only at hSw); go_simp; (try with_reducible rfl))
    simp only [List.setIfInBounds_toArray, List.set_cons_zero, List.set_cons_succ]
    refine takeD (i := 3) (d := 67) (v := .agg T.cells) rfl rfl (by kernel_rfl) (by kernel_rfl) (by kernel_rfl) (fun _ _ _ h => h) (yieldsIf_load_row rfl 32 (.tmp 11) rfl g2 rfl 32 T.cells (0, 0) _ (fun w h=>h) Try.underlying32 rfl T.infoS) hHeld ?_
    simp only [List.setIfInBounds_toArray, List.set_cons_zero, List.set_cons_succ]
    have HNR := Lib.hid (fun W (M : Mods [] w7 W) => near_ok W w.heap.size v L n3 (HB7.out.2.2.1.mods0 M) T P (HB7.out.2.1.sen.mods0 M))
    refine wpAnyH_ready (rs := [4]) (by kernel_rfl) (by simp) ?_
    refine AllReadyH.cons rfl (fun K hK => ?_) AllReadyH.nil
    go_simp
    go_wp2_with (go_at_call 36; refine (HNR.out _ (Mods.refl.drewN 1)).mono ?_; rintro e wn ⟨r', nn, rfl, r0, r1, Dn, Mn⟩)
    refine hK.out _ _ ?_ (fun hHeld => ?_)
    · exact Mn.heap hHeld (by have:=HB7.out.2.1.gb;simpa using this)
    clear hK K
    obtain ⟨r, rfl⟩ := Int.eq_ofNat_of_zero_le r0
    have hr : r < 256 := by omega
    have MN : Mods [w.heap.size] w7 wn := (Mods.refl.drewN 1).trans Mn
    have HBN := Lib.hid (show Sn wn w.heap.size g S [] ∧ Sn wn w.heap.size g2 T P ∧ Mods [] w wn from ⟨HB7.out.1.dice MN, HB7.out.2.1.dice MN, HB7.out.2.2.2.comp MN (fun q hq => by simp at hq; subst hq; exact .inr (Nat.le_refl _))⟩)
    have HSC := Lib.hid (fun W (M : Mods [] wn W) => step_ok W T P (HBN.out.2.1.sen.mods0 M) was r (by omega) hr)
    rw [HST.out was r hw0.out] at HSC
    clear Mn MN Dn HNR HB7 HST
    refine wpAnyH_ready (rs := [5]) (by kernel_rfl) (by simp) ?_
    refine AllReadyH.cons rfl (fun K hK => ?_) AllReadyH.nil
    go_simp
    go_wp2_with (go_at_call 34; refine (HSC.out _ Mods.refl).mono ?_; rintro e wy ⟨vv, rfl, Oy, My⟩)
    refine hK.out _ _ ?_ (fun hHeld => ?_)
    · exact My.heap hHeld (by simp)
    clear hK K
    refine takeD (i := 6) (d := 63) (v := ?_) rfl rfl (by kernel_rfl) (by kernel_rfl) (by kernel_rfl) (fun _ _ _ h => h) (Or.inl ⟨by rfl, ?_⟩) hHeld ?_
    rotate_left 1
    · (intro w hSw; (try dsimp only at hSw); go_simp; (try with_reducible rfl))
    simp only [List.setIfInBounds_toArray, List.set_cons_zero, List.set_cons_succ]
    refine takeD (i := 7) (d := 70) (v := ?_) rfl rfl (by kernel_rfl) (by kernel_rfl) (by kernel_rfl) (fun _ _ _ h => h) (Or.inl ⟨by rfl, ?_⟩) hHeld ?_
    rotate_left 1
    · (intro w hSw; (try dsimp only at hSw); go_simp; (try with_reducible rfl))
    simp only [List.setIfInBounds_toArray, List.set_cons_zero, List.set_cons_succ]
    refine takeD (i := 8) (d := 71) (v := ?_) rfl rfl (by kernel_rfl) (by kernel_rfl) (by kernel_rfl) (fun _ _ _ h => h) (Or.inl ⟨by rfl, ?_⟩) hHeld ?_
    rotate_left 1
    · (intro w hSw; (try dsimp only at hSw); go_simp; (try with_reducible rfl))
    simp only [List.setIfInBounds_toArray, List.set_cons_zero, List.set_cons_succ]
    refine takeD (i := 9) (d := 72) (v := ?_) rfl rfl (by kernel_rfl) (by kernel_rfl) (by kernel_rfl) (fun _ _ _ h => h) (Or.inl ⟨by rfl, ?_⟩) hHeld ?_
    rotate_left 1
    · (intro w hSw; (try dsimp only at hSw); go_simp; (try with_reducible rfl))
    simp only [List.setIfInBounds_toArray, List.set_cons_zero, List.set_cons_succ]
    refine takeD (i := 10) (d := 18) (v := ?_) rfl rfl (by kernel_rfl) (by kernel_rfl) (by kernel_rfl) (fun _ _ _ h => h) (Or.inl ⟨by rfl, ?_⟩) hHeld ?_
    rotate_left 1
    · (intro w hSw; (try dsimp only at hSw); go_simp; (try with_reducible rfl))
    simp only [List.setIfInBounds_toArray, List.set_cons_zero, List.set_cons_succ]
    refine takeD (i := 11) (d := 19) (v := ?_) rfl rfl (by kernel_rfl) (by kernel_rfl) (by kernel_rfl) (fun _ _ _ h => h) (Or.inl ⟨by rfl, ?_⟩) hHeld ?_
    rotate_left 1
    · (intro w hSw; (try dsimp only at hSw); go_simp; (try with_reducible rfl))
    simp only [List.setIfInBounds_toArray, List.set_cons_zero, List.set_cons_succ]
    refine takeD (i := 12) (d := 20) (v := ?_) rfl rfl (by kernel_rfl) (by kernel_rfl) (by kernel_rfl) (fun _ _ _ h => h) (Or.inl ⟨by rfl, ?_⟩) hHeld ?_
    rotate_left 1
    · (intro w hSw; (try dsimp only at hSw); go_simp; (try with_reducible rfl))
    simp only [List.setIfInBounds_toArray, List.set_cons_zero, List.set_cons_succ]
    refine wpAnyH_done (by kernel_rfl) ?_ _
    have HBY := Lib.hid (show Sn wy w.heap.size g S [] ∧ Mods [] w wy from ⟨HBN.out.1.mods0 My, HBN.out.2.2.trans My⟩)
    have hto := nextN_lt T was (numI T.conv.sgn r)
    have HOY : Hid (OwnChg wy wn.heap.size vv (chL was (nextN T was (numI T.conv.sgn r)) 6)) := Lib.hid Oy
    generalize nextN T was (numI T.conv.sgn r) = to at hto HOY ⊢
    have HAP := Lib.hid (show applyN was (chL was to 6) = (to, 0) by
      have h2 := apply_step (k := 6) (by omega) hwas hto []
      rw [List.append_nil] at h2
      rw [h2]; rfl)
    have HCO := Lib.hid (ChgOk.of (chL_ok was to 6 (by omega)))
    have hl7 := chL_length was to 6
    have hw1 := wrap16 (m := was) (by omega)
    have hw2 := wrap16 (m := to) (by omega)
    clear My Oy HBN HSC hHeld hw0 r0 r1
    go_wp2_with fail
    refine (apply_ok _ was (by omega) vv (chL was to 6) HOY.out.rd HCO.out (by omega)).mono ?_
    rw [HAP.out]
    rintro e w8 ⟨rfl, M8⟩
    have HS8 := Lib.hid (HBY.out.1.mods0 M8)
    have HM8 := Lib.hid (HBY.out.2.trans M8)
    have c23 : w8.cell? ⟨g, 23, none⟩ = some (.int .u16 S.states) := HS8.out.box.rest.2.2.1
    clear M8 HBY HOY HAP HCO
    go_wp2_with fail
    clear c23
    go_loopw [23, 24] (fun n m wr => ∃ j : Nat, j ≤ 15 ∧ n = .int .i64 ((chL x y j).length : Nat) ∧ m = .int .u16 ((x ^^^ y) / 2 ^ j : Nat) ∧ Mods [] w8 wr) (fun _ m _ => (intOf m).toNat)
    case atStart => exact ⟨0, by omega, rfl, by simp, Mods.refl⟩
    case round =>
      obtain ⟨j, hj, rfl, rfl, M9⟩ := hrel
      have hxl : x ^^^ y < 2 ^ 15 := Nat.xor_lt_two_pow hx hy
      by_cases hq0 : (x ^^^ y) / 2 ^ j = 0
      · have hsm : x ^^^ y < 2 ^ j := by
          rcases (Nat.div_eq_zero_iff).1 hq0 with h | h
          · exact absurd h (Nat.ne_of_gt (Nat.pow_pos (by omega)))
          · exact h
        have hln := chL_small hsm hj
        have HM9 := Lib.hid (HM8.out.trans M9)
        have c23 : wr.cell? ⟨g, 23, none⟩ = some (.int .u16 S.states) := (HS8.out.mods0 M9).box.rest.2.2.1
        rw [hq0, ← hln]
        clear hln hsm hq0 M9
        go_wp2_with fail
        refine (awakeD_ok _).mono ?_
        rintro e w10 ⟨rfl, M10⟩
        go_wp2
        go_ret
        exact ⟨rfl, HM9.out.trans M10⟩
      · have hj2 : j < 15 := by
          rcases Nat.lt_or_ge j 15 with h | h
          · exact h
          · have h2 : 2 ^ 15 ≤ 2 ^ j := Nat.pow_le_pow_right (by omega) h
            exact absurd (Nat.div_eq_of_lt (by omega)) hq0
        have hcn := Lib.hid (chL_cnt x y j)
        have hdd := Lib.hid (show (x ^^^ y) / 2 ^ (j + 1) = (x ^^^ y) / 2 ^ j / 2 by rw [Nat.pow_succ, Nat.div_div_eq_div_mul])
        have hlj := chL_length x y j
        have hql : (x ^^^ y) / 2 ^ j < 65536 := Nat.lt_of_le_of_lt (Nat.div_le_self _ _) (by omega)
        generalize (x ^^^ y) / 2 ^ j = q at hq0 hcn hdd hql ⊢
        generalize (chL x y j).length = n at hcn hlj ⊢
        have d0 : decide ((0 : Int) < (q : Int)) = true := decide_eq_true (by omega)
        have HM9 := Lib.hid M9
        clear M9
        go_wp2_with fail
        exact ⟨⟨j + 1, by omega, by rw [hcn.out]; simp, by rw [hdd.out]; simp, HM9.out⟩, by simp only [intOf]; omega⟩
  · skip
    have HLL := Lib.hid (decide_eq_false hl)
    go_enter Try.func13, Try.ntmps13
    go_wp2_with fail
    refine HL.out.mono ?_
    rw [HLL.out]
    rintro e w' ⟨rfl, rfl⟩
    go_wp2_with fail
    refine (awakeD_ok _).mono ?_
    rintro e w1 ⟨rfl, M1⟩
    go_wp2
    go_ret
    exact ⟨rfl, M1⟩
end Go.Proofs.Ytokokojmeepoeaa
