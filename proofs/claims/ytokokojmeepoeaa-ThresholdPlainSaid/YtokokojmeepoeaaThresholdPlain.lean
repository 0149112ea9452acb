/- ThresholdPlain: the walk. -/
import Derived.Test.YtokokojmeepoeaaThLaws
import Derived.Test.YtokokojmeepoeaaNear
namespace Go.Proofs.Ytokokojmeepoeaa
open Go.RowKit

set_option maxRecDepth 100000 in
set_option maxHeartbeats 4000000 in
theorem thresholdPlain_walk (w : World) (v : Value) (L : List Int) (hv : Rd w v (i64s L)) (hb : ∀ i, -9223372036854775808 ≤ L.getD i 0 ∧ L.getD i 0 ≤ 9223372036854775807) (a : Int) (ha : 0 ≤ a ∧ a ≤ 255) :
    Calls Try.prog 9 #[v, .int .u8 a] w fun e w' => e = .returned (.bool true) ∧ Mods [] w w' := by
  obtain ⟨a0, a1⟩ := ha
  obtain ⟨s0, rfl⟩ := Int.eq_ofNat_of_zero_le a0
  have hs0 : s0 < 256 := by omega
  clear a0 a1
  have HL := Lib.hid (light_ok w v L hv)
  have HV := Lib.hid hv
  have HB := Lib.hid hb
  clear hv hb
  by_cases hl : L.length ≤ 600
  · skip
    have HLL := Lib.hid (decide_eq_true hl)
    go_enter Try.func9, Try.ntmps9
    go_wp2_with fail
    refine HL.out.mono ?_
    rw [HLL.out]
    rintro e w' ⟨rfl, rfl⟩
    go_wp2_with fail
    refine (roll_ok w v L HV.out (by omega) HB.out).mono ?_
    rintro e w1 ⟨rfl, D1, M1, z1⟩
    go_wp2_with fail
    refine (analogM_ok w1 w.heap.size v L 0 D1 1 (by omega)).mono ?_
    rintro e w2 ⟨S, P, n2, rfl, IS, VS, DS, OP, PL, SN, D2, M2⟩
    have M2 : Mods [] w w2 := M1.comp M2 (fun q hq => by simp at hq; subst hq; exact .inr (Nat.le_refl _))
    have hone := Lib.hid IS.conv.rd.one
    have ⟨v1, v2, v3, _⟩ := validB_ana VS DS
    have HM64 := Lib.hid v3
    have HV1 := Lib.hid v1
    have HV2 := Lib.hid v2
    have HMK := Lib.hid IS.mask
    have HA : Hid (∀ W, W.heap[w2.heap.size]? = some (.cells S.cells 32 (0, 0)) → Mods [w2.heap.size] (w2.alloc (.cells zS.cells 32)) W → Sn W w.heap.size w2.heap.size S P ∧ IsDice W w.heap.size v L n2 ∧ Mods [] w W) := Lib.hid (fun W R M => by
      have ⟨x, y, z⟩ := Sn.made D1.lt IS OP D2 R M
      exact ⟨x, y, M2.trans z⟩)
    have HGW := Lib.hid M2.size
    clear D1 D2 M1 VS DS OP PL SN IS v1 v2 v3
    go_wp2_with (first | (refine wpList_load_sen rfl (.tmp 6) rfl HB4.out (by rfl) ?_) | (refine wpList_store_row (cs := S.cells) rfl 32 (.tmp 6) (.tmp 27) rfl (heap_alloc_new w2 _) (by rfl) (by rfl) (by rfl) (Sen.infoS _) (Sen.one _ hone.out) ?_; intro w4 R4 M4; have HA4 := Lib.hid (HA.out w4 R4 M4); have HB4 := Lib.hid HA4.out.1.box; skip; clear M4 R4))
    clear HA M2
    refine (near_ok w4 w.heap.size v L n2 HA4.out.2.1 S P HA4.out.1.sen).mono ?_
    rintro e w5 ⟨r', n5, rfl, r0, r1, D5, M5⟩
    obtain ⟨r, rfl⟩ := Int.eq_ofNat_of_zero_le r0
    have hr : r < 256 := by omega
    have HS := Lib.hid (HA4.out.1.dice M5)
    have HM := Lib.hid (HA4.out.2.2.comp M5 (fun q hq => by simp at hq; subst hq; exact .inr (Nat.le_refl _)))
    have c14 : w5.cell? ⟨w2.heap.size, 14, none⟩ = some (.int .u8 S.mask) := HS.out.box.lims.1
    have ea : bits .and .u8 (s0 : Int) (S.mask : Int) = ((s0 &&& S.mask : Nat) : Int) := u8_and_nat _ _ hs0 HMK.out
    have hwas : s0 &&& S.mask < 256 := Nat.lt_of_le_of_lt Nat.and_le_left hs0
    have hw0 := Lib.hid (and_mask s0 S.mask HMK.out)
    have HST := Lib.hid (show ∀ u x, u &&& (255 - S.mask) = 0 → stepN S P u x = (nextN S u (numI S.conv.sgn x), chL u (nextN S u (numI S.conv.sgn x)) 6, 0) from fun u x hu => by simp [stepN, HV1.out, hu])
    clear M5 HA4 HB4 D5 r0 r1
    generalize w2.heap.size = g at HS c14 HGW ⊢
    generalize hwx : s0 &&& S.mask = was at ea hwas hw0
    clear hwx
    go_wp2_with (refine wpList_load_sen rfl (.tmp 6) rfl HS.out.box (by rfl) ?_)
    refine (step_ok w5 S P HS.out.sen was r hwas hr).mono ?_
    rw [HST.out was r hw0.out]
    rintro e w6 ⟨v6, rfl, O6, M6⟩
    have H6 := Lib.hid (HS.out.mods0 M6)
    have HM6 := Lib.hid (HM.out.trans M6)
    have HP := Lib.hid (H6.out.plain)
    have c21 : w6.cell? ⟨g, 21, none⟩ = some (.int .u8 S.hl) := H6.out.box.rest.1
    have c22 : w6.cell? ⟨g, 22, none⟩ = some (.int .u8 S.hu) := H6.out.box.rest.2.1
    have f21 : w6.frozen? ⟨g, 21, none⟩ = false := froz_blk H6.out.box.blk _
    have f22 : w6.frozen? ⟨g, 22, none⟩ = false := froz_blk H6.out.box.blk _
    have HMP := Lib.hid ((HM6.out.setCell (p := ⟨g, 21, none⟩) (.inr HGW.out) (.int .u8 0)).setCell (p := ⟨g, 22, none⟩) (.inr HGW.out) (.int .u8 0))
    clear c14 ea O6 M6 HS HM
    go_wp2_with (refine wpList_load_sen rfl (.tmp 6) rfl HP.out.box (by rfl) ?_)
    refine (step_ok _ S.plain P HP.out.sen was r hwas hr).mono ?_
    rw [step_plain HV1.out was r hw0.out]
    rintro e w7 ⟨v7, rfl, _, M7⟩
    have HS := Lib.hid (HP.out.mods0 M7)
    have HM := Lib.hid (HMP.out.trans M7)
    clear c21 c22 f21 f22 H6 HM6 HP HMP M7
    go_wp2_with (refine wpList_load_sen rfl (.tmp 6) rfl HS.out.box (by rfl) ?_)
    refine (reached_ok _ S.plain P HS.out.sen r hr).mono ?_
    rw [reach_plain HV1.out r]
    rintro e w8 ⟨rfl, M8⟩
    have HS := Lib.hid (HS.out.mods0 M8)
    have HM := Lib.hid (HM.out.trans M8)
    clear M8
    go_wp2_with (refine wpList_load_sen rfl (.tmp 6) rfl HS.out.box (by rfl) ?_)
    refine (step_ok _ S.plain P HS.out.sen 0 r (by omega) hr).mono ?_
    rw [step_plain HV1.out 0 r (by simp)]
    rintro e w9 ⟨v9, rfl, _, M9⟩
    have HM := Lib.hid (HM.out.trans M9)
    have l1 := nextN_lt S was (numI S.conv.sgn r)
    have l2 := nextN_lt S 0 (numI S.conv.sgn r)
    have q1 := reached_in S was (numI S.conv.sgn r)
    have q2 := plain_over S was (numI S.conv.sgn r) hwas
    generalize nextN S was (numI S.conv.sgn r) = x at l1 q1 q2 ⊢
    generalize nextN S 0 (numI S.conv.sgn r) = y at l2 q1 q2 ⊢
    have g1 : bits .andNot .u8 (y : Int) (x : Int) = 0 := by rw [u8_andNot_nat _ _ (by omega) (by omega), q1]; rfl
    have g2 : bits .or .u8 (y : Int) (was : Int) = ((y ||| was : Nat) : Int) := u8_or_nat _ _ (by omega) hwas
    have g3 : bits .andNot .u8 (x : Int) ((y ||| was : Nat) : Int) = 0 := by rw [u8_andNot_nat _ _ (by omega) (Nat.or_lt_two_pow (n := 8) (by omega) hwas), q2]; rfl
    clear M9 HS q1 q2 HST hw0
    have HF := Lib.hid (fun W (_ : Mods [] w9 W) => awakeT_ok W)
    go_wp2_with fail
    refine (HF.out _ Mods.refl).mono ?_
    rintro e w10 ⟨rfl, M10⟩
    go_wp2
    go_ret
    exact ⟨rfl, HM.out.trans M10⟩
  · skip
    have HLL := Lib.hid (decide_eq_false hl)
    go_enter Try.func9, Try.ntmps9
    go_wp2_with fail
    refine HL.out.mono ?_
    rw [HLL.out]
    rintro e w' ⟨rfl, rfl⟩
    go_wp2_with fail
    refine (awakeT_ok _).mono ?_
    rintro e w1 ⟨rfl, M1⟩
    go_wp2
    go_ret
    exact ⟨rfl, M1⟩
end Go.Proofs.Ytokokojmeepoeaa
