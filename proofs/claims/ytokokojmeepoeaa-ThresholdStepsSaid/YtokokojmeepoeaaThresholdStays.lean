/- ThresholdStays: the walk. -/
import Derived.Test.YtokokojmeepoeaaThLaws
import Derived.Test.YtokokojmeepoeaaNear
import Derived.Test.YtokokojmeepoeaaDApply
namespace Go.Proofs.Ytokokojmeepoeaa
open Go.RowKit

theorem and_bit8 {st k : Nat} (hst : st < 256) (hk : k < 8) : (bits .and .u8 (st : Int) ((2 ^ k : Nat) : Int) != 0) = st.testBit k := by
  have hp : 2 ^ k < 256 := Nat.pow_lt_pow_right (a := 2) (n := 8) (by omega) (by omega)
  rw [u8_and_nat _ _ hst hp, nat_bit, tb]
  have h0 : 0 < 2 ^ k := Nat.pow_pos (by omega)
  rcases Nat.mod_two_eq_zero_or_one (st / 2 ^ k) with h | h
  · simp [h]
  · rw [h]
    generalize 2 ^ k = p at h0
    simp
    omega
theorem chL_self (a : Nat) : ∀ k, chL a a k = []
  | 0 => rfl
  | k + 1 => by rw [chL, chL_self a k]; simp
theorem mid_zero (a b : Nat) : mid a b 0 = a := Nat.eq_of_testBit_eq fun i => by rw [mid_bit]; simp
theorem mid_lt {a b n : Nat} (ha : a < 2 ^ n) (hb : b < 2 ^ n) (k : Nat) : mid a b k < 2 ^ n := Nat.xor_lt_two_pow ha (Nat.lt_of_le_of_lt (Nat.mod_le _ _) (Nat.xor_lt_two_pow ha hb))
set_option maxRecDepth 100000 in
set_option maxHeartbeats 4000000 in
theorem thresholdStays_walk (w : World) (v : Value) (L : List Int) (hv : Rd w v (i64s L)) (hb : ∀ i, -9223372036854775808 ≤ L.getD i 0 ∧ L.getD i 0 ≤ 9223372036854775807) (a : Int) (ha : 0 ≤ a ∧ a ≤ 255) :
    Calls Try.prog 8 #[v, .int .u8 a] w fun e w' => e = .returned (.bool true) ∧ Mods [] w w' := by
  obtain ⟨a0, a1⟩ := ha
  obtain ⟨s0, rfl⟩ := Int.eq_ofNat_of_zero_le a0
  have hs0 : s0 < 256 := by omega
  clear a0 a1
  have HL := Lib.hid (light_ok w v L hv)
  have HV := Lib.hid hv
  have HB := Lib.hid hb
  clear hv hb
  by_cases hl : L.length ≤ 600
  · skip
    have HLL := Lib.hid (decide_eq_true hl)
    go_enter Try.func8, Try.ntmps8
    go_wp2_with fail
    refine HL.out.mono ?_
    rw [HLL.out]
    rintro e w' ⟨rfl, rfl⟩
    go_wp2_with fail
    refine (roll_ok w v L HV.out (by omega) HB.out).mono ?_
    rintro e w1 ⟨rfl, D1, M1, z1⟩
    go_wp2_with fail
    refine (analogM_ok w1 w.heap.size v L 0 D1 1 (by omega)).mono ?_
    rintro e w2 ⟨S, P, n2, rfl, IS, VS, DS, OP, PL, SN, D2, M2⟩
    have M2 : Mods [] w w2 := M1.comp M2 (fun q hq => by simp at hq; subst hq; exact .inr (Nat.le_refl _))
    have hone := Lib.hid IS.conv.rd.one
    have ⟨v1, v2, v3, _⟩ := validB_ana VS DS
    have HM64 := Lib.hid v3
    have HV1 := Lib.hid v1
    have HV2 := Lib.hid v2
    have HMK := Lib.hid IS.mask
    have HA : Hid (∀ W, W.heap[w2.heap.size]? = some (.cells S.cells 32 (0, 0)) → Mods [w2.heap.size] (w2.alloc (.cells zS.cells 32)) W → Sn W w.heap.size w2.heap.size S P ∧ IsDice W w.heap.size v L n2 ∧ Mods [] w W) := Lib.hid (fun W R M => by
      have ⟨x, y, z⟩ := Sn.made D1.lt IS OP D2 R M
      exact ⟨x, y, M2.trans z⟩)
    have HGW := Lib.hid M2.size
    clear D1 D2 M1 VS DS OP PL SN IS v1 v2 v3
    go_wp2_with (first | (refine wpList_load_sen rfl (.tmp 6) rfl HB4.out (by rfl) ?_) | (refine wpList_store_row (cs := S.cells) rfl 32 (.tmp 6) (.tmp 27) rfl (heap_alloc_new w2 _) (by rfl) (by rfl) (by rfl) (Sen.infoS _) (Sen.one _ hone.out) ?_; intro w4 R4 M4; have HA4 := Lib.hid (HA.out w4 R4 M4); have HB4 := Lib.hid HA4.out.1.box; skip; clear M4 R4))
    clear HA M2
    refine (near_ok w4 w.heap.size v L n2 HA4.out.2.1 S P HA4.out.1.sen).mono ?_
    rintro e w5 ⟨r', n5, rfl, r0, r1, D5, M5⟩
    obtain ⟨r, rfl⟩ := Int.eq_ofNat_of_zero_le r0
    have hr : r < 256 := by omega
    have HS := Lib.hid (HA4.out.1.dice M5)
    have HM := Lib.hid (HA4.out.2.2.comp M5 (fun q hq => by simp at hq; subst hq; exact .inr (Nat.le_refl _)))
    have c14 : w5.cell? ⟨w2.heap.size, 14, none⟩ = some (.int .u8 S.mask) := HS.out.box.lims.1
    have ea : bits .and .u8 (s0 : Int) (S.mask : Int) = ((s0 &&& S.mask : Nat) : Int) := u8_and_nat _ _ hs0 HMK.out
    have hwas : s0 &&& S.mask < 256 := Nat.lt_of_le_of_lt Nat.and_le_left hs0
    have hw0 := Lib.hid (and_mask s0 S.mask HMK.out)
    have HST := Lib.hid (show ∀ u x, u &&& (255 - S.mask) = 0 → stepN S P u x = (nextN S u (numI S.conv.sgn x), chL u (nextN S u (numI S.conv.sgn x)) 6, 0) from fun u x hu => by simp [stepN, HV1.out, hu])
    have HRA := Lib.hid (show ∀ r, reachN S P r = (nextN S 0 (numI S.conv.sgn r), 0) from fun r => by simp [reachN, HV1.out])
    have hws := Lib.hid (show s0 &&& S.mask < 64 from Nat.lt_of_le_of_lt Nat.and_le_right HM64.out)
    clear M5 HA4 HB4 D5 r0 r1
    generalize w2.heap.size = g at HS c14 HGW ⊢
    generalize hwx : s0 &&& S.mask = was at ea hwas hw0 hws
    clear hwx
    go_wp2_with (refine wpList_load_sen rfl (.tmp 6) rfl HS.out.box (by rfl) ?_)
    refine (step_ok w5 S P HS.out.sen was r hwas hr).mono ?_
    rw [HST.out was r hw0.out]
    rintro e w6 ⟨v6, rfl, O6, M6⟩
    have HS := Lib.hid (HS.out.mods0 M6)
    have HM := Lib.hid (HM.out.trans M6)
    have l1 := nextN_lt S was (numI S.conv.sgn r)
    have q0 := Lib.hid (next_mask S was (numI S.conv.sgn r) HMK.out)
    have q1 := Lib.hid (next_again S was (numI S.conv.sgn r))
    have q2 := Lib.hid (reached_in S was (numI S.conv.sgn r))
    have l2 := nextN_lt S 0 (numI S.conv.sgn r)
    have HST := Lib.hid (HST.out (nextN S was (numI S.conv.sgn r)) r q0.out)
    have HRA := Lib.hid (HRA.out r)
    rw [q1.out, chL_self] at HST
    simp only at O6
    generalize nextN S was (numI S.conv.sgn r) = x at l1 q0 q2 HST O6 ⊢
    generalize nextN S 0 (numI S.conv.sgn r) = y at l2 q2 HRA
    clear M6 c14 ea q1 hw0
    have HO := Lib.hid O6
    obtain ⟨ad, cap, rfl, hc1, hc2, _⟩ := O6.rd
    have hc3 : cap ≤ 9223372036854775807 := hc2
    clear hc2 O6
    go_wp2_with (refine wpList_load_sen rfl (.tmp 6) rfl HS.out.box (by rfl) ?_)
    refine (step_ok _ S P HS.out.sen x r (by omega) hr).mono ?_
    rw [HST.out]
    rintro e w7 ⟨v7, rfl, O7, M7⟩
    obtain ⟨ad7, cap7, rfl, _⟩ := O7.rd
    have HS := Lib.hid (HS.out.mods0 M7)
    have HM := Lib.hid (HM.out.trans M7)
    have HO := Lib.hid (HO.out.mods0 M7)
    clear M7 O7
    go_wp2_with (refine wpList_load_sen rfl (.tmp 6) rfl HS.out.box (by rfl) ?_)
    refine (reached_ok _ S P HS.out.sen r hr).mono ?_
    rw [HRA.out]
    rintro e w8 ⟨rfl, M8⟩
    have HS := Lib.hid (HS.out.mods0 M8)
    have HM := Lib.hid (HM.out.trans M8)
    have HO := Lib.hid (HO.out.mods0 M8)
    have c14 : w8.cell? ⟨g, 14, none⟩ = some (.int .u8 S.mask) := HS.out.box.lims.1
    have g1 : bits .andNot .u8 (y : Int) (x : Int) = 0 := by rw [u8_andNot_nat _ _ (by omega) (by omega), q2.out]; rfl
    have g2 : bits .andNot .u8 (x : Int) (S.mask : Int) = 0 := by rw [u8_andNot_nat _ _ (by omega) HMK.out, q0.out]; rfl
    clear M8 q0 q2 HST HRA HV1 HV2 hone
    have HR := Lib.hid HO.out.rd
    go_wp2_with fail
    have hlen := chL_length was x 6
    clear c14 g1 g2
    go_loopw [8, 17, 18] (fun s la i wr => ∃ p k : Nat, p ≤ 6 ∧ (chL was x p).length = k ∧ s = .int .u8 (mid was x p) ∧ la = .int .i64 ((p : Int) - 1) ∧ i = .int .i64 k ∧ Mods [] w8 wr) (fun _ _ i _ => 6 - (intOf i).toNat)
    case atStart => exact ⟨0, 0, by omega, rfl, by rw [mid_zero], rfl, rfl, Mods.refl⟩
    case round =>
      obtain ⟨p, k, hp, hpk, rfl, rfl, rfl, M9⟩ := hrel
      by_cases hlt : k < (chL was x 6).length
      · obtain ⟨_, _, he, _, _, hc⟩ := HR.out.mods0 M9
        obtain ⟨bb, off, rfl, x0, x1⟩ := hc k hlt
        injection he with he1 he2 he3
        subst he1 he3
        clear hc he2
        obtain ⟨j, hj, he, hbj, hjl⟩ := chL_get was x 6 k hlt
        rw [he] at x0 x1
        simp only at x0 x1
        have hpj : p ≤ j := by
          rcases Nat.lt_or_ge j p with h | h
          · have h1 := chL_mono was x (show j + 1 ≤ p from h)
            have h2 : (was.testBit j ^^ x.testBit j) = true := by rw [← Nat.testBit_xor]; exact hbj
            rw [chL_len, h2] at h1
            simp at h1
            omega
          · exact h
        have hmid : mid was x p = mid was x j := mid_same was x hpj (by omega)
        have hnext : (chL was x (j + 1)).length = k + 1 := by
          have h2 : (was.testBit j ^^ x.testBit j) = true := by rw [← Nat.testBit_xor]; exact hbj
          rw [chL_len, h2, hjl]; simp
        have hsucc := mid_succ was x j hbj
        have hml : mid was x j < 256 := mid_lt (n := 8) (by omega) (by omega) j
        have ha1 := and_bit8 (st := x) (k := j) (by omega) (by omega)
        have ha2 := and_bit8 (st := mid was x j) (k := j) hml (by omega)
        have hmb : (mid was x j).testBit j = !x.testBit j := by
          rw [mid_bit, if_neg (by omega)]
          rw [Nat.testBit_xor] at hbj
          revert hbj
          cases was.testBit j <;> cases x.testBit j <;> simp
        rw [hmb] at ha2
        have hp1 : 2 ^ j < 256 := Nat.pow_lt_pow_right (a := 2) (n := 8) (by omega) (by omega)
        have hxo : bits .xor .u8 (mid was x j : Int) ((2 ^ j : Nat) : Int) = ((mid was x j ^^^ 2 ^ j : Nat) : Int) := u8_xor_nat _ _ hml hp1
        rw [← hsucc] at hxo
        have hpow : IntKind.u8.wrap ((2 : Int) ^ j) = ((2 ^ j : Nat) : Int) := by
          rw [IntKind.wrap_u8]
          have h2 : ((2 ^ j : Nat) : Int) = (2 : Int) ^ j := by simp
          rw [← h2]; exact Int.emod_eq_of_lt (Int.natCast_nonneg _) (Int.ofNat_lt.2 hp1)
        have hpow2 : ((2 : Int) ^ j % 256) = ((2 ^ j : Nat) : Int) := by rw [← hpow, IntKind.wrap_u8]
        rw [hmid]
        have HNX := Lib.hid hnext
        have HM9 := Lib.hid M9
        clear hmid hmb hsucc hbj he hjl hpk hnext M9 HO
        generalize mid was x j = m at ha2 hxo hml ⊢
        obtain ⟨m2, hm2⟩ : ∃ m2, m2 = mid was x (j + 1) := ⟨_, rfl⟩
        rw [← hm2] at hxo
        have HM2 := Lib.hid hm2
        clear hm2
        generalize x.testBit j = tb1 at x1 ha1 ha2
        generalize 2 ^ j = q at hpow hpow2 ha1 ha2 hxo hp1
        have i1 : (0 : Int) ≤ (k : Int) := by omega
        have i2 : (k : Int) < ((chL was x 6).length : Int) := by omega
        have d1 : decide ((j : Int) ≤ (p : Int) - 1) = false := decide_eq_false (by omega)
        have d2 : decide ((5 : Int) < (j : Int)) = false := decide_eq_false (by omega)
        go_wp2_with fail
        exact ⟨⟨j + 1, k + 1, by omega, HNX.out, by rw [HM2.out], by rw [show (((j + 1 : Nat) : Int) - 1) = (j : Int) by omega], by go_num, HM9.out⟩, by simp only [intOf]; omega⟩
      · have h1 := chL_mono was x hp
        have hmid : mid was x p = x := (mid_same was x hp (by omega)).trans (mid_whole (k := 6) hws.out l1)
        rw [hmid]
        have hk : k = (chL was x 6).length := by omega
        have HM9 := Lib.hid (HM.out.trans M9)
        have HF := Lib.hid (fun W (_ : Mods [] wr W) => awakeT_ok W)
        clear hmid hpk M9 HO HR HS HM h1
        subst hk
        go_wp2_with fail
        refine (HF.out _ Mods.refl).mono ?_
        rintro e w10 ⟨rfl, M10⟩
        go_wp2
        go_ret
        exact ⟨rfl, HM9.out.trans M10⟩
  · skip
    have HLL := Lib.hid (decide_eq_false hl)
    go_enter Try.func8, Try.ntmps8
    go_wp2_with fail
    refine HL.out.mono ?_
    rw [HLL.out]
    rintro e w' ⟨rfl, rfl⟩
    go_wp2_with fail
    refine (awakeT_ok _).mono ?_
    rintro e w1 ⟨rfl, M1⟩
    go_wp2
    go_ret
    exact ⟨rfl, M1⟩
end Go.Proofs.Ytokokojmeepoeaa
