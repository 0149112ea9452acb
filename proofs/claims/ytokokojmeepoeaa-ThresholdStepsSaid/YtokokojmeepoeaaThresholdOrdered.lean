/- ThresholdOrdered: the walk. -/
import Derived.Test.YtokokojmeepoeaaAwakeT
import Derived.Test.YtokokojmeepoeaaMadeAna
import Derived.Test.YtokokojmeepoeaaThresholdSeverity
namespace Go.Proofs.Ytokokojmeepoeaa
open Go.RowKit

theorem sub255 {x : Nat} (h : x < 256) (i : Nat) : (255 - x).testBit i = (decide (i < 8) && !x.testBit i) := by
  rw [show 255 - x = 2 ^ 8 - (x + 1) by omega, Nat.testBit_two_pow_sub_succ (by omega)]
theorem tb7 (i : Nat) : (7 : Nat).testBit i = decide (i < 3) := by
  rw [show (7 : Nat) = 2 ^ 3 - 1 from rfl, Nat.testBit_two_pow_sub_one]
theorem and_zero_of {a b : Nat} (h : ∀ i, a.testBit i = true → b.testBit i = true → False) : a &&& b = 0 := by
  refine Nat.eq_of_testBit_eq fun i => ?_
  rw [Nat.testBit_and, Nat.zero_testBit]
  cases ha : a.testBit i with
  | false => rfl
  | true =>
    cases hb : b.testBit i with
    | false => rfl
    | true => exact (h i ha hb).elim
theorem tb56 (i : Nat) (h : (56 : Nat).testBit i = true) : 3 ≤ i ∧ i < 6 := by
  rcases Nat.lt_or_ge i 6 with h6 | h6
  · refine ⟨?_, h6⟩
    match i, h6 with
    | 0, _ | 1, _ | 2, _ => simp [Nat.testBit] at h
    | 3, _ | 4, _ | 5, _ => omega
  · rw [Nat.testBit_lt_two_pow (Nat.lt_of_lt_of_le (show 56 < 2 ^ 6 by decide) (Nat.pow_le_pow_right (by omega) h6))] at h
    cases h
theorem next0 (S : Sen) (x : Int) (i : Nat) : (nextN S 0 x).testBit i = (decide (i < 6) && (S.mask.testBit i && decide (0 ≤ beyI S i x))) := by
  rw [nextN, testBit_ofBits]
  simp [nextB]
/-- More extreme readings reach no fewer thresholds on their side. -/
theorem ord_laws (S : Sen) {xa xb : Int} (hx : xa ≤ xb) (ho : ordB S.mask S.num = true) :
    ((nextN S 0 xb &&& 7) &&& (255 - nextN S 0 xa)) = 0 ∧ ((nextN S 0 xa &&& 56) &&& (255 - nextN S 0 xb)) = 0 ∧ (nextN S 0 xa &&& 7 = 0 ∨ nextN S 0 xa &&& 56 = 0) := by
  have la : nextN S 0 xa < 256 := by have := nextN_lt S 0 xa; omega
  have lb : nextN S 0 xb < 256 := by have := nextN_lt S 0 xb; omega
  refine ⟨and_zero_of fun i h1 h2 => ?_, and_zero_of fun i h1 h2 => ?_, ?_⟩
  · rw [Nat.testBit_and, tb7, next0] at h1
    rw [sub255 la, next0] at h2
    simp at h1 h2
    obtain ⟨⟨h6, hm, hb⟩, h3⟩ := h1
    rcases h2.2 with h | h | h
    · omega
    · rw [hm] at h; cases h
    · unfold beyI at h hb
      rw [if_pos (by omega)] at h hb
      omega
  · rw [Nat.testBit_and, next0] at h1
    rw [sub255 lb, next0] at h2
    simp only [Bool.and_eq_true] at h1
    have ⟨h3, h6⟩ := tb56 i h1.2
    simp at h1 h2
    obtain ⟨⟨_, hm, hb⟩, _⟩ := h1
    rcases h2.2 with h | h | h
    · omega
    · rw [hm] at h; cases h
    · unfold beyI at h hb
      rw [if_neg (by omega)] at h hb
      omega
  · by_cases h0 : nextN S 0 xa &&& 7 = 0
    · exact .inl h0
    · refine .inr (and_zero_of fun j h1 h2 => h0 (and_zero_of fun i h3 h4 => ?_))
      rw [tb7] at h4
      have ⟨j3, j6⟩ := tb56 j h2
      rw [next0] at h1 h3
      simp at h1 h3 h4
      have hp := ordB_get ho (show i < j by omega) j6 h3.2.1 h1.2.1
      have b1 := h1.2.2
      have b3 := h3.2.2
      unfold beyI at b1 b3
      rw [if_neg (by omega)] at b1
      rw [if_pos (by omega)] at b3
      simp [pairB] at hp
      omega
theorem validB_ana {S : Sen} {P : List Pt} (h : validB S P = true) (hd : S.disc = false) : anaB S P = true ∧ ordB S.mask S.num = true ∧ S.mask < 64 ∧ zeroRaw S = true := by
  refine ⟨by rw [anaB, hd, h]; rfl, ?_⟩
  unfold validB at h
  rw [hd] at h
  simp only [Bool.and_eq_true, Bool.false_eq_true, if_false, analogB, decide_eq_true_eq] at h
  exact ⟨h.2.2, h.2.1.1.1.1.2, h.2.1.2⟩
set_option maxRecDepth 100000 in
set_option maxHeartbeats 4000000 in
theorem thresholdOrdered_walk (w : World) (v : Value) (L : List Int) (hv : Rd w v (i64s L)) (hb : ∀ i, -9223372036854775808 ≤ L.getD i 0 ∧ L.getD i 0 ≤ 9223372036854775807) (a : Int) (ha : 0 ≤ a ∧ a ≤ 255) (b : Int) (hbb : 0 ≤ b ∧ b ≤ 255) :
    Calls Try.prog 10 #[v, .int .u8 a, .int .u8 b] w fun e w' => e = .returned (.bool true) ∧ Mods [] w w' := by
  obtain ⟨a0, a1⟩ := ha
  obtain ⟨b0, b1⟩ := hbb
  obtain ⟨ra, rfl⟩ := Int.eq_ofNat_of_zero_le a0
  obtain ⟨rb, rfl⟩ := Int.eq_ofNat_of_zero_le b0
  have hra : ra < 256 := by omega
  have hrb : rb < 256 := by omega
  have HL := Lib.hid (light_ok w v L hv)
  have HV := Lib.hid hv
  have HB := Lib.hid hb
  clear hv hb a0 a1 b0 b1
  by_cases hl : L.length ≤ 600
  · have HLL := Lib.hid (decide_eq_true hl)
    go_enter Try.func10, Try.ntmps10
    go_wp2_with fail
    refine HL.out.mono ?_
    rw [HLL.out]
    rintro e w' ⟨rfl, rfl⟩
    go_wp2_with fail
    refine (roll_ok w v L HV.out (by omega) HB.out).mono ?_
    rintro e w1 ⟨rfl, D1, M1, z1⟩
    go_wp2_with fail
    refine (analogM_ok w1 w.heap.size v L 0 D1 1 (by omega)).mono ?_
    rintro e w2 ⟨S, P, n2, rfl, IS, VS, DS, OP, PL, SN, D2, M2⟩
    have M2 : Mods [] w w2 := M1.comp M2 (fun q hq => by simp at hq; subst hq; exact .inr (Nat.le_refl _))
    have hone := Lib.hid IS.conv.rd.one
    have ⟨v1, v2, _, _⟩ := validB_ana VS DS
    have HV1 := Lib.hid v1
    have HV2 := Lib.hid v2
    have HS := Lib.hid IS
    have HO := Lib.hid OP
    have hz2 := Lib.hid M2.size
    clear D1 D2 M1 VS DS OP PL SN IS v1 v2
    have HA : Hid (∀ W, Mods [w2.heap.size] (w2.alloc (.cells zS.cells 32)) W → IsSen W S P ∧ Mods [] w W) := Lib.hid (fun W hW => by
      have A0 := (Mods.refl (S := []) (w := w2)).alloc (.cells zS.cells 32)
      exact ⟨(HS.out.mods0 A0).mods hW (fun _ q hq => by have := (HO.out.own q hq).2; simp; omega), (M2.trans A0).comp hW (fun q hq => by simp at hq; subst hq; exact .inr hz2.out)⟩)
    go_wp2_with (refine wpList_store_row (cs := S.cells) rfl 32 (.tmp 7) (.tmp 18) rfl (heap_alloc_new w2 _) (by rfl) (by rfl) (by rfl) (Sen.infoS _) (Sen.one _ hone.out) ?_; intro w4 R4 M4; have HA4 := Lib.hid (HA.out w4 M4); have HB4 := Lib.hid (show SenBox w4 w2.heap.size S from ⟨R4⟩); have c8 : w4.cell? ⟨w2.heap.size, 8, none⟩ = some (.bool S.conv.sgn) := (by rw [cell_blk R4]; rfl); clear M4 R4)
    clear HA M2
    generalize w2.heap.size = g at HB4 c8 ⊢
    go_quiet ((go_at_call 35; exact quiet_left (refNumber_ok _ _ (by assumption) _)))
    have HQ := Lib.hid (HB4.out.mods0 (Mods.refl.drewN nq))
    have HI := Lib.hid (show IsSen (w4.drewN nq) S P ∧ Mods [] w (w4.drewN nq) from ⟨HA4.out.1.mods0 (Mods.refl.drewN nq), HA4.out.2.drewN nq⟩)
    generalize w4.drewN nq = w5 at HQ HI ⊢
    have HRA := Lib.hid (show ∀ r, reachN S P r = (nextN S 0 (numI S.conv.sgn r), 0) from fun r => by simp [reachN, HV1.out])
    clear HA4 HB4 c8
    by_cases hc : numI S.conv.sgn rb < numI S.conv.sgn ra
    · skip
      have HLW := Lib.hid (ord_laws S (show numI S.conv.sgn rb ≤ numI S.conv.sgn ra by omega) HV2.out)
      go_wp2_with (refine wpList_load_sen rfl (.tmp 7) rfl HQ.out (by rfl) ?_)
      refine (reached_ok _ S P HI.out.1 rb (by assumption)).mono ?_
      rw [HRA.out]
      rintro e w6 ⟨rfl, M6⟩
      have HQ6 := Lib.hid (HQ.out.mods0 M6)
      have HI6 := Lib.hid (show IsSen w6 S P ∧ Mods [] w w6 from ⟨HI.out.1.mods0 M6, HI.out.2.trans M6⟩)
      clear M6
      go_wp2_with (refine wpList_load_sen rfl (.tmp 7) rfl HQ6.out (by rfl) ?_)
      refine (reached_ok _ S P HI6.out.1 ra (by assumption)).mono ?_
      rw [HRA.out]
      rintro e w7 ⟨rfl, M7⟩
      have HI7 := Lib.hid (HI6.out.2.trans M7)
      have hxl := nextN_lt S 0 (numI S.conv.sgn rb)
      have hyl := nextN_lt S 0 (numI S.conv.sgn ra)
      generalize nextN S 0 (numI S.conv.sgn rb) = x at HLW hxl ⊢
      generalize nextN S 0 (numI S.conv.sgn ra) = y at HLW hyl ⊢
      clear M7
      have g1 : bits .and .u8 (y : Int) 7 = ((y &&& 7 : Nat) : Int) := u8_and_nat _ 7 (by omega) (by omega)
      have g2 : bits .andNot .u8 ((y &&& 7 : Nat) : Int) (x : Int) = 0 := by rw [u8_andNot_nat _ _ (Nat.lt_of_le_of_lt Nat.and_le_left (by omega)) (by omega), HLW.out.1]; rfl
      have g3 : bits .and .u8 (x : Int) 56 = ((x &&& 56 : Nat) : Int) := u8_and_nat _ 56 (by omega) (by omega)
      have g4 : bits .andNot .u8 ((x &&& 56 : Nat) : Int) (y : Int) = 0 := by rw [u8_andNot_nat _ _ (Nat.lt_of_le_of_lt Nat.and_le_left (by omega)) (by omega), HLW.out.2.1]; rfl
      have g5 : bits .and .u8 (x : Int) 7 = ((x &&& 7 : Nat) : Int) := u8_and_nat _ 7 (by omega) (by omega)
      have g6 := HLW.out.2.2
      clear HLW
      generalize x &&& 56 = p at g3 g4 g6
      generalize x &&& 7 = q at g5 g6
      generalize y &&& 7 = s at g1 g2
      have HF := Lib.hid (fun W (_ : Mods [] w7 W) => awakeT_ok W)
      by_cases hq : q = 0
      · subst hq
        clear g6
        go_wp2_with fail
        refine (HF.out _ Mods.refl).mono ?_
        rintro e w8 ⟨rfl, M8⟩
        go_wp2
        go_ret
        exact ⟨rfl, HI7.out.trans M8⟩
      · have g7 : p = 0 := by rcases g6 with h | h; exact absurd h hq; exact h
        have g8 : ((q : Int) == 0) = false := beq_eq_false_iff_ne.2 (by omega)
        subst g7
        clear g6
        go_wp2_with fail
        refine (HF.out _ Mods.refl).mono ?_
        rintro e w8 ⟨rfl, M8⟩
        go_wp2
        go_ret
        exact ⟨rfl, HI7.out.trans M8⟩
    · skip
      have HLW := Lib.hid (ord_laws S (show numI S.conv.sgn ra ≤ numI S.conv.sgn rb by omega) HV2.out)
      go_wp2_with (refine wpList_load_sen rfl (.tmp 7) rfl HQ.out (by rfl) ?_)
      refine (reached_ok _ S P HI.out.1 ra (by assumption)).mono ?_
      rw [HRA.out]
      rintro e w6 ⟨rfl, M6⟩
      have HQ6 := Lib.hid (HQ.out.mods0 M6)
      have HI6 := Lib.hid (show IsSen w6 S P ∧ Mods [] w w6 from ⟨HI.out.1.mods0 M6, HI.out.2.trans M6⟩)
      clear M6
      go_wp2_with (refine wpList_load_sen rfl (.tmp 7) rfl HQ6.out (by rfl) ?_)
      refine (reached_ok _ S P HI6.out.1 rb (by assumption)).mono ?_
      rw [HRA.out]
      rintro e w7 ⟨rfl, M7⟩
      have HI7 := Lib.hid (HI6.out.2.trans M7)
      have hxl := nextN_lt S 0 (numI S.conv.sgn ra)
      have hyl := nextN_lt S 0 (numI S.conv.sgn rb)
      generalize nextN S 0 (numI S.conv.sgn ra) = x at HLW hxl ⊢
      generalize nextN S 0 (numI S.conv.sgn rb) = y at HLW hyl ⊢
      clear M7
      have g1 : bits .and .u8 (y : Int) 7 = ((y &&& 7 : Nat) : Int) := u8_and_nat _ 7 (by omega) (by omega)
      have g2 : bits .andNot .u8 ((y &&& 7 : Nat) : Int) (x : Int) = 0 := by rw [u8_andNot_nat _ _ (Nat.lt_of_le_of_lt Nat.and_le_left (by omega)) (by omega), HLW.out.1]; rfl
      have g3 : bits .and .u8 (x : Int) 56 = ((x &&& 56 : Nat) : Int) := u8_and_nat _ 56 (by omega) (by omega)
      have g4 : bits .andNot .u8 ((x &&& 56 : Nat) : Int) (y : Int) = 0 := by rw [u8_andNot_nat _ _ (Nat.lt_of_le_of_lt Nat.and_le_left (by omega)) (by omega), HLW.out.2.1]; rfl
      have g5 : bits .and .u8 (x : Int) 7 = ((x &&& 7 : Nat) : Int) := u8_and_nat _ 7 (by omega) (by omega)
      have g6 := HLW.out.2.2
      clear HLW
      generalize x &&& 56 = p at g3 g4 g6
      generalize x &&& 7 = q at g5 g6
      generalize y &&& 7 = s at g1 g2
      have HF := Lib.hid (fun W (_ : Mods [] w7 W) => awakeT_ok W)
      by_cases hq : q = 0
      · subst hq
        clear g6
        go_wp2_with fail
        refine (HF.out _ Mods.refl).mono ?_
        rintro e w8 ⟨rfl, M8⟩
        go_wp2
        go_ret
        exact ⟨rfl, HI7.out.trans M8⟩
      · have g7 : p = 0 := by rcases g6 with h | h; exact absurd h hq; exact h
        have g8 : ((q : Int) == 0) = false := beq_eq_false_iff_ne.2 (by omega)
        subst g7
        clear g6
        go_wp2_with fail
        refine (HF.out _ Mods.refl).mono ?_
        rintro e w8 ⟨rfl, M8⟩
        go_wp2
        go_ret
        exact ⟨rfl, HI7.out.trans M8⟩
  · have HLL := Lib.hid (decide_eq_false hl)
    go_enter Try.func10, Try.ntmps10
    go_wp2_with fail
    refine HL.out.mono ?_
    rw [HLL.out]
    rintro e w' ⟨rfl, rfl⟩
    go_wp2_with fail
    refine (awakeT_ok _).mono ?_
    rintro e w1 ⟨rfl, M1⟩
    go_wp2
    go_ret
    exact ⟨rfl, M1⟩
end Go.Proofs.Ytokokojmeepoeaa
