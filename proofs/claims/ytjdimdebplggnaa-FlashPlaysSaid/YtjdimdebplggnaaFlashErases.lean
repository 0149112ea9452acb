/- FlashErases: the walk. -/
import Derived.Test.YtjdimdebplggnaaFlashFails
namespace Go.Proofs.Ytjdimdebplggnaa
open Go.RowKit
theorem or_ff {x : Int} (h0 : 0 ≤ x) (h1 : x ≤ 255) : bits .or .u8 x 255 = 255 := by
  have h : ∀ n : Fin 256, bits .or .u8 (n.val : Int) 255 = 255 := by decide +kernel
  have := h ⟨x.toNat, by omega⟩
  simpa [Int.toNat_of_nonneg h0] using this

theorem erases_facts (bs : List Int) (s : Nat) (hs : s < 2) (f : Bool) (t : Int) (D1 : Dev) (hD : D1 = if f then (Dev.with bs).arm 1 t else Dev.with bs) :
    (D1.erase s).1 = (if f then 10 else 0) ∧ (D1.erase s).2.down = f ∧ (D1.erase s).2.data = orRange bs (s * 64) 64 (if f then t else 255) ∧ (D1.erase s).2.wear.length = 2 ∧ (D1.erase s).2.wear.getD s 0 = 1 ∧ (D1.erase s).2.wear.getD (1 - s) 0 = 0 := by
  have hw : (List.replicate 2 (0 : Int)).set s 1 = if s = 0 then [1, 0] else [0, 1] := by
    match s, hs with
    | 0, _ => rfl
    | 1, _ => rfl
  cases f with
  | true =>
    have e : D1 = { Dev.with bs with left := 1, torn := t } := by rw [hD, if_pos rfl, Dev.arm_up rfl]; rfl
    have e2 : D1.erase s = (10, { Dev.with bs with left := 0, torn := t, steps := 129, down := true, wear := (List.replicate 2 (0 : Int)).set s 1, data := orRange bs (s * 64) 64 t }) := by
      rw [e, Dev.erase, if_neg (by simp [Dev.with, Dev.fresh]), if_pos (by simp [Dev.with, Dev.fresh]; omega)]
      simp [Dev.erased, Dev.worn, Dev.step, Dev.over, Dev.with, Dev.fresh, List.getD_eq_getElem?_getD, hs]
      rcases (by omega : s = 0 ∨ s = 1) with rfl | rfl <;> rfl
    rw [e2]
    refine ⟨rfl, rfl, rfl, by simp, ?_, ?_⟩
    · simp only [hw]; split
      · rename_i h; subst h; rfl
      · obtain rfl : s = 1 := by omega
        rfl
    · simp only [hw]; split
      · rename_i h; subst h; rfl
      · obtain rfl : s = 1 := by omega
        rfl
  | false =>
    have e : D1 = Dev.with bs := by rw [hD]; rfl
    have e2 : D1.erase s = (0, { Dev.with bs with steps := 129, wear := (List.replicate 2 (0 : Int)).set s 1, data := orRange bs (s * 64) 64 255 }) := by
      rw [e, Dev.erase, if_neg (by simp [Dev.with, Dev.fresh]), if_pos (by simp [Dev.with, Dev.fresh]; omega)]
      simp [Dev.erased, Dev.worn, Dev.step, Dev.over, Dev.with, Dev.fresh, List.getD_eq_getElem?_getD, hs]
      rcases (by omega : s = 0 ∨ s = 1) with rfl | rfl <;> rfl
    rw [e2]
    refine ⟨rfl, rfl, rfl, by simp, ?_, ?_⟩
    · simp only [hw]; split
      · rename_i h; subst h; rfl
      · obtain rfl : s = 1 := by omega
        rfl
    · simp only [hw]; split
      · rename_i h; subst h; rfl
      · obtain rfl : s = 1 := by omega
        rfl
theorem wears_small {D : Dev} (h : ∀ i, D.wear.getD i 0 = 0) : ∀ i, D.wear.getD i 0 ≤ 4611686018427000000 := by intro i; rw [h i]; omega

set_option maxRecDepth 100000 in
set_option maxHeartbeats 2000000 in
theorem flashErases_walk (w : World) (v : Value) (L : List Int) (hv : Rd w v (i64s L)) (hb : ∀ i, I64 (L.getD i 0)) (sector torn : Int) (h_s : I64 sector) (ht0 : 0 ≤ torn) (ht1 : torn ≤ 255) (f : Bool) :
    Calls Try.prog 8 #[v, .int .i64 sector, .int .u8 torn, .bool f] w fun e w' => e = .returned (.bool true) ∧ Mods [] w w' := by
  by_cases hl : L.length ≤ 600
  · have hd : decide (L.length ≤ 600) = true := by simpa using hl
    have HV := Lib.hid hv
    have HB := Lib.hid hb
    clear hv hb
    cases f
    all_goals
      go_enter Try.func8, Try.ntmps8
      go_wp2_with fail
      refine (light_ok w v L HV.out).mono ?_
      rintro e w' ⟨rfl, rfl⟩
      go_wp2_with fail
      refine (made_ok w v L HV.out (by omega) HB.out).mono ?_
      rintro e w1 ⟨p, gb, bs, rfl, hbl, hby, I1, R1, M1, F1, G1, E1⟩
      have I1 : IsDev w1 p (Dev.with bs) := I1
      have HBL := Lib.hid hbl
      have HF := Lib.hid F1
      have HE := Lib.hid E1
      have z1 := M1.size
      clear hbl F1 E1
      go_wp2_with fail
      refine (mod_ok sector 2 w1 h_s (by omega) (by omega)).mono ?_
      rintro e w2' ⟨rfl, rfl⟩
      have a0 := Int.emod_nonneg sector (show (2 : Int) ≠ 0 by omega)
      have a1 := Int.emod_lt_of_pos sector (show (0 : Int) < 2 by omega)
      obtain ⟨s, hs⟩ := Int.eq_ofNat_of_zero_le a0
      rw [hs] at a1 ⊢
      clear a0 hs
      have okw := Dev.with_ok HBL.out hby
    · have FC := erases_facts bs s (by omega) false torn (Dev.with bs) rfl
      have HST := Lib.hid (show (Dev.with bs).steps = 128 from rfl)
      have HW := Lib.hid (wears_small (D := Dev.with bs) (fun i => by simp only [Dev.with, Dev.fresh, getD_replicate]; split <;> rfl))
      generalize Dev.with bs = D1 at FC HST HW I1 okw
      simp only [Bool.false_eq_true, if_false] at FC
      go_wp2_with fail
      refine (erase_ok w1 p D1 I1 okw (s : Int) (by rw [HST.out]; omega) HW.out).mono ?_
      rintro e w3 ⟨rfl, I3, M3⟩
      have ok3 := erase_Ok okw (s : Int)
      obtain ⟨f1, f2, f3, f4, f5, f6⟩ := FC
      rw [f1]
      generalize (D1.erase (s : Int)).2 = D2 at f2 f3 f4 f5 f6 I3 ok3
      have R3 := R1.mods M3 HE.out
      have N3 : Mods [] w w3 := M1.comp M3 (fun j hj => .inr (HF.out j hj))
      have F2 := Lib.hid f2
      have F3 := Lib.hid f3
      have F4 := Lib.hid f4
      have F5 := Lib.hid f5
      have F6 := Lib.hid f6
      clear I1 R1 M1 M3 okw f1 f2 f3 f4 f5 f6
      go_wp2_with fail
      refine (down_ok w3 p D2 I3).mono ?_
      rintro e w3' ⟨rfl, rfl⟩
      rw [F2.out]
      go_wp2_with fail
      refine (restore_ok w3 p D2 I3).mono ?_
      rintro e w4 ⟨rfl, I4, M4⟩
      have I4 : IsDev w4 p D2.restore := I4
      have ok4 := restore_Ok ok3
      have R4 := R3.mods M4 (by have := HE.out; simp [DevAt.foot] at this ⊢; exact this.1)
      have N4 : Mods [] w w4 := N3.comp M4 (by intro j hj; simp at hj; subst hj; exact .inr (HF.out _ (by simp [DevAt.foot])))
      have E3 := Lib.hid (show D2.restore.read 0 128 = (D2.data, 0) by
        have hlen2 : D2.data.length = 128 := by rw [F3.out, orRange_len]; exact HBL.out
        have hf : fits D2.restore 0 128 = true := by simp [fits, Dev.restore, hlen2]
        rw [Dev.read, if_neg (by simp [Dev.restore]), if_pos hf]
        simp only [Dev.restore, Prod.mk.injEq, and_true]
        exact List.take_of_length_le (by simp [hlen2]))
      clear I3 R3 N3 M4 ok3
      go_wp2_with fail
      refine (read_ok w4 p D2.restore I4 ok4 0 128).mono ?_
      rw [E3.out]
      rintro e w5 ⟨v5, rfl, O5, M5⟩
      have I5 := I4.mods0 M5
      have R5 := R4.mods M5 (by simp)
      have N5 := N4.trans M5
      clear I4 R4 N4 M5
      go_wp2_with fail
      refine (wear_ok w5 p D2.restore I5 ok4).mono ?_
      rintro e w6 ⟨v6, rfl, O6, M6⟩
      have R6 := R5.mods M6 (by simp)
      have N6 := N5.trans M6
      have C5 := M6.owns O5 (fun _ _ => by simp)
      obtain ⟨a5, c5, rfl, hca, hcb, HC⟩ := (Rd.own C5).u8
      obtain ⟨a6, c6, rfl, hcc, hcd, HD⟩ := (Rd.own O6).i64
      have hl5 : D2.data.length = 128 := by rw [F3.out, orRange_len]; exact HBL.out
      have hl6 : D2.restore.wear.length = 2 := F4.out
      rw [hl5] at hca HC ⊢
      rw [hl6] at hcc HD ⊢
      obtain ⟨g6, o6, rfl, d1⟩ := HD s (by omega)
      obtain ⟨g6', o6', e6, d2⟩ := HD (1 - s) (by omega)
      simp only [Option.some.injEq, Addr.mk.injEq, and_true] at e6
      obtain ⟨rfl, rfl⟩ := e6
      rw [show D2.restore.wear.getD s 0 = 1 from F5.out] at d1
      rw [show D2.restore.wear.getD (1 - s) 0 = 0 from F6.out] at d2
      have HC := Lib.hid HC
      clear R5 N5 I5 M6 O5 C5 O6 hl5 hl6 HD E3
      unfold maxLen at hcb hcd
      have s0 : (0 : Int) ≤ (s : Int) := by omega
      have s1 : (0 : Int) ≤ 1 - (s : Int) := by omega
      have s2 : 1 - (s : Int) < 2 := by omega
      have s3 : (1 - (s : Int)).toNat = 1 - s := by omega
      go_wp2_with fail
      clear d1 d2 s1 s2 s3
      go_loopw [18] (fun i wr => ∃ k : Nat, k ≤ 128 ∧ i = .int .i64 k ∧ wr = w6) (fun i _ => 128 - (intOf i).toNat)
      case atStart => exact ⟨0, by omega, rfl, rfl⟩
      case round =>
        obtain ⟨i, hi, rfl, hwr⟩ := hrel
        subst hwr
        by_cases hlt : i < 128
        · obtain ⟨bc, oc, hbc, hc9⟩ := HC.out i hlt
          subst hbc
          have hcb1 := R6.cell (i := i) (by rw [u8s_length, HBL.out]; exact hlt)
          rw [u8s_getD _ _ (by rw [HBL.out]; exact hlt)] at hcb1
          have HX := orRange_getD bs (s * 64) 64 255 i (by rw [HBL.out]; exact hlt)
          rw [← F3.out] at HX
          have hyb := hby i
          have i0 : (0 : Int) ≤ (i : Int) := by omega
          have i1 : (i : Int) < 128 := by omega
          generalize bs.getD i 0 = y at hcb1 HX hyb
          have N6 := Lib.hid N6
          clear R6 HC
          by_cases hin : s * 64 ≤ i ∧ i < s * 64 + 64
          · rw [if_pos hin] at HX
            rw [or_ff hyb.1 hyb.2] at HX
            rw [HX] at hc9
            have e1 : ((i : Int) / 64 == (s : Int)) = true := by simp; omega
            clear HX hin
            go_wp2
            go_roundw
            case rel => exact ⟨i + 1, by omega, by go_num, by first | rfl | trivial⟩
            case measure => simp [intOf]; omega
          · rw [if_neg hin] at HX
            rw [HX] at hc9
            have e1 : ((i : Int) / 64 == (s : Int)) = false := by simp; omega
            clear HX hin
            go_wp2
            go_roundw
            case rel => exact ⟨i + 1, by omega, by go_num, by first | rfl | trivial⟩
            case measure => simp [intOf]; omega
        · have M9 := Lib.hid N6
          clear N6 R6
          go_wp2_with fail
          refine (awake_ok wr).mono ?_
          rintro e w11 ⟨rfl, hmm⟩
          go_wp2
          go_ret
          exact ⟨rfl, M9.out.trans hmm⟩

    · go_wp2_with fail
      refine (arm_ok w1 p _ I1 1 torn).mono ?_
      rintro e w2 ⟨rfl, I2, M2⟩
      have FC := erases_facts bs s (by omega) true torn ((Dev.with bs).arm 1 torn) rfl
      have HST := Lib.hid (show ((Dev.with bs).arm 1 torn).steps = 128 by rw [Dev.arm_up rfl]; rfl)
      have HW := Lib.hid (wears_small (D := (Dev.with bs).arm 1 torn) (fun i => by rw [Dev.arm_up rfl]; simp only [Dev.with, Dev.fresh, getD_replicate]; split <;> rfl))
      have ok1 := arm_Ok okw 1 torn (by omega) ht0 ht1
      generalize (Dev.with bs).arm 1 torn = D1 at FC HST HW I2 ok1
      simp only [if_true] at FC
      have R2 := R1.mods M2 (by have := HE.out; simp [DevAt.foot] at this ⊢; exact this.1)
      have N2 : Mods [] w w2 := M1.comp M2 (by intro j hj; simp at hj; subst hj; exact .inr (HF.out _ (by simp [DevAt.foot])))
      clear I1 R1 M1 M2 okw
      go_wp2_with fail
      refine (erase_ok w2 p D1 I2 ok1 (s : Int) (by rw [HST.out]; omega) HW.out).mono ?_
      rintro e w3 ⟨rfl, I3, M3⟩
      have ok3 := erase_Ok ok1 (s : Int)
      obtain ⟨f1, f2, f3, f4, f5, f6⟩ := FC
      rw [f1]
      generalize (D1.erase (s : Int)).2 = D2 at f2 f3 f4 f5 f6 I3 ok3
      have R3 := R2.mods M3 HE.out
      have N3 : Mods [] w w3 := N2.comp M3 (fun j hj => .inr (HF.out j hj))
      have F2 := Lib.hid f2
      have F3 := Lib.hid f3
      have F4 := Lib.hid f4
      have F5 := Lib.hid f5
      have F6 := Lib.hid f6
      clear I2 R2 N2 M3 ok1 f1 f2 f3 f4 f5 f6
      go_wp2_with fail
      refine (down_ok w3 p D2 I3).mono ?_
      rintro e w3' ⟨rfl, rfl⟩
      rw [F2.out]
      go_wp2_with fail
      refine (restore_ok w3 p D2 I3).mono ?_
      rintro e w4 ⟨rfl, I4, M4⟩
      have I4 : IsDev w4 p D2.restore := I4
      have ok4 := restore_Ok ok3
      have R4 := R3.mods M4 (by have := HE.out; simp [DevAt.foot] at this ⊢; exact this.1)
      have N4 : Mods [] w w4 := N3.comp M4 (by intro j hj; simp at hj; subst hj; exact .inr (HF.out _ (by simp [DevAt.foot])))
      have E3 := Lib.hid (show D2.restore.read 0 128 = (D2.data, 0) by
        have hlen2 : D2.data.length = 128 := by rw [F3.out, orRange_len]; exact HBL.out
        have hf : fits D2.restore 0 128 = true := by simp [fits, Dev.restore, hlen2]
        rw [Dev.read, if_neg (by simp [Dev.restore]), if_pos hf]
        simp only [Dev.restore, Prod.mk.injEq, and_true]
        exact List.take_of_length_le (by simp [hlen2]))
      clear I3 R3 N3 M4 ok3
      go_wp2_with fail
      refine (read_ok w4 p D2.restore I4 ok4 0 128).mono ?_
      rw [E3.out]
      rintro e w5 ⟨v5, rfl, O5, M5⟩
      have I5 := I4.mods0 M5
      have R5 := R4.mods M5 (by simp)
      have N5 := N4.trans M5
      clear I4 R4 N4 M5
      go_wp2_with fail
      refine (wear_ok w5 p D2.restore I5 ok4).mono ?_
      rintro e w6 ⟨v6, rfl, O6, M6⟩
      have R6 := R5.mods M6 (by simp)
      have N6 := N5.trans M6
      have C5 := M6.owns O5 (fun _ _ => by simp)
      obtain ⟨a5, c5, rfl, hca, hcb, HC⟩ := (Rd.own C5).u8
      obtain ⟨a6, c6, rfl, hcc, hcd, HD⟩ := (Rd.own O6).i64
      have hl5 : D2.data.length = 128 := by rw [F3.out, orRange_len]; exact HBL.out
      have hl6 : D2.restore.wear.length = 2 := F4.out
      rw [hl5] at hca HC ⊢
      rw [hl6] at hcc HD ⊢
      obtain ⟨g6, o6, rfl, d1⟩ := HD s (by omega)
      obtain ⟨g6', o6', e6, d2⟩ := HD (1 - s) (by omega)
      simp only [Option.some.injEq, Addr.mk.injEq, and_true] at e6
      obtain ⟨rfl, rfl⟩ := e6
      rw [show D2.restore.wear.getD s 0 = 1 from F5.out] at d1
      rw [show D2.restore.wear.getD (1 - s) 0 = 0 from F6.out] at d2
      have HC := Lib.hid HC
      clear R5 N5 I5 M6 O5 C5 O6 hl5 hl6 HD E3
      unfold maxLen at hcb hcd
      have s0 : (0 : Int) ≤ (s : Int) := by omega
      have s1 : (0 : Int) ≤ 1 - (s : Int) := by omega
      have s2 : 1 - (s : Int) < 2 := by omega
      have s3 : (1 - (s : Int)).toNat = 1 - s := by omega
      go_wp2_with fail
      clear d1 d2 s1 s2 s3
      go_loopw [18] (fun i wr => ∃ k : Nat, k ≤ 128 ∧ i = .int .i64 k ∧ wr = w6) (fun i _ => 128 - (intOf i).toNat)
      case atStart => exact ⟨0, by omega, rfl, rfl⟩
      case round =>
        obtain ⟨i, hi, rfl, hwr⟩ := hrel
        subst hwr
        by_cases hlt : i < 128
        · obtain ⟨bc, oc, hbc, hc9⟩ := HC.out i hlt
          subst hbc
          have hcb1 := R6.cell (i := i) (by rw [u8s_length, HBL.out]; exact hlt)
          rw [u8s_getD _ _ (by rw [HBL.out]; exact hlt)] at hcb1
          have HX := orRange_getD bs (s * 64) 64 torn i (by rw [HBL.out]; exact hlt)
          rw [← F3.out] at HX
          have hyb := hby i
          have i0 : (0 : Int) ≤ (i : Int) := by omega
          have i1 : (i : Int) < 128 := by omega
          generalize bs.getD i 0 = y at hcb1 HX hyb
          have N6 := Lib.hid N6
          clear R6 HC
          by_cases hin : s * 64 ≤ i ∧ i < s * 64 + 64
          · rw [if_pos hin] at HX
            skip
            rw [HX] at hc9
            have e1 : ((i : Int) / 64 == (s : Int)) = true := by simp; omega
            clear HX hin
            go_wp2
            go_roundw
            case rel => exact ⟨i + 1, by omega, by go_num, by first | rfl | trivial⟩
            case measure => simp [intOf]; omega
          · rw [if_neg hin] at HX
            rw [HX] at hc9
            have e1 : ((i : Int) / 64 == (s : Int)) = false := by simp; omega
            clear HX hin
            go_wp2
            go_roundw
            case rel => exact ⟨i + 1, by omega, by go_num, by first | rfl | trivial⟩
            case measure => simp [intOf]; omega
        · have M9 := Lib.hid N6
          clear N6 R6
          go_wp2_with fail
          refine (awake_ok wr).mono ?_
          rintro e w11 ⟨rfl, hmm⟩
          go_wp2
          go_ret
          exact ⟨rfl, M9.out.trans hmm⟩

  · have hd : decide (L.length ≤ 600) = false := by simpa using hl
    clear hl
    go_enter Try.func8, Try.ntmps8
    go_wp2_with fail
    refine (light_ok w v L hv).mono ?_
    rintro e w' ⟨rfl, rfl⟩
    clear hv
    go_wp2_with fail
    refine (awake_ok w).mono ?_
    rintro e w' ⟨rfl, hm⟩
    go_wp2
    go_ret
    exact ⟨rfl, hm⟩
end Go.Proofs.Ytjdimdebplggnaa
