/- FlashFails: the walk. -/
import Derived.Test.YtjdimdebplggnaaFlashLaw
namespace Go.Proofs.Ytjdimdebplggnaa
open Go.RowKit

/-- The device of 'made'. -/
def Dev.with (bs : List Int) : Dev := { Dev.fresh 2 64 with data := bs, steps := 128 }
theorem Dev.with_ok {bs : List Int} (hl : bs.length = 128) (hb : Bytes bs) : (Dev.with bs).Ok :=
  ⟨by simp [Dev.with, hl], by simp [Dev.with, Dev.fresh], by simp [Dev.with, Dev.fresh, hl], by simp [Dev.with, Dev.fresh], by simp [Dev.with, Dev.fresh], hb, by simp [Dev.with, Dev.fresh], by simp [Dev.with], by simp [Dev.with, Dev.fresh], by intro i; simp only [Dev.with, Dev.fresh, getD_replicate]; split <;> omega⟩

theorem bytes_snoc {ds : List Int} (h : Bytes ds) {x : Int} (h0 : 0 ≤ x) (h1 : x ≤ 255) : Bytes (ds ++ [x]) := by
  intro i
  rw [List.getD_eq_getElem?_getD]
  rcases Nat.lt_or_ge i ds.length with hi | hi
  · rw [List.getElem?_append_left hi, ← List.getD_eq_getElem?_getD]; exact h i
  · rw [List.getElem?_append_right hi]
    match i - ds.length with
    | 0 => simp; omega
    | n + 1 => simp

/-- The device of FlashFails behind the failure. -/
theorem fails_prog {bs ds : List Int} {a q : Nat} {t : Int} (ha : a < 100) (hq : q < 28) (hbl : bs.length = 128) (hdl : ds.length = 28) :
    ((Dev.with bs).arm (1 + (q : Int)) t).program a ds = (10, ((Dev.with bs).arm (1 + (q : Int)) t).tornAt a ds (q + 1)) := by
  have e : (Dev.with bs).arm (1 + (q : Int)) t = { Dev.with bs with left := 1 + (q : Int), torn := t } := by
    rw [Dev.arm_up rfl]; congr 1; omega
  rw [e]
  have hf : fits { Dev.with bs with left := 1 + (q : Int), torn := t } (a : Int) (ds.length : Int) = true := by simp [fits, Dev.with, hbl, hdl]; omega
  rw [Dev.program, if_neg (by simp [Dev.with, Dev.fresh]), if_pos hf]
  exact run_torn ds _ _ (q + 1) rfl (by simp only; omega) (by omega) (by omega)
theorem fails_getD {bs ds : List Int} {a q i : Nat} {t : Int} (_ha : a < 100) (hq : q < 28) (hbl : bs.length = 128) (hdl : ds.length = 28) (hi : i < 128) :
    (((Dev.with bs).arm (1 + (q : Int)) t).tornAt a ds (q + 1)).data.getD i 0 = if i = a + q then bits .and .u8 (bs.getD i 0) (bits .or .u8 (ds.getD q 0) t) else if a ≤ i ∧ i < a + q then bits .and .u8 (bs.getD i 0) (ds.getD (i - a) 0) else bs.getD i 0 := by
  have e : (Dev.with bs).arm (1 + (q : Int)) t = { Dev.with bs with left := 1 + (q : Int), torn := t } := by
    rw [Dev.arm_up rfl]; congr 1; omega
  rw [e]
  simp only [Dev.tornAt, Dev.with, getD_set, andAt_len, show a + (q + 1) - 1 = a + q from rfl, show q + 1 - 1 = q from rfl]
  by_cases h1 : a + q = i
  · subst h1
    rw [if_pos ⟨rfl, by omega⟩, if_pos rfl]
  · rw [if_neg (by omega), if_neg (by omega), andAt_getD _ _ _ _ (by omega)]
    have hlt : (ds.take q).length = q := by simp; omega
    rw [hlt]
    by_cases h2 : a ≤ i ∧ i < a + q
    · rw [if_pos h2, if_pos h2]
      congr 1
      simp only [List.getD_eq_getElem?_getD, List.getElem?_take]
      rw [if_pos (by omega)]
    · rw [if_neg h2, if_neg h2]

set_option maxRecDepth 100000 in
set_option maxHeartbeats 2000000 in
theorem flashFails_walk (w : World) (v : Value) (L : List Int) (hv : Rd w v (i64s L)) (hb : ∀ i, I64 (L.getD i 0)) (at_ n torn : Int) (h_at : I64 at_) (h_n : I64 n) (ht0 : 0 ≤ torn) (ht1 : torn ≤ 255) :
    Calls Try.prog 3 #[v, .int .i64 at_, .int .i64 n, .int .u8 torn] w fun e w' => e = .returned (.bool true) ∧ Mods [] w w' := by
  by_cases hl : L.length ≤ 600
  · have hd : decide (L.length ≤ 600) = true := by simpa using hl
    have HVB := Lib.hid (show L ≠ [] → ∀ k, v.ownBlock = some k → k < w.heap.size from fun hl => hv.block_lt (fun e => hl (List.eq_nil_of_length_eq_zero (by rw [← i64s_length, e]; rfl))))
    have HV := Lib.hid hv
    have HB := Lib.hid hb
    clear hv hb
    obtain ⟨i0, hi, hz0, hz1, hz2⟩ := info_parts Try.infoB
    go_enter Try.func3, Try.ntmps3
    go_wp2_with fail
    refine (light_ok w v L HV.out).mono ?_
    rintro e w' ⟨rfl, rfl⟩
    go_wp2_with fail
    refine (made_ok w v L HV.out (by omega) HB.out).mono ?_
    rintro e w1 ⟨p, gb, bs, rfl, hbl, hby, I1, R1, M1, F1, G1, E1⟩
    have HBL := Lib.hid hbl
    have HF := Lib.hid F1
    have HE := Lib.hid E1
    have HLT := Lib.hid I1.lt
    have hgl := R1.lt
    have z1 := M1.size
    clear hbl F1 E1
    go_wp2_with fail
    refine (roll_ok w1 v L (HV.out.mods0 M1) (by omega) HB.out).mono ?_
    rintro e w2 ⟨rfl, J2, M2, Z2⟩
    have I2 : IsDev w2 p (Dev.with bs) := I1.mods0 M2
    have R2 := R1.mods M2 (by simp)
    have N2 := M1.trans M2
    clear I1 R1
    go_wp2_with fail
    refine (mod_ok at_ 100 w2 h_at (by omega) (by omega)).mono ?_
    rintro e w2' ⟨rfl, rfl⟩
    have a0 := Int.emod_nonneg at_ (show (100 : Int) ≠ 0 by omega)
    have a1 := Int.emod_lt_of_pos at_ (show (0 : Int) < 100 by omega)
    obtain ⟨a, ha⟩ := Int.eq_ofNat_of_zero_le a0
    rw [ha] at a1 ⊢
    clear a0 ha
    go_wp2_with fail
    go_loopw [13, 14] (fun d i wr => ∃ (k n2 : Nat) (ds : List Int), k ≤ 28 ∧ i = .int .i64 k ∧ ds.length = k ∧ Bytes ds ∧ wr.ownsRow w2.heap.size 5 1 d k (u8s ds) ∧ IsDice wr w1.heap.size v L n2 ∧ IsDev wr p (Dev.with bs) ∧ RowAt wr gb 5 128 (u8s bs) ∧ Mods [] w wr ∧ w2.heap.size ≤ wr.heap.size) (fun _ i _ => 28 - (intOf i).toNat)
    case atStart => exact ⟨0, 0, [], by omega, rfl, rfl, by intro i; simp, World.ownsRow_nil _ _ _ _, J2, I2, R2, N2, Nat.le_refl _⟩
    case round =>
      obtain ⟨k, n2, ds, hk, rfl, hdl, hdb, O, J, I, R, hm, hz⟩ := hrel
      clear I2 J2 R2 N2
      have HDL := Lib.hid hdl
      clear hdl
      by_cases hlt : k < 28
      · go_wp2_with fail
        refine (byte_ok wr _ v L n2 J).mono ?_
        rintro e w4 ⟨r, n', rfl, h1, h2, J4, M4⟩
        have lt5 := J4.lt
        have O4 := M4.owns O (fun j hj => by have := O.lt j hj; simp; omega)
        have z4 := M4.size
        go_wp2_with (at_builtin; refine wpList_push rfl (.tmp 44) (.tmp 51) 26 rfl w2.heap.size 5 i0 (.int .u8 0) 1 Try.underlying26 hi hz0 hz1 hz2 rfl _ _ _ rfl O4 _ _ rfl rfl (by omega) (by omega) (by omega) ?_)
        intro v' w5 hown' M5
        have hb5 := bytes_snoc hdb (bits_byte .xor r (7 * (k : Int))).1 (bits_byte .xor r (7 * (k : Int))).2
        have O5 := Lib.hid (own_u8 hown')
        have J5 := Lib.hid (J4.mods M5 (fun hj => by have := mem_from hj; omega) (fun hL j hj hj2 => by have := mem_from hj2; have := HVB.out hL j hj; omega))
        have I5 := Lib.hid ((I.mods M4 (fun j hj => by have := HLT.out j hj; simp; omega)).mods M5 (fun j hj hj2 => by have := mem_from hj2; have := HLT.out j hj; omega))
        have R5 := Lib.hid ((R.mods M4 (by simp; omega)).mods M5 (fun hj2 => by have := mem_from hj2; omega))
        have hm5 := Lib.hid ((hm.comp M4 (by intro j hj; simp at hj; subst hj; exact .inr (by omega))).then_from M5 (by omega))
        have z5 := M5.size
        clear O J I R hm O4 J4 M4 hown' M5
        go_wp2
        go_roundw
        case rel => exact ⟨k + 1, n', _, by omega, by go_num, by rw [List.length_append, HDL.out]; rfl, hb5, O5.out, J5.out, I5.out, R5.out, hm5.out, by omega⟩
        case measure => simp [intOf]; omega
      · have e : k = 28 := by omega
        subst e
        go_wp2_with fail
        refine (mod_ok n 28 wr h_n (by omega) (by omega)).mono ?_
        rintro e w2' ⟨rfl, rfl⟩
        have a0 := Int.emod_nonneg n (show (28 : Int) ≠ 0 by omega)
        have a2 := Int.emod_lt_of_pos n (show (0 : Int) < 28 by omega)
        obtain ⟨q, hq⟩ := Int.eq_ofNat_of_zero_le a0
        rw [hq] at a2 ⊢
        clear a0 hq
        have HP := Lib.hid (fails_prog (t := torn) (by omega : a < 100) (by omega : q < 28) HBL.out HDL.out)
        have HG := Lib.hid (fun i => fails_getD (i := i) (t := torn) (by omega : a < 100) (by omega : q < 28) HBL.out HDL.out)
        have okw := Dev.with_ok HBL.out hby
        have ok1 := arm_Ok okw (1 + (q : Int)) torn (by omega) ht0 ht1
        have hst : ((Dev.with bs).arm (1 + (q : Int)) torn).steps = 128 := by rw [Dev.arm_up rfl]; rfl
        have hst2 : (((Dev.with bs).arm (1 + (q : Int)) torn).tornAt a ds (q + 1)).steps = 128 + (1 + (q : Int)) := by simp only [Dev.tornAt, hst]; omega
        have hlen2 : (((Dev.with bs).arm (1 + (q : Int)) torn).tornAt a ds (q + 1)).data.length = 128 := by
          simp only [Dev.tornAt, List.length_set, andAt_len]; rw [Dev.arm_up rfl]; exact HBL.out
        have hdn2 : (((Dev.with bs).arm (1 + (q : Int)) torn).tornAt a ds (q + 1)).down = true := rfl
        have ok2 := program_Ok ok1 a ds
        rw [HP.out] at ok2
        go_wp2_with fail
        refine (arm_ok wr p _ I (1 + (q : Int)) torn).mono ?_
        rintro e w4 ⟨rfl, I4, M4⟩
        generalize (Dev.with bs).arm (1 + (q : Int)) torn = D1 at HP HG ok1 hst hst2 hlen2 hdn2 ok2 I4
        generalize D1.tornAt a ds (q + 1) = D2 at HP HG hst2 hlen2 hdn2 ok2
        have E1 := Lib.hid (show D2.read 0 1 = ([], 10) by rw [Dev.read, if_pos hdn2])
        have E2 := Lib.hid (show D2.program 0 [] = (10, D2) by rw [Dev.program, if_pos hdn2])
        have E3 := Lib.hid (show D2.restore.read 0 128 = (D2.data, 0) by
          have hf : fits D2.restore 0 128 = true := by simp [fits, Dev.restore, hlen2]
          rw [Dev.read, if_neg (by simp [Dev.restore]), if_pos hf]
          simp only [Dev.restore, Prod.mk.injEq, and_true]
          exact List.take_of_length_le (by simp [hlen2]))
        have HS1 := Lib.hid hst
        have HS2 := Lib.hid hst2
        have HLN := Lib.hid hlen2
        have O4 := M4.owns O (fun j hj => by have := O.lt j hj; have := HLT.out p.b (by simp [DevAt.foot]); simp; omega)
        have R4 := R.mods M4 (by have := HE.out; simp [DevAt.foot] at this ⊢; exact this.1)
        have hm4 : Mods [] w w4 := hm.comp M4 (by intro j hj; simp at hj; subst hj; exact .inr (HF.out _ (by simp [DevAt.foot])))
        clear O R hm J I M4 hst hst2 hlen2 hdn2 hi hz0 hz1 hz2
        go_wp2_with fail
        refine (program_ok w4 p D1 I4 ok1 (a : Int) u13 ds (Rd.own O4) hdb (fun _ j hj => by have := O4.lt j hj; have h1 := HLT.out p.b (by simp [DevAt.foot]); have h2 := HLT.out p.g (by simp [DevAt.foot]); simp; omega) (by rw [HS1.out]; omega)).mono ?_
        rintro e w5 ⟨rfl, I5, M5⟩
        rw [HP.out] at I5 ⊢
        have O5 := M5.owns O4 (fun j hj => by have := O4.lt j hj; have h1 := HLT.out p.b (by simp [DevAt.foot]); have h2 := HLT.out p.g (by simp [DevAt.foot]); simp; omega)
        have R5 := R4.mods M5 (by have := HE.out; simp [DevAt.foot] at this ⊢; exact ⟨this.1, this.2.1⟩)
        have hm5 : Mods [] w w5 := hm4.comp M5 (by intro j hj; simp at hj; rcases hj with rfl | rfl <;> exact .inr (HF.out _ (by simp [DevAt.foot])))
        clear O4 R4 hm4 M5 I4
        go_wp2_with fail
        refine (read_ok w5 p D2 I5 ok2 0 1).mono ?_
        rw [E1.out]
        rintro e w6 ⟨v6, rfl, _, M6⟩
        have I6 := I5.mods0 M6
        have O6 := M6.owns O5 (fun _ _ => by simp)
        have R6 := R5.mods M6 (by simp)
        have hm6 := hm5.trans M6
        clear I5 O5 R5 hm5 M6
        go_wp2_with fail
        refine (program_ok w6 p D2 I6 ok2 0 _ [] (Rd.nil _) (by intro i; simp) (fun h => absurd rfl h) (by rw [HS2.out]; omega)).mono ?_
        rintro e w7 ⟨rfl, I7, M7⟩
        rw [E2.out] at I7 ⊢
        have O7 := M7.owns O6 (fun j hj => by have := O6.lt j hj; have h1 := HLT.out p.b (by simp [DevAt.foot]); have h2 := HLT.out p.g (by simp [DevAt.foot]); simp; omega)
        have R7 := R6.mods M7 (by have := HE.out; simp [DevAt.foot] at this ⊢; exact ⟨this.1, this.2.1⟩)
        have hm7 : Mods [] w w7 := hm6.comp M7 (by intro j hj; simp at hj; rcases hj with rfl | rfl <;> exact .inr (HF.out _ (by simp [DevAt.foot])))
        clear O6 R6 hm6 M7 I6
        go_wp2_with fail
        refine (restore_ok w7 p D2 I7).mono ?_
        rintro e w8 ⟨rfl, I8, M8⟩
        have O8 := M8.owns O7 (fun j hj => by have := O7.lt j hj; have := HLT.out p.b (by simp [DevAt.foot]); simp; omega)
        have R8 := R7.mods M8 (by have := HE.out; simp [DevAt.foot] at this ⊢; exact this.1)
        have hm8 : Mods [] w w8 := hm7.comp M8 (by intro j hj; simp at hj; subst hj; exact .inr (HF.out _ (by simp [DevAt.foot])))
        clear O7 R7 hm7 M8 I7
        go_wp2_with fail
        refine (read_ok w8 p D2.restore I8 (restore_Ok ok2) 0 128).mono ?_
        rw [E3.out]
        rintro e w9 ⟨v9, rfl, O9, M9⟩
        have I9 : IsDev w9 p D2.restore := IsDev.mods0 I8 M9
        have R9 := R8.mods M9 (by simp)
        have OD := M9.owns O8 (fun _ _ => by simp)
        have hm9 := hm8.trans M9
        obtain ⟨gd, capd, _, rfl, _⟩ := owns_form OD (by omega)
        have RD := RowAt.of_owns OD
        obtain ⟨ad, cap9, rfl, hca, hcb, HC⟩ := (Rd.own O9).u8
        rw [HLN.out] at hca HC ⊢
        have HC := Lib.hid HC
        clear R8 O8 hm8 M9 I8 O9 OD HP E1 E2 E3
        unfold maxLen at hcb
        go_wp2_with fail
        refine (steps_ok w9 p D2.restore I9).mono ?_
        rintro e w10 ⟨rfl, rfl⟩
        rw [show D2.restore.steps = 128 + (1 + (q : Int)) from HS2.out]
        clear I9
        go_wp2_with fail
        go_loopw [21] (fun i wr => ∃ k : Nat, k ≤ 128 ∧ i = .int .i64 k ∧ ∃ nd, wr = w9.drewN nd) (fun i _ => 128 - (intOf i).toNat)
        case atStart => exact ⟨0, by omega, rfl, 0, rfl⟩
        case round =>
          obtain ⟨i, hi, rfl, nd, rfl⟩ := hrel
          by_cases hlt : i < 128
          · obtain ⟨bc, oc, hbc, hc9⟩ := HC.out i hlt
            subst hbc
            have hcb1 := R9.cell (i := i) (by rw [u8s_length, HBL.out]; exact hlt)
            rw [u8s_getD _ _ (by rw [HBL.out]; exact hlt)] at hcb1
            have HX := HG.out i hlt
            have i0 : (0 : Int) ≤ (i : Int) := by omega
            have i1 : (i : Int) < 128 := by omega
            obtain ⟨y, hy⟩ : ∃ y, y = bs.getD i 0 := ⟨_, rfl⟩
            rw [← hy] at hcb1 HX
            clear hy
            have M9 := Lib.hid hm9
            clear R9 hm9 HG HC
            by_cases hA : i < a
            · rw [if_neg (by omega), if_neg (by omega)] at HX
              rw [HX] at hc9
              clear HX RD
              go_wp2
              go_roundw
              case rel => exact ⟨i + 1, by omega, by go_num, nd, rfl⟩
              case measure => simp [intOf]; omega
            · obtain ⟨j, hj⟩ : ∃ j, i = a + j := ⟨i - a, by omega⟩
              have hij : (i : Int) - (a : Int) = (j : Int) := by omega
              by_cases hB : j < q
              · rw [if_neg (by omega), if_pos (by omega), show i - a = j from by omega] at HX
                rw [HX] at hc9
                have hdj := RD.cell (i := j) (by rw [u8s_length, HDL.out]; omega)
                rw [u8s_getD _ _ (by rw [HDL.out]; omega)] at hdj
                generalize ds.getD j 0 = z at hdj hc9
                have j0 : (0 : Int) ≤ (j : Int) := by omega
                have j1 : (j : Int) < 28 := by omega
                have j2 : ((j : Int)).toNat = j := by omega
                clear HX RD hj
                go_wp2_with fail
                go_quiet (fail)
                go_wp2
                go_roundw
                case rel => exact ⟨i + 1, by omega, by go_num, nd + nq, by first | rfl | rw [World.drewN_drewN]⟩
                case measure => simp [intOf]; omega
              · by_cases hC : j = q
                · subst hC
                  rw [if_pos hj] at HX
                  rw [HX] at hc9
                  have hdj := RD.cell (i := j) (by rw [u8s_length, HDL.out]; omega)
                  rw [u8s_getD _ _ (by rw [HDL.out]; omega)] at hdj
                  generalize ds.getD j 0 = z at hdj hc9
                  have j0 : (0 : Int) ≤ (j : Int) := by omega
                  have j1 : (j : Int) < 28 := by omega
                  have j2 : ((j : Int)).toNat = j := by omega
                  clear HX RD hj hB
                  go_wp2_with fail
                  go_quiet (fail)
                  go_wp2
                  go_roundw
                  case rel => exact ⟨i + 1, by omega, by go_num, nd + nq, by first | rfl | rw [World.drewN_drewN]⟩
                  case measure => simp [intOf]; omega
                · rw [if_neg (by omega), if_neg (by omega)] at HX
                  rw [HX] at hc9
                  have e1 : ((j : Int) == (q : Int)) = false := by simp; omega
                  have e2 : ¬ (j : Int) < (q : Int) := by omega
                  clear HX RD hj
                  go_wp2
                  go_roundw
                  case rel => exact ⟨i + 1, by omega, by go_num, nd, rfl⟩
                  case measure => simp [intOf]; omega
          · have M9 := Lib.hid hm9
            clear hm9 RD R9
            go_wp2_with fail
            refine (awake_ok (w9.drewN nd)).mono ?_
            rintro e w11 ⟨rfl, hmm⟩
            go_wp2
            go_ret
            exact ⟨rfl, (M9.out.drewN nd).trans hmm⟩
  · have hd : decide (L.length ≤ 600) = false := by simpa using hl
    clear hl
    go_enter Try.func3, Try.ntmps3
    go_wp2_with fail
    refine (light_ok w v L hv).mono ?_
    rintro e w' ⟨rfl, rfl⟩
    clear hv
    go_wp2_with fail
    refine (awake_ok w).mono ?_
    rintro e w' ⟨rfl, hm⟩
    go_wp2
    go_ret
    exact ⟨rfl, hm⟩
end Go.Proofs.Ytjdimdebplggnaa
