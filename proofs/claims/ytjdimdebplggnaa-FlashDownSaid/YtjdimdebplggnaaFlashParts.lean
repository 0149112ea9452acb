/- FlashParts: the walk. -/
import Derived.Test.YtjdimdebplggnaaFlashSteps
import Derived.Test.YtjdimdebplggnaaAppendG
import Derived.Deep.RegionWith
namespace Go.Proofs.Ytjdimdebplggnaa
open Go.RowKit
theorem Dev.ext7 {a b : Dev} (h1 : a.size = b.size) (h2 : a.data = b.data) (h3 : a.wear = b.wear) (h4 : a.steps = b.steps) (h5 : a.left = b.left) (h6 : a.torn = b.torn) (h7 : a.down = b.down) : a = b := by
  cases a; cases b; simp only at h1 h2 h3 h4 h5 h6 h7; subst h1 h2 h3 h4 h5 h6 h7; rfl
/-- The device of two Programs. -/
def Dev.parts1 (bs : List Int) (k : Nat) : Dev := (Dev.fresh 2 64).ran k (bs.drop k)
set_option maxRecDepth 100000 in
theorem parts_facts {bs : List Int} (hl : bs.length = 128) (hb : Bytes bs) {k : Nat} (hk : k ≤ 128) :
    (Dev.fresh 2 64).program k (bs.drop k) = (0, Dev.parts1 bs k) ∧ (Dev.parts1 bs k).program 0 (bs.take k) = (0, { Dev.with bs with steps := 128 }) ∧ (Dev.parts1 bs k).steps = (128 - k : Nat) := by
  have h1 := prog_up (D := Dev.fresh 2 64) (n := k) (l := bs.drop k) rfl (by simp [Dev.fresh]) (by simp only [List.length_drop, hl, Dev.fresh, List.length_replicate]; omega)
  have h2 := prog_up (D := Dev.parts1 bs k) (n := 0) (l := bs.take k) rfl (by simp [Dev.parts1, Dev.ran, Dev.fresh]) (by simp only [Dev.parts1, Dev.ran, andAt_len, Dev.fresh, List.length_replicate, List.length_take, hl]; omega)
  refine ⟨h1, ?_, by simp [Dev.parts1, Dev.ran, Dev.fresh, hl]⟩
  rw [show ((0 : Nat) : Int) = (0 : Int) from rfl] at h2
  rw [h2]
  refine congrArg (Prod.mk 0) (Dev.ext7 rfl ?_ rfl ?_ ?_ rfl rfl)
  · simp only [Dev.ran, Dev.parts1, Dev.with]
    generalize hF : (Dev.fresh 2 64).data = F at *
    have hFl : F.length = 128 := by rw [← hF]; simp only [Dev.fresh, List.length_replicate]
    have hFg : ∀ j, j < 128 → F.getD j 0 = 255 := fun j hj => by rw [← hF]; simp only [Dev.fresh, getD_replicate]; rw [if_pos (by omega)]
    clear hF h1 h2
    refine ext_getD (by rw [andAt_len, andAt_len, hFl, hl]) fun j hj => ?_
    rw [andAt_len, andAt_len, hFl] at hj
    rw [andAt_getD _ _ _ _ (by rw [andAt_len, hFl]; exact hj), andAt_getD _ _ _ _ (by rw [hFl]; exact hj), hFg j hj]
    have hyb := hb j
    by_cases hjk : j < k
    · rw [if_pos (by simp only [List.length_take, hl]; omega), if_neg (by omega)]
      have e : (bs.take k).getD (j - 0) 0 = bs.getD j 0 := by simp only [List.getD_eq_getElem?_getD, List.getElem?_take, Nat.sub_zero]; rw [if_pos hjk]
      rw [e]
      exact and_ff hyb.1 hyb.2
    · rw [if_neg (by simp only [List.length_take, hl]; omega), if_pos (by simp only [List.length_drop, hl]; omega)]
      have e : (bs.drop k).getD (j - k) 0 = bs.getD j 0 := by simp only [List.getD_eq_getElem?_getD, List.getElem?_drop, show k + (j - k) = j from by omega]
      rw [e]
      exact and_ff hyb.1 hyb.2
  · simp only [Dev.ran, Dev.parts1, Dev.fresh, List.length_drop, List.length_take, hl]; omega
  · simp [Dev.ran, Dev.parts1, Dev.with, Dev.fresh]

theorem with_read {bs : List Int} (hl : bs.length = 128) {a n : Nat} (h : a + n ≤ 128) : (Dev.with bs).read a n = ((bs.drop a).take n, 0) := by
  have hf : fits (Dev.with bs) a n = true := by simp [fits, Dev.with, hl]; omega
  rw [Dev.read, if_neg (by simp [Dev.with, Dev.fresh]), if_pos hf]
  rfl
theorem bytes_take {l : List Int} (h : Bytes l) (k : Nat) : Bytes (l.take k) := by
  intro i
  rw [List.getD_eq_getElem?_getD, List.getElem?_take]
  split
  · rw [← List.getD_eq_getElem?_getD]; exact h i
  · simp
theorem bytes_drop {l : List Int} (h : Bytes l) (k : Nat) : Bytes (l.drop k) := by
  intro i
  rw [List.getD_eq_getElem?_getD, List.getElem?_drop, ← List.getD_eq_getElem?_getD]
  exact h _

set_option maxRecDepth 100000 in
set_option maxHeartbeats 2000000 in
theorem flashParts_walk (w : World) (v : Value) (L : List Int) (hv : Rd w v (i64s L)) (hb : ∀ i, I64 (L.getD i 0)) (cut at_ : Int) (h_c : I64 cut) (h_a : I64 at_) :
    Calls Try.prog 4 #[v, .int .i64 cut, .int .i64 at_] w fun e w' => e = .returned (.bool true) ∧ Mods [] w w' := by
  by_cases hl : L.length ≤ 600
  · have hd : decide (L.length ≤ 600) = true := by simpa using hl
    have HV := Lib.hid hv
    have HB := Lib.hid hb
    clear hv hb
    go_enter Try.func4, Try.ntmps4
    go_wp2_with fail
    refine (light_ok w v L HV.out).mono ?_
    rintro e w' ⟨rfl, rfl⟩
    go_wp2_with fail
    refine (made_ok w v L HV.out (by omega) HB.out).mono ?_
    rintro e w1 ⟨p, gb, bs, rfl, hbl, hby, I1, R1, M1, F1, G1, E1⟩
    have HBL := Lib.hid hbl
    have HF := Lib.hid F1
    have HE := Lib.hid E1
    have HLT1 := Lib.hid I1.lt
    have z1 := M1.size
    have hgl := R1.lt
    clear hbl F1 E1
    go_wp2_with fail
    refine (new264 w1).mono ?_
    rintro e w2 ⟨p2, rfl, I2, M2, F2⟩
    have HF2 := Lib.hid F2
    have HLT2 := Lib.hid I2.lt
    have J2 : IsDev w2 p (Dev.with bs) := I1.mods0 M2
    have R2 := R1.mods M2 (by simp)
    have N2 := M1.trans M2
    have z2 := M2.size
    clear I1 R1 M1 M2 F2
    go_wp2_with fail
    refine (mod_ok cut 129 w2 h_c (by omega) (by omega)).mono ?_
    rintro e w2' ⟨rfl, rfl⟩
    have a0 := Int.emod_nonneg cut (show (129 : Int) ≠ 0 by omega)
    have a1 := Int.emod_lt_of_pos cut (show (0 : Int) < 129 by omega)
    obtain ⟨k, hk⟩ := Int.eq_ofNat_of_zero_le a0
    rw [hk] at a1 ⊢
    clear a0 hk
    have FA := Lib.hid (parts_facts HBL.out hby (show k ≤ 128 by omega))
    have okf := Dev.fresh_ok (s := 2) (m := 64) (by omega) (by omega) (by omega)
    have okp : (Dev.parts1 bs k).Ok := by have := program_Ok okf k (bs.drop k); rw [FA.out.1] at this; exact this
    have HST0 := Lib.hid (show (Dev.fresh 2 64).steps = 0 from rfl)
    generalize Dev.fresh 2 64 = D0 at I2 FA okf HST0
    generalize Dev.parts1 bs k = D1 at FA okp
    have e1 : ((128 : Int) - (k : Int)).toNat = 128 - k := by omega
    have k0 : (0 : Int) ≤ (k : Int) := by omega
    have k1 : (k : Int) ≤ 128 := by omega
    by_cases hk : 128 = k
    · subst hk
      have FA : Hid (D0.program 128 (bs.drop 128) = (0, D1) ∧ D1.program 0 (bs.take 128) = (0, { Dev.with bs with steps := 128 }) ∧ D1.steps = ((128 - 128 : Nat) : Int)) := FA.out
      have HR1 := Lib.hid (show Rd w2.drew (.slice (some ⟨gb, 0, none⟩) 0 0) (u8s (bs.drop 128)) by
        have h := cut_rd (k := 128) (m := 0) R2 (by rw [u8s_length, HBL.out]; omega)
        rw [if_pos rfl, u8s_cut, List.take_zero] at h
        rw [List.drop_eq_nil_of_le (by rw [HBL.out]; omega)]
        exact h)
      have HR2 := Lib.hid (show Rd w2.drew (.slice (some ⟨gb, 0, none⟩) 128 128) (u8s (bs.take 128)) by
        have h := cut_rd (k := 0) (m := 128) R2 (by rw [u8s_length, HBL.out]; omega)
        rw [if_neg (by omega), u8s_cut] at h
        exact h)
      have HNE := Lib.hid (show ∀ g, some gb = some g → g ∉ [p2.b, p2.g] by
        intro g hg
        simp only [Option.some.injEq] at hg
        subst hg
        have h1 := HF2.out p2.b (by simp [DevAt.foot])
        have h2 := HF2.out p2.g (by simp [DevAt.foot])
        simp; omega)
      have HS1 := Lib.hid (show D1.steps ≤ 4611686018427000000 by rw [FA.out.2.2]; omega)
      have HS0 := Lib.hid (show D0.steps ≤ 4611686018427000000 by rw [HST0.out]; omega)
      have J2' := J2.drew
      have R2' : RowAt w2.drew gb 5 128 (u8s bs) := R2.mods (S := []) Mods.refl.drew (by simp)
      have N2' := N2.drew
      go_wp2_with fail
      go_region_with (first | (go_at_call 18; refine (program_ok w5 p2 D1 I5 okp 0 _ (bs.take 128) HR25.out (bytes_take hby _) (fun _ => HNE.out) HS1.out).mono ?_; rintro e w6 ⟨rfl, I6, M6⟩; rw [FA.out.2.1] at I6; have E6 := congrArg Prod.fst FA.out.2.1; simp only at E6; rw [E6]) | (go_at_call 18; refine (program_ok w2.drew p2 D0 I2.drew okf 128 _ (bs.drop 128) HR1.out (bytes_drop hby _) (fun _ => HNE.out) HS0.out).mono ?_; rintro e w5 ⟨rfl, I5, M5⟩; rw [FA.out.1] at I5; have E5 := congrArg Prod.fst FA.out.1; simp only at E5; rw [E5]; have HR25 := Lib.hid (HR2.out.mods M5 (fun _ => HNE.out))))
      have I6 : IsDev w6 p2 (Dev.with bs) := I6
      have N6 : Mods [] w w6 := (N2'.comp M5 (by intro j hj; simp at hj; rcases hj with rfl | rfl <;> exact .inr (by have := HF2.out _ (by simp [DevAt.foot] : p2.b ∈ p2.foot); have := HF2.out _ (by simp [DevAt.foot] : p2.g ∈ p2.foot); omega))).comp M6 (by intro j hj; simp at hj; rcases hj with rfl | rfl <;> exact .inr (by have := HF2.out _ (by simp [DevAt.foot] : p2.b ∈ p2.foot); have := HF2.out _ (by simp [DevAt.foot] : p2.g ∈ p2.foot); omega))
      have hnf : ∀ j ∈ p.foot, j ∉ [p2.b, p2.g] := by
        intro j hj
        have h1 := HF2.out p2.b (by simp [DevAt.foot])
        have h2 := HF2.out p2.g (by simp [DevAt.foot])
        have h3 := HLT1.out j hj
        simp; omega
      have J6 := (J2'.mods M5 hnf).mods M6 hnf
      have R6 := (R2'.mods M5 (HNE.out gb rfl)).mods M6 (HNE.out gb rfl)
      clear HR1 HR2 HR25 J2 J2' R2 R2' N2 N2' M5 M6 I2 I5 hnf
      have okw := Dev.with_ok HBL.out hby
      have HRD := Lib.hid (fun (a n : Nat) (h : a + n ≤ 128) => with_read HBL.out h)
      go_wp2_with fail
      refine (read_ok w6 p2 (Dev.with bs) I6 okw 0 128).mono ?_
      have e7 := HRD.out 0 128 (by omega)
      rw [show ((0 : Nat) : Int) = (0 : Int) from rfl, show ((128 : Nat) : Int) = (128 : Int) from rfl] at e7
      rw [e7, List.drop_zero, List.take_of_length_le (by rw [HBL.out]; omega)]
      clear e7
      rintro e w7 ⟨v7, rfl, O7, M7⟩
      have J7 := J6.mods0 M7
      have I7 := I6.mods0 M7
      have R7 := R6.mods M7 (by simp)
      have N7 := N6.trans M7
      clear I6 J6 R6 N6 M7
      go_wp2_with fail
      refine (mod_ok at_ 129 w7 h_a (by omega) (by omega)).mono ?_
      rintro e w2' ⟨rfl, rfl⟩
      have a0 := Int.emod_nonneg at_ (show (129 : Int) ≠ 0 by omega)
      have a2 := Int.emod_lt_of_pos at_ (show (0 : Int) < 129 by omega)
      obtain ⟨n, hn⟩ := Int.eq_ofNat_of_zero_le a0
      rw [hn] at a2 ⊢
      clear a0 hn
      go_wp2_with fail
      refine (read_ok w7 p (Dev.with bs) J7 okw 0 (n : Int)).mono ?_
      have e8 := HRD.out 0 n (by omega)
      rw [show ((0 : Nat) : Int) = (0 : Int) from rfl] at e8
      rw [e8, List.drop_zero]
      clear e8
      rintro e w8 ⟨v8, rfl, O8, M8⟩
      have J8 := J7.mods0 M8
      have I8 := I7.mods0 M8
      have R8 := R7.mods M8 (by simp)
      have N8 := N7.trans M8
      have O78 := M8.owns O7 (fun _ _ => by simp)
      clear I7 J7 R7 N7 M8 O7
      go_wp2_with fail
      refine (read_ok w8 p (Dev.with bs) J8 okw (n : Int) (128 - (n : Int))).mono ?_
      have e9 := HRD.out n (128 - n) (by omega)
      rw [show ((128 - n : Nat) : Int) = 128 - (n : Int) from by omega] at e9
      rw [e9, List.take_of_length_le (by rw [List.length_drop, HBL.out]; omega)]
      clear e9
      rintro e w9 ⟨v9, rfl, O9, M9⟩
      have I9 := I8.mods0 M9
      have R9 := R8.mods M9 (by simp)
      have N9 := N8.trans M9
      have O79 := M9.owns O78 (fun _ _ => by simp)
      have O89 := M9.owns O8 (fun _ _ => by simp)
      clear I8 J8 R8 N8 M9 O78 O8
      go_wp2_with fail
      have hb9 : Rd w9 (.slice (some ⟨gb, 0, none⟩) 128 128) (u8s bs) := by have h := R9.rd; rwa [u8s_length, HBL.out] at h
      refine (same_ok w9 v7 _ bs bs (Rd.own O79) hb9).mono ?_
      rintro e w10 ⟨rfl, nd, rfl⟩
      rw [show (bs == bs) = true from beq_self_eq_true _]
      have R10 : RowAt (w9.drewN nd) gb 5 128 (u8s bs) := R9.mods (S := []) (Mods.refl.drewN nd) (by simp)
      have I10 := I9.drewN nd
      have N10 := N9.drewN nd
      have O80 : (w9.drewN nd).ownsRow _ _ _ _ _ _ := O89
      have O90 : (w9.drewN nd).ownsRow _ _ _ _ _ _ := O9
      clear R9 I9 N9 O79 O89 O9 hb9
      generalize w9.drewN nd = w10 at R10 I10 N10 O80 O90 ⊢
      obtain ⟨i0, hi, hz0, hz1, hz2⟩ := info_parts Try.infoB
      have HL8 := Lib.hid (show (bs.take n).length = n by rw [List.length_take, HBL.out]; omega)
      have HL9 := Lib.hid (show (bs.drop n).length = 128 - n by rw [List.length_drop, HBL.out])
      rw [HL8.out] at O80
      rw [HL9.out] at O90
      go_wp2_with (at_builtin; refine wpList_append_two rfl (.const (.slice none 0 0)) (.tmp 104) 26 rfl w10.heap.size 5 i0 (.int .u8 0) 1 Try.underlying26 hi hz0 hz1 hz2 rfl _ 0 [] rfl (World.ownsRow_nil _ _ _ _) _ _ _ _ _ rfl O80 (one_u8s _) (by omega) (by omega) (Nat.le_refl _) ?_)
      intro v11 w11 O11 M11
      have z11 := M11.size
      have O91 := M11.owns O90 (fun j hj hj2 => by have := mem_from hj2; have := O90.lt j hj; omega)
      go_wp2_with (at_builtin; refine wpList_append_two rfl (.tmp 105) (.tmp 106) 26 rfl w10.heap.size 5 i0 (.int .u8 0) 1 Try.underlying26 hi hz0 hz1 hz2 rfl _ _ _ rfl O11 _ _ _ _ _ rfl O91 (one_u8s _) (by omega) (by omega) (by omega) ?_)
      intro v12 w12 O12 M12
      have e12 : u8s (bs.take n) ++ u8s (bs.drop n) = u8s bs := by simp only [u8s]; rw [← List.map_append, List.take_append_drop]
      rw [e12] at O12
      have hf10 : gb ∉ from_ w10.heap.size w10 := fun h => by have := mem_from h; have := R10.lt; omega
      have hf11 : gb ∉ from_ w10.heap.size w11 := fun h => by have := mem_from h; have := R10.lt; omega
      have hd10 : ∀ j ∈ p2.foot, j ∉ from_ w10.heap.size w10 := fun j hj h => by have := mem_from h; have := I10.lt j hj; omega
      have hd11 : ∀ j ∈ p2.foot, j ∉ from_ w10.heap.size w11 := fun j hj h => by have := mem_from h; have := I10.lt j hj; omega
      have R12 := (R10.mods M11 hf10).mods M12 hf11
      have I12 := (I10.mods M11 hd10).mods M12 hd11
      have N12 := (N10.then_from M11 (by have := N10.size; omega)).then_from M12 (by have := N10.size; omega)
      clear R10 I10 N10 O80 O90 O11 M11 O91 M12 e12 hf10 hf11 hd10 hd11 hi hz0 hz1 hz2
      have hb12 : Rd w12 (.slice (some ⟨gb, 0, none⟩) 128 128) (u8s bs) := by have h := R12.rd; rwa [u8s_length, HBL.out] at h
      go_wp2_with fail
      refine (same_ok w12 v12 _ bs bs (Rd.own O12) hb12).mono ?_
      rintro e w13 ⟨rfl, nd2, rfl⟩
      rw [show (bs == bs) = true from beq_self_eq_true _]
      have I13 := I12.drewN nd2
      have N13 := N12.drewN nd2
      clear R12 I12 N12 O12 hb12
      generalize w12.drewN nd2 = w13 at I13 N13 ⊢
      go_wp2_with fail
      refine (steps_ok w13 p2 _ I13).mono ?_
      rintro e w14 ⟨rfl, rfl⟩
      rw [show (Dev.with bs).steps = 128 from rfl]
      go_wp2_with fail
      refine (awake_ok w13).mono ?_
      rintro e w15 ⟨rfl, hmm⟩
      go_wp2
      go_ret
      exact ⟨rfl, N13.trans hmm⟩
    · have HR1 := Lib.hid (show Rd w2.drew (.slice (some ⟨gb, k, none⟩) (128 - k) (128 - k)) (u8s (bs.drop k)) by
        have h := cut_rd (k := k) (m := 128 - k) R2 (by rw [u8s_length, HBL.out]; omega)
        rw [if_neg (by omega), u8s_cut, List.take_of_length_le (by rw [List.length_drop, HBL.out]; omega)] at h
        exact h)
      have HR2 := Lib.hid (show Rd w2.drew (.slice (some ⟨gb, 0, none⟩) k 128) (u8s (bs.take k)) by
        have h := cut_rd (k := 0) (m := k) R2 (by rw [u8s_length, HBL.out]; omega)
        rw [if_neg (by omega), u8s_cut] at h
        exact h)
      have HNE := Lib.hid (show ∀ g, some gb = some g → g ∉ [p2.b, p2.g] by
        intro g hg
        simp only [Option.some.injEq] at hg
        subst hg
        have h1 := HF2.out p2.b (by simp [DevAt.foot])
        have h2 := HF2.out p2.g (by simp [DevAt.foot])
        simp; omega)
      have HS1 := Lib.hid (show D1.steps ≤ 4611686018427000000 by rw [FA.out.2.2]; omega)
      have HS0 := Lib.hid (show D0.steps ≤ 4611686018427000000 by rw [HST0.out]; omega)
      have J2' := J2.drew
      have R2' : RowAt w2.drew gb 5 128 (u8s bs) := R2.mods (S := []) Mods.refl.drew (by simp)
      have N2' := N2.drew
      go_wp2_with fail
      go_region_with (first | (go_at_call 18; refine (program_ok w5 p2 D1 I5 okp 0 _ (bs.take k) HR25.out (bytes_take hby _) (fun _ => HNE.out) HS1.out).mono ?_; rintro e w6 ⟨rfl, I6, M6⟩; rw [FA.out.2.1] at I6; have E6 := congrArg Prod.fst FA.out.2.1; simp only at E6; rw [E6]) | (go_at_call 18; refine (program_ok w2.drew p2 D0 I2.drew okf k _ (bs.drop k) HR1.out (bytes_drop hby _) (fun _ => HNE.out) HS0.out).mono ?_; rintro e w5 ⟨rfl, I5, M5⟩; rw [FA.out.1] at I5; have E5 := congrArg Prod.fst FA.out.1; simp only at E5; rw [E5]; have HR25 := Lib.hid (HR2.out.mods M5 (fun _ => HNE.out))))
      have I6 : IsDev w6 p2 (Dev.with bs) := I6
      have N6 : Mods [] w w6 := (N2'.comp M5 (by intro j hj; simp at hj; rcases hj with rfl | rfl <;> exact .inr (by have := HF2.out _ (by simp [DevAt.foot] : p2.b ∈ p2.foot); have := HF2.out _ (by simp [DevAt.foot] : p2.g ∈ p2.foot); omega))).comp M6 (by intro j hj; simp at hj; rcases hj with rfl | rfl <;> exact .inr (by have := HF2.out _ (by simp [DevAt.foot] : p2.b ∈ p2.foot); have := HF2.out _ (by simp [DevAt.foot] : p2.g ∈ p2.foot); omega))
      have hnf : ∀ j ∈ p.foot, j ∉ [p2.b, p2.g] := by
        intro j hj
        have h1 := HF2.out p2.b (by simp [DevAt.foot])
        have h2 := HF2.out p2.g (by simp [DevAt.foot])
        have h3 := HLT1.out j hj
        simp; omega
      have J6 := (J2'.mods M5 hnf).mods M6 hnf
      have R6 := (R2'.mods M5 (HNE.out gb rfl)).mods M6 (HNE.out gb rfl)
      clear HR1 HR2 HR25 J2 J2' R2 R2' N2 N2' M5 M6 I2 I5 hnf
      have okw := Dev.with_ok HBL.out hby
      have HRD := Lib.hid (fun (a n : Nat) (h : a + n ≤ 128) => with_read HBL.out h)
      go_wp2_with fail
      refine (read_ok w6 p2 (Dev.with bs) I6 okw 0 128).mono ?_
      have e7 := HRD.out 0 128 (by omega)
      rw [show ((0 : Nat) : Int) = (0 : Int) from rfl, show ((128 : Nat) : Int) = (128 : Int) from rfl] at e7
      rw [e7, List.drop_zero, List.take_of_length_le (by rw [HBL.out]; omega)]
      clear e7
      rintro e w7 ⟨v7, rfl, O7, M7⟩
      have J7 := J6.mods0 M7
      have I7 := I6.mods0 M7
      have R7 := R6.mods M7 (by simp)
      have N7 := N6.trans M7
      clear I6 J6 R6 N6 M7
      go_wp2_with fail
      refine (mod_ok at_ 129 w7 h_a (by omega) (by omega)).mono ?_
      rintro e w2' ⟨rfl, rfl⟩
      have a0 := Int.emod_nonneg at_ (show (129 : Int) ≠ 0 by omega)
      have a2 := Int.emod_lt_of_pos at_ (show (0 : Int) < 129 by omega)
      obtain ⟨n, hn⟩ := Int.eq_ofNat_of_zero_le a0
      rw [hn] at a2 ⊢
      clear a0 hn
      go_wp2_with fail
      refine (read_ok w7 p (Dev.with bs) J7 okw 0 (n : Int)).mono ?_
      have e8 := HRD.out 0 n (by omega)
      rw [show ((0 : Nat) : Int) = (0 : Int) from rfl] at e8
      rw [e8, List.drop_zero]
      clear e8
      rintro e w8 ⟨v8, rfl, O8, M8⟩
      have J8 := J7.mods0 M8
      have I8 := I7.mods0 M8
      have R8 := R7.mods M8 (by simp)
      have N8 := N7.trans M8
      have O78 := M8.owns O7 (fun _ _ => by simp)
      clear I7 J7 R7 N7 M8 O7
      go_wp2_with fail
      refine (read_ok w8 p (Dev.with bs) J8 okw (n : Int) (128 - (n : Int))).mono ?_
      have e9 := HRD.out n (128 - n) (by omega)
      rw [show ((128 - n : Nat) : Int) = 128 - (n : Int) from by omega] at e9
      rw [e9, List.take_of_length_le (by rw [List.length_drop, HBL.out]; omega)]
      clear e9
      rintro e w9 ⟨v9, rfl, O9, M9⟩
      have I9 := I8.mods0 M9
      have R9 := R8.mods M9 (by simp)
      have N9 := N8.trans M9
      have O79 := M9.owns O78 (fun _ _ => by simp)
      have O89 := M9.owns O8 (fun _ _ => by simp)
      clear I8 J8 R8 N8 M9 O78 O8
      go_wp2_with fail
      have hb9 : Rd w9 (.slice (some ⟨gb, 0, none⟩) 128 128) (u8s bs) := by have h := R9.rd; rwa [u8s_length, HBL.out] at h
      refine (same_ok w9 v7 _ bs bs (Rd.own O79) hb9).mono ?_
      rintro e w10 ⟨rfl, nd, rfl⟩
      rw [show (bs == bs) = true from beq_self_eq_true _]
      have R10 : RowAt (w9.drewN nd) gb 5 128 (u8s bs) := R9.mods (S := []) (Mods.refl.drewN nd) (by simp)
      have I10 := I9.drewN nd
      have N10 := N9.drewN nd
      have O80 : (w9.drewN nd).ownsRow _ _ _ _ _ _ := O89
      have O90 : (w9.drewN nd).ownsRow _ _ _ _ _ _ := O9
      clear R9 I9 N9 O79 O89 O9 hb9
      generalize w9.drewN nd = w10 at R10 I10 N10 O80 O90 ⊢
      obtain ⟨i0, hi, hz0, hz1, hz2⟩ := info_parts Try.infoB
      have HL8 := Lib.hid (show (bs.take n).length = n by rw [List.length_take, HBL.out]; omega)
      have HL9 := Lib.hid (show (bs.drop n).length = 128 - n by rw [List.length_drop, HBL.out])
      rw [HL8.out] at O80
      rw [HL9.out] at O90
      go_wp2_with (at_builtin; refine wpList_append_two rfl (.const (.slice none 0 0)) (.tmp 104) 26 rfl w10.heap.size 5 i0 (.int .u8 0) 1 Try.underlying26 hi hz0 hz1 hz2 rfl _ 0 [] rfl (World.ownsRow_nil _ _ _ _) _ _ _ _ _ rfl O80 (one_u8s _) (by omega) (by omega) (Nat.le_refl _) ?_)
      intro v11 w11 O11 M11
      have z11 := M11.size
      have O91 := M11.owns O90 (fun j hj hj2 => by have := mem_from hj2; have := O90.lt j hj; omega)
      go_wp2_with (at_builtin; refine wpList_append_two rfl (.tmp 105) (.tmp 106) 26 rfl w10.heap.size 5 i0 (.int .u8 0) 1 Try.underlying26 hi hz0 hz1 hz2 rfl _ _ _ rfl O11 _ _ _ _ _ rfl O91 (one_u8s _) (by omega) (by omega) (by omega) ?_)
      intro v12 w12 O12 M12
      have e12 : u8s (bs.take n) ++ u8s (bs.drop n) = u8s bs := by simp only [u8s]; rw [← List.map_append, List.take_append_drop]
      rw [e12] at O12
      have hf10 : gb ∉ from_ w10.heap.size w10 := fun h => by have := mem_from h; have := R10.lt; omega
      have hf11 : gb ∉ from_ w10.heap.size w11 := fun h => by have := mem_from h; have := R10.lt; omega
      have hd10 : ∀ j ∈ p2.foot, j ∉ from_ w10.heap.size w10 := fun j hj h => by have := mem_from h; have := I10.lt j hj; omega
      have hd11 : ∀ j ∈ p2.foot, j ∉ from_ w10.heap.size w11 := fun j hj h => by have := mem_from h; have := I10.lt j hj; omega
      have R12 := (R10.mods M11 hf10).mods M12 hf11
      have I12 := (I10.mods M11 hd10).mods M12 hd11
      have N12 := (N10.then_from M11 (by have := N10.size; omega)).then_from M12 (by have := N10.size; omega)
      clear R10 I10 N10 O80 O90 O11 M11 O91 M12 e12 hf10 hf11 hd10 hd11 hi hz0 hz1 hz2
      have hb12 : Rd w12 (.slice (some ⟨gb, 0, none⟩) 128 128) (u8s bs) := by have h := R12.rd; rwa [u8s_length, HBL.out] at h
      go_wp2_with fail
      refine (same_ok w12 v12 _ bs bs (Rd.own O12) hb12).mono ?_
      rintro e w13 ⟨rfl, nd2, rfl⟩
      rw [show (bs == bs) = true from beq_self_eq_true _]
      have I13 := I12.drewN nd2
      have N13 := N12.drewN nd2
      clear R12 I12 N12 O12 hb12
      generalize w12.drewN nd2 = w13 at I13 N13 ⊢
      go_wp2_with fail
      refine (steps_ok w13 p2 _ I13).mono ?_
      rintro e w14 ⟨rfl, rfl⟩
      rw [show (Dev.with bs).steps = 128 from rfl]
      go_wp2_with fail
      refine (awake_ok w13).mono ?_
      rintro e w15 ⟨rfl, hmm⟩
      go_wp2
      go_ret
      exact ⟨rfl, N13.trans hmm⟩
  · have hd : decide (L.length ≤ 600) = false := by simpa using hl
    clear hl
    go_enter Try.func4, Try.ntmps4
    go_wp2_with fail
    refine (light_ok w v L hv).mono ?_
    rintro e w' ⟨rfl, rfl⟩
    clear hv
    go_wp2_with fail
    refine (awake_ok w).mono ?_
    rintro e w' ⟨rfl, hm⟩
    go_wp2
    go_ret
    exact ⟨rfl, hm⟩
end Go.Proofs.Ytjdimdebplggnaa
