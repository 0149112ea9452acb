/- ThresholdSeverity: the walk. -/
import Derived.Test.YtokokojmeepoeaaAwakeT
namespace Go.Proofs.Ytokokojmeepoeaa
open Go.RowKit

def sevF (b0 b1 b2 b3 b4 b5 : Bool) : Int := if b2 || b5 then 3 else if b1 || b4 then 2 else if b0 || b3 then 1 else 0
theorem sevI_eq (st : Nat) : sevI st = sevF (st.testBit 0) (st.testBit 1) (st.testBit 2) (st.testBit 3) (st.testBit 4) (st.testBit 5) := rfl
theorem sevI_bd (st : Nat) : 0 ≤ sevI st ∧ sevI st ≤ 3 := by unfold sevI; split <;> (try split) <;> (try split) <;> omega
theorem sevF_or : ∀ b0 b1 b2 b3 b4 b5 : Bool,
    sevF true b1 b2 b3 b4 b5 = max (sevF b0 b1 b2 b3 b4 b5) 1 ∧ sevF b0 true b2 b3 b4 b5 = max (sevF b0 b1 b2 b3 b4 b5) 2 ∧ sevF b0 b1 true b3 b4 b5 = max (sevF b0 b1 b2 b3 b4 b5) 3 ∧
    sevF b0 b1 b2 true b4 b5 = max (sevF b0 b1 b2 b3 b4 b5) 1 ∧ sevF b0 b1 b2 b3 true b5 = max (sevF b0 b1 b2 b3 b4 b5) 2 ∧ sevF b0 b1 b2 b3 b4 true = max (sevF b0 b1 b2 b3 b4 b5) 3 := by decide
theorem sevI_or (st : Nat) {k : Nat} (hk : k < 6) : sevI (st ||| 2 ^ k) = max (sevI st) ((k % 3 : Nat) + 1) := by
  have ⟨a0, a1, a2, a3, a4, a5⟩ := sevF_or (st.testBit 0) (st.testBit 1) (st.testBit 2) (st.testBit 3) (st.testBit 4) (st.testBit 5)
  rw [sevI_eq, sevI_eq]
  simp only [Nat.testBit_or, Nat.testBit_two_pow]
  match k, hk with
  | 0, _ => simpa using a0
  | 1, _ => simpa using a1
  | 2, _ => simpa using a2
  | 3, _ => simpa using a3
  | 4, _ => simpa using a4
  | 5, _ => simpa using a5
theorem sevI_and (st : Nat) : sevI (st &&& 63) = sevI st := by
  rw [sevI_eq, sevI_eq]
  simp only [Nat.testBit_and, show (63 : Nat).testBit 0 = true by decide, show (63 : Nat).testBit 1 = true by decide, show (63 : Nat).testBit 2 = true by decide, show (63 : Nat).testBit 3 = true by decide, show (63 : Nat).testBit 4 = true by decide, show (63 : Nat).testBit 5 = true by decide, Bool.and_true]
theorem sevF_zero : ∀ b0 b1 b2 b3 b4 b5 : Bool, sevF b0 b1 b2 b3 b4 b5 = 0 → b0 = false ∧ b1 = false ∧ b2 = false ∧ b3 = false ∧ b4 = false ∧ b5 = false := by decide
theorem sevI_zero (st : Nat) : (sevI st == 0) = (((st &&& 63 : Nat) : Int) == 0) := by
  rw [Bool.eq_iff_iff, beq_iff_eq, beq_iff_eq]
  constructor
  · intro h
    rw [sevI_eq] at h
    have ⟨a0, a1, a2, a3, a4, a5⟩ := sevF_zero _ _ _ _ _ _ h
    have : st &&& 63 = 0 := by
      refine bits_ext (k := 6) (Nat.and_lt_two_pow _ (by decide)) (by decide) fun i hi => ?_
      rw [Nat.testBit_and, Nat.zero_testBit]
      match i, hi with
      | 0, _ => simp [a0]
      | 1, _ => simp [a1]
      | 2, _ => simp [a2]
      | 3, _ => simp [a3]
      | 4, _ => simp [a4]
      | 5, _ => simp [a5]
    rw [this]; rfl
  · intro h
    have h0 : st &&& 63 = 0 := by omega
    rw [← sevI_and, h0]; decide
set_option maxRecDepth 100000 in
set_option maxHeartbeats 2000000 in
theorem thresholdSeverity_walk (w : World) (s : Int) (hs : 0 ≤ s ∧ s ≤ 255) (bit : Int) (hb : I64 bit) :
    Calls Try.prog 11 #[.int .u8 s, .int .i64 bit] w fun e w' => e = .returned (.bool true) ∧ Mods [] w w' := by
  obtain ⟨s0, s1⟩ := hs
  obtain ⟨st, rfl⟩ := Int.eq_ofNat_of_zero_le s0
  have hst : st < 256 := by omega
  have HB := Lib.hid hb
  clear hb s0 s1
  go_enter Try.func11, Try.ntmps11
  go_wp2_with fail
  refine (mod_ok bit 6 _ HB.out (by omega) (by omega)).mono ?_
  rintro e w' ⟨rfl, rfl⟩
  have b0 := Int.emod_nonneg bit (show (6 : Int) ≠ 0 by omega)
  have b1 := Int.emod_lt_of_pos bit (show (0 : Int) < 6 by omega)
  obtain ⟨k, hk⟩ := Int.eq_ofNat_of_zero_le b0
  rw [hk]
  rw [hk] at b1
  have hk6 : k < 6 := by omega
  clear hk b0
  go_wp2_with fail
  refine (severity_ok st hst _).mono ?_
  rintro e w1 ⟨rfl, M1⟩
  have hu := wrap_u64 (i := k) (by omega)
  go_wp2_with fail
  have hpow : bits .or .u8 (st : Int) ((2 : Int) ^ k % 256) = ((st ||| 2 ^ k : Nat) : Int) := by
    have h1 : 2 ^ k < 256 := Nat.pow_lt_pow_right (a := 2) (n := 8) (by omega) (by omega)
    have h2 : ((2 ^ k : Nat) : Int) = (2 : Int) ^ k := by simp
    have h3 : ((2 ^ k : Nat) : Int) % 256 = ((2 ^ k : Nat) : Int) := Int.emod_eq_of_lt (Int.natCast_nonneg _) (Int.ofNat_lt.2 h1)
    rw [← h2, h3]
    exact u8_or_nat _ _ hst h1
  have hlt : st ||| 2 ^ k < 256 := Nat.or_lt_two_pow (n := 8) hst (Nat.pow_lt_pow_right (a := 2) (n := 8) (by omega) (by omega))
  rw [hpow]
  refine (severity_ok (st ||| 2 ^ k) hlt _).mono ?_
  rintro e w2 ⟨rfl, M2⟩
  have M2 := M1.trans M2
  have HOR := Lib.hid (sevI_or st hk6)
  have HAND := Lib.hid (sevI_and st)
  have HZ := Lib.hid (sevI_zero st)
  have HSV := Lib.hid (fun W => severity_ok (st &&& 63) (Nat.lt_of_le_of_lt Nat.and_le_left hst) W)
  have h63 : bits .and .u8 (st : Int) 63 = ((st &&& 63 : Nat) : Int) := u8_and_nat _ 63 hst (by omega)
  have ⟨a0, a1⟩ := sevI_bd st
  rw [HAND.out] at HSV
  generalize sevI (st ||| 2 ^ k) = b at HOR ⊢
  generalize sevI st = a at HOR HZ HSV a0 a1 ⊢
  generalize st &&& 63 = z at HZ HSV h63
  have hb0 : a ≤ b := by have := HOR.out; omega
  have hz := HZ.out
  clear hpow hlt hu M1
  go_wp2_with fail
  all_goals first
    | (refine (HSV.out _).mono ?_
       rintro e w3 ⟨rfl, M3⟩
       have M3 := M2.trans M3
       go_wp2_with fail
       refine (awakeT_ok _).mono ?_
       rintro e w4 ⟨rfl, M4⟩
       go_wp2
       go_ret
       exact ⟨rfl, M3.trans M4⟩)
    | (exfalso
       have hh : b = if a < (k : Int) % 3 + 1 then (k : Int) % 3 + 1 else a := by
         have := HOR.out
         split <;> omega
       contradiction)
end Go.Proofs.Ytokokojmeepoeaa
