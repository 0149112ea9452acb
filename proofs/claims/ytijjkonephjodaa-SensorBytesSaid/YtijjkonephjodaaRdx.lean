/- Joined texts. Numbers read from bytes: convert.read, the reference's Number and signed; contracts. | convert.length: contract. What bytes a conversion is decoded from, as plain data. | The reference's Number and signed: contracts. -/
import Derived.Test.YtijjkonephjodaaRefSeal
import Derived.Test.YtijjkonephjodaaBys
import Derived.Test.YtijjkonephjodaaMadeConv
namespace Go.Proofs.Ytijjkonephjodaa
open Go.RowKit

/-- The number of bytes, the least significant one first. -/
def leN : List Int → Int
  | [] => 0
  | b :: l => b + 256 * leN l
/-- .. in two's complement. -/
def sgnL (A : List Int) : Int := leN A - if 128 ≤ A.getD (A.length - 1) 0 then 256 ^ A.length else 0
theorem leN_cons (b : Int) (l : List Int) : leN (b :: l) = b + 256 * leN l := rfl
theorem sgnL_cons (b : Int) {l : List Int} (hl : l ≠ []) : sgnL (b :: l) = b + 256 * sgnL l := by
  have hp := List.length_pos_iff.2 hl
  unfold sgnL
  have e : (b :: l).getD ((b :: l).length - 1) 0 = l.getD (l.length - 1) 0 := by
    rw [List.length_cons, Nat.add_sub_cancel]
    obtain ⟨k, hk⟩ : ∃ k, l.length = k + 1 := ⟨l.length - 1, by omega⟩
    rw [hk, List.getD_cons_succ, Nat.add_sub_cancel]
  rw [e, leN_cons, List.length_cons, Int.pow_succ]
  split <;> omega
theorem sgnL_one (x : Int) : sgnL [x] = if 128 ≤ x then x - 256 else x := by
  unfold sgnL leN leN
  simp
  split <;> omega
theorem leN_bd {A : List Int} (h : Bytes A) : 0 ≤ leN A ∧ leN A < 256 ^ A.length := by
  induction A with
  | nil => simp [leN]
  | cons b l ih =>
    have hb := h 0
    have := ih (fun i => h (i + 1))
    simp only [List.getD_cons_zero] at hb
    rw [leN_cons, List.length_cons, Int.pow_succ]
    omega
theorem sgnL_bd {A : List Int} (h : Bytes A) (hl : A ≠ []) : -(128 * 256 ^ (A.length - 1)) ≤ sgnL A ∧ sgnL A < 128 * 256 ^ (A.length - 1) := by
  induction A with
  | nil => exact absurd rfl hl
  | cons b l ih =>
    have hb := h 0
    simp only [List.getD_cons_zero] at hb
    rw [List.length_cons, Nat.add_sub_cancel]
    by_cases h0 : l = []
    · subst h0
      rw [sgnL_one]
      simp
      split <;> omega
    · have := ih (fun i => h (i + 1)) h0
      obtain ⟨k, hk⟩ : ∃ k, l.length = k + 1 := ⟨l.length - 1, by have := List.length_pos_iff.2 h0; omega⟩
      rw [sgnL_cons b h0]
      rw [hk, Nat.add_sub_cancel] at this
      rw [hk, Int.pow_succ]
      omega
theorem wrap_cong {x y : Int} (h : x % 18446744073709551616 = y % 18446744073709551616) : IntKind.i64.wrap x = IntKind.i64.wrap y := by
  have e : ∀ z : Int, IntKind.i64.wrap z = (if IntKind.i64.signed ∧ z % 18446744073709551616 ≥ 9223372036854775808 then z % 18446744073709551616 - 18446744073709551616 else z % 18446744073709551616) := fun z => by
    simp only [IntKind.wrap, IntKind.bits, IntKind.signed]
    simp
  rw [e, e, h]
theorem or_join (x b : Int) (h : -36028797018963968 ≤ x ∧ x ≤ 36028797018963967) (hb : 0 ≤ b ∧ b ≤ 255) : bits .or .i64 (256 * x) b = 256 * x + b := by
  obtain ⟨B, rfl⟩ := Int.eq_ofNat_of_zero_le hb.1
  show IntKind.i64.wrap ((BitVec.ofInt 64 (256 * x) ||| BitVec.ofInt 64 (B : Int)).toNat : Int) = _
  rw [BitVec.toNat_or, ofInt_u64 B (by omega)]
  obtain ⟨X, hX⟩ : ∃ X, X = (BitVec.ofInt 64 (256 * x)).toNat := ⟨_, rfl⟩
  have hX2 : (X : Int) = (256 * x) % 18446744073709551616 := by rw [hX, BitVec.toNat_ofInt]; omega
  rw [← hX, nat_join 8 X B (by omega) (by omega)]
  rw [wrap_cong (y := 256 * x + (B : Int)) (by omega)]
  exact IntWalk.i64_in _ (by omega)
theorem i8_wrap (x : Int) (h : 0 ≤ x ∧ x ≤ 255) : IntKind.i8.wrap x = if 128 ≤ x then x - 256 else x := by
  simp only [IntKind.wrap, IntKind.bits, IntKind.signed]
  simp
  split <;> split <;> omega
theorem drop_last {A : List Int} (h : 1 ≤ A.length) : A.drop (A.length - 1) = [A.getD (A.length - 1) 0] := by
  rw [List.drop_eq_getElem_cons (by omega), List.drop_eq_nil_of_le (by omega), List.getD_eq_getElem?_getD, List.getElem?_eq_getElem (by omega)]; rfl
theorem drop_step {A : List Int} {k : Nat} (h : k < A.length) : A.drop k = A.getD k 0 :: A.drop (k + 1) := by
  rw [List.drop_eq_getElem_cons h, List.getD_eq_getElem?_getD, List.getElem?_eq_getElem h]; rfl
theorem Bytes.drop {A : List Int} (h : Bytes A) (k : Nat) : Bytes (A.drop k) := fun i => by
  have := h (k + i)
  simpa [List.getD_eq_getElem?_getD, List.getElem?_drop] using this
set_option maxRecDepth 100000 in
set_option maxHeartbeats 1000000 in
theorem read_ok (w : World) (v : Value) (A : List Int) (hv : Rd w v (u8s A)) (hb : Bytes A) (hl1 : 1 ≤ A.length) (hl7 : A.length ≤ 7) :
    Calls Try.prog 109 #[v] w fun e w' => e = .returned (.int .i64 (sgnL A)) ∧ w = w' := by
  have HV := Lib.hid hv
  have HB := Lib.hid hb
  obtain ⟨ad, cap, rfl, h1, h2, hc⟩ := hv.u8
  have h3 : cap ≤ 9223372036854775807 := h2
  obtain ⟨bb, off, rfl, x0⟩ := hc (A.length - 1) (by omega)
  have HC := Lib.hid (fun i (hi : i < A.length) => show w.cell? ⟨bb, off + i, none⟩ = some (.int .u8 (A.getD i 0)) from by
    obtain ⟨b', o', he, hx⟩ := hc i hi
    cases he
    exact hx)
  clear hv hb h2 hc
  have hbx := HB.out (A.length - 1)
  have HS := Lib.hid (show sgnL (A.drop (A.length - 1)) = IntKind.i8.wrap (A.getD (A.length - 1) 0) by rw [drop_last hl1, sgnL_one, i8_wrap _ hbx])
  generalize A.getD (A.length - 1) 0 = x at x0 hbx HS
  have HW := Lib.hid (show wrap64 (IntKind.i8.wrap x) = IntKind.i8.wrap x from IntWalk.wrap64_in _ (by rw [i8_wrap _ hbx]; split <;> omega))
  have e1 : ((A.length : Int) - 1).toNat = A.length - 1 := by omega
  have i1 : (0 : Int) ≤ (A.length : Int) - 1 := by omega
  obtain ⟨hb0, hb1⟩ := hbx
  go_enter Try.func109, Try.ntmps109
  go_wp2_with fail
  clear x0 e1 i1 hb0 hb1
  go_loopw [3, 4] (fun s i wr => ∃ k : Nat, k + 1 ≤ A.length ∧ i = .int .i64 ((k : Int) - 1) ∧ s = .int .i64 (sgnL (A.drop k)) ∧ wr = w) (fun _ i _ => ((intOf i) + 1).toNat)
  case atStart => exact ⟨A.length - 1, by omega, by rw [show ((A.length - 1 : Nat) : Int) - 1 = (A.length : Int) - 2 by omega], by rw [HS.out, HW.out], rfl⟩
  case round =>
    obtain ⟨k, hk, rfl, rfl, rfl⟩ := hrel
    by_cases hlt : 1 ≤ k
    · obtain ⟨j, rfl⟩ : ∃ j, k = j + 1 := ⟨k - 1, by omega⟩
      have xj := HC.out j (by omega)
      have hbj := HB.out j
      have HST := Lib.hid (show sgnL (A.drop j) = A.getD j 0 + 256 * sgnL (A.drop (j + 1)) by rw [drop_step (A := A) (k := j) (by omega)]; exact sgnL_cons _ (by intro h; have := congrArg List.length h; simp at this; omega))
      have hsb : -36028797018963968 ≤ sgnL (A.drop (j + 1)) ∧ sgnL (A.drop (j + 1)) ≤ 36028797018963967 := by
        have := sgnL_bd (HB.out.drop (j + 1)) (by intro h; have := congrArg List.length h; simp at this; omega)
        have hle := (show ∀ m : Nat, m < 6 → (256 : Int) ^ m ≤ 1099511627776 by decide) ((A.drop (j + 1)).length - 1) (by simp; omega)
        omega
      generalize A.getD j 0 = y at xj hbj HST
      generalize sgnL (A.drop (j + 1)) = s at hsb HST ⊢
      have hor := or_join s y hsb hbj
      rw [Int.mul_comm] at hor
      obtain ⟨hs0, hs1⟩ := hsb
      obtain ⟨hy0, hy1⟩ := hbj
      have e1 : ((j + 1 : Nat) : Int) - 1 = (j : Int) := by omega
      rw [e1]
      have i1 : (0 : Int) ≤ (j : Int) := by omega
      have i2 : (j : Int) < (A.length : Int) := by omega
      go_wp2_with fail
      exact ⟨⟨j, by omega, rfl, by rw [HST.out]; go_num, by first | rfl | trivial⟩, by simp only [intOf]; omega⟩
    · have hk0 : k = 0 := by omega
      subst hk0
      rw [List.drop_zero]
      generalize hs : sgnL A = s
      have HSA := Lib.hid hs
      clear hs
      go_wp2_with fail
      go_ret
      exact ⟨by rw [HSA.out]; rfl, rfl⟩
end Go.Proofs.Ytijjkonephjodaa

namespace Go.Proofs.Ytijjkonephjodaa
open Go.RowKit

theorem andNot128 (x : Int) (h : 0 ≤ x ∧ x ≤ 255) : bits .andNot .u8 x 128 = x % 128 := by
  rw [u8_andNot x 128 h.1 (by omega) (by omega) (by omega)]
  rw [show (255 - (128 : Int).toNat) = 127 from rfl, nat_mask7]
  omega
theorem and128 (x : Int) (h : 0 ≤ x ∧ x ≤ 255) : bits .and .u8 x 128 = if 128 ≤ x then 128 else 0 := by
  rw [u8_and x 128 h.1 (by omega) (by omega) (by omega)]
  rw [show ((128 : Int).toNat) = 2 ^ 7 from rfl, nat_bit]
  split <;> omega
/-- How many bytes a conversion has, or what is wrong. -/
def lenC (A : List Int) : Int × Int :=
  if A = [] then (0, 4) else if A.getD 0 0 % 128 < 1 ∨ 5 < A.getD 0 0 % 128 then (0, 6) else if A.getD 0 0 % 128 ≠ 5 then (7, 0)
  else if A.length = 1 then (0, 4) else if A.getD 1 0 < 2 ∨ 12 < A.getD 1 0 then (0, 6) else (2 + 7 * A.getD 1 0, 0)
set_option maxRecDepth 100000 in
set_option maxHeartbeats 2000000 in
theorem length_ok (w : World) (v : Value) (A : List Int) (hv : Rd w v (u8s A)) (hb : Bytes A) :
    Calls Try.prog 107 #[v] w fun e w' => e = .returned (.tuple #[.int .i64 (lenC A).1, .int .i64 (lenC A).2]) ∧ w = w' := by
  obtain ⟨ad, cap, rfl, h1, h2, hc⟩ := hv.u8
  have h3 : cap ≤ 9223372036854775807 := h2
  have HU := Lib.hid (show lenC A = if A = [] then (0, 4) else if A.getD 0 0 % 128 < 1 ∨ 5 < A.getD 0 0 % 128 then (0, 6) else if A.getD 0 0 % 128 ≠ 5 then (7, 0)
    else if A.length = 1 then (0, 4) else if A.getD 1 0 < 2 ∨ 12 < A.getD 1 0 then (0, 6) else (2 + 7 * A.getD 1 0, 0) from rfl)
  by_cases h0 : A = []
  · subst h0
    go_enter Try.func107, Try.ntmps107
    go_wp2_with fail
    go_ret2
    exact ⟨rfl, rfl⟩
  · have hp : 0 < A.length := List.length_pos_iff.2 h0
    have e0 : ((A.length : Int) == 0) = false := by simp; omega
    obtain ⟨bb, off, rfl, x0⟩ := hc 0 hp
    have hb0 := hb 0
    have HX1 := Lib.hid (fun (hl : 1 < A.length) => show w.cell? ⟨bb, off + 1, none⟩ = some (.int .u8 (A.getD 1 0)) from by
      obtain ⟨b', o', he, hx⟩ := hc 1 hl
      cases he
      exact hx)
    have hb1 := hb 1
    rw [if_neg h0] at HU
    rw [Nat.add_zero] at x0
    clear hv hb h2 hc h0
    generalize A.getD 0 0 = x at x0 hb0 HU
    generalize A.getD 1 0 = y at HX1 hb1 HU
    have ea := andNot128 x hb0
    have hf : 0 ≤ x % 128 ∧ x % 128 ≤ 127 := by omega
    generalize x % 128 = f at ea hf HU
    obtain ⟨f0, f1⟩ := hf
    have i0 : (0 : Int) < (A.length : Int) := by omega
    by_cases hf1 : f < 1 ∨ 5 < f
    · have HR := Lib.hid (HU.out.trans (if_pos hf1))
      rcases hf1 with hf1 | hf1
      · have d1 : decide (f < 1) = true := decide_eq_true hf1
        go_enter Try.func107, Try.ntmps107
        go_wp2_with fail
        go_ret2
        exact ⟨by rw [HR.out]; rfl, rfl⟩
      · have d1 : decide (f < 1) = false := decide_eq_false (by omega)
        have d2 : decide (f > 5) = true := decide_eq_true hf1
        go_enter Try.func107, Try.ntmps107
        go_wp2_with fail
        go_ret2
        exact ⟨by rw [HR.out]; rfl, rfl⟩
    · have d1 : decide (f < 1) = false := decide_eq_false (by omega)
      have d2 : decide (f > 5) = false := decide_eq_false (by omega)
      have HU := Lib.hid (HU.out.trans (if_neg hf1))
      by_cases h5 : f = 5
      · have d3 : (f != 5) = false := by simpa using h5
        have HU := Lib.hid (HU.out.trans (if_neg (fun h => h h5)))
        clear h5
        by_cases hl : A.length = 1
        · have d4 : ((A.length : Int) == 1) = true := by simp; omega
          have HR := Lib.hid (HU.out.trans (if_pos hl))
          clear hl
          go_enter Try.func107, Try.ntmps107
          go_wp2_with fail
          go_ret2
          exact ⟨by rw [HR.out]; rfl, rfl⟩
        · have d4 : ((A.length : Int) == 1) = false := by simp; omega
          have x1 := HX1.out (by omega)
          have i1 : (1 : Int) < (A.length : Int) := by omega
          have HU := Lib.hid (HU.out.trans (if_neg hl))
          by_cases hy : y < 2 ∨ 12 < y
          · have HR := Lib.hid (HU.out.trans (if_pos hy))
            rcases hy with hy | hy
            · have d5 : decide (y < 2) = true := decide_eq_true hy
              go_enter Try.func107, Try.ntmps107
              go_wp2_with fail
              go_ret2
              exact ⟨by rw [HR.out]; rfl, rfl⟩
            · have d5 : decide (y < 2) = false := decide_eq_false (by omega)
              have d6 : decide (y > 12) = true := decide_eq_true hy
              go_enter Try.func107, Try.ntmps107
              go_wp2_with fail
              go_ret2
              exact ⟨by rw [HR.out]; rfl, rfl⟩
          · have d5 : decide (y < 2) = false := decide_eq_false (by omega)
            have d6 : decide (y > 12) = false := decide_eq_false (by omega)
            have HR := Lib.hid (HU.out.trans (if_neg hy))
            obtain ⟨y0, y1⟩ := hb1
            go_enter Try.func107, Try.ntmps107
            go_wp2_with fail
            go_ret2
            exact ⟨by rw [HR.out]; rfl, rfl⟩
      · have d3 : (f != 5) = true := by simpa using h5
        have HR := Lib.hid (HU.out.trans (if_pos h5))
        clear h5
        go_enter Try.func107, Try.ntmps107
        go_wp2_with fail
        go_ret2
        exact ⟨by rw [HR.out]; rfl, rfl⟩
end Go.Proofs.Ytijjkonephjodaa

namespace Go.Proofs.Ytijjkonephjodaa
open Go.RowKit

theorem pow256_lt : ∀ m : Nat, m < 8 → (256 : Int) ^ m ≤ 72057594037927936 := by decide
set_option maxRecDepth 100000 in
set_option maxHeartbeats 1000000 in
theorem refNumber_ok' (w : World) (v : Value) (A : List Int) (hv : Rd w v (u8s A)) (hb : Bytes A) (hl8 : A.length ≤ 8) :
    Calls Try.prog 61 #[v] w fun e w' => e = .returned (.int .u64 (leN A)) ∧ w = w' := by
  have HV := Lib.hid hv
  have HB := Lib.hid hb
  obtain ⟨ad, cap, rfl, h1, h2, _⟩ := hv.u8
  have h3 : cap ≤ 9223372036854775807 := h2
  clear hv hb h2
  go_enter Try.func61, Try.ntmps61
  go_wp2_with fail
  go_loopw [3, 4] (fun s i wr => ∃ k : Nat, k ≤ A.length ∧ i = .int .i64 ((k : Int) - 1) ∧ s = .int .u64 (leN (A.drop k)) ∧ wr = w) (fun _ i _ => ((intOf i) + 1).toNat)
  case atStart => exact ⟨A.length, Nat.le_refl _, rfl, by rw [List.drop_length]; rfl, rfl⟩
  case round =>
    obtain ⟨k, hk, rfl, rfl, rfl⟩ := hrel
    by_cases hlt : 1 ≤ k
    · obtain ⟨j, rfl⟩ : ∃ j, k = j + 1 := ⟨k - 1, by omega⟩
      obtain ⟨_, _, he, _, _, hc⟩ := HV.out.u8
      obtain ⟨bb, off, rfl, xj⟩ := hc j (by omega)
      injection he with he1 he2 he3
      subst he1 he3
      clear hc he2
      have hbj := HB.out j
      have HST := Lib.hid (show leN (A.drop j) = A.getD j 0 + 256 * leN (A.drop (j + 1)) by rw [drop_step (A := A) (k := j) (by omega)]; rfl)
      have hsb : 0 ≤ leN (A.drop (j + 1)) ∧ leN (A.drop (j + 1)) ≤ 72057594037927935 := by
        have := leN_bd (HB.out.drop (j + 1))
        have hle := pow256_lt (A.drop (j + 1)).length (by simp; omega)
        omega
      generalize A.getD j 0 = y at xj hbj HST
      generalize leN (A.drop (j + 1)) = s at hsb HST ⊢
      obtain ⟨hs0, hs1⟩ := hsb
      obtain ⟨hy0, hy1⟩ := hbj
      have e1 : ((j + 1 : Nat) : Int) - 1 = (j : Int) := by omega
      rw [e1]
      have i1 : (0 : Int) ≤ (j : Int) := by omega
      have i2 : (j : Int) < (A.length : Int) := by omega
      go_wp2_with fail
      exact ⟨⟨j, by omega, rfl, by rw [HST.out]; go_num, by first | rfl | trivial⟩, by simp only [intOf]; omega⟩
    · have hk0 : k = 0 := by omega
      subst hk0
      rw [List.drop_zero]
      generalize hs : leN A = s
      have HSA := Lib.hid hs
      clear hs
      go_wp2_with fail
      go_ret
      exact ⟨by rw [HSA.out]; rfl, rfl⟩
set_option maxRecDepth 100000 in
set_option maxHeartbeats 2000000 in
theorem refSigned_ok (w : World) (v : Value) (A : List Int) (hv : Rd w v (u8s A)) (hb : Bytes A) (hl1 : 1 ≤ A.length) (hl7 : A.length ≤ 7) :
    Calls Try.prog 92 #[v] w fun e w' => e = .returned (.int .i64 (sgnL A)) ∧ w = w' := by
  have HN := Lib.hid (refNumber_ok' w v A hv hb (by omega))
  obtain ⟨ad, cap, rfl, h1, h2, hc⟩ := hv.u8
  have h3 : cap ≤ 9223372036854775807 := h2
  obtain ⟨bb, off, rfl, x0⟩ := hc (A.length - 1) (by omega)
  have hbd : 0 ≤ leN A ∧ leN A ≤ 72057594037927936 := by
    have := leN_bd hb
    have := pow256_lt A.length (by omega)
    omega
  have hbx := hb (A.length - 1)
  have HS := Lib.hid (show sgnL A = leN A - if 128 ≤ A.getD (A.length - 1) 0 then 256 ^ A.length else 0 from rfl)
  clear hv hb h2 hc
  generalize A.getD (A.length - 1) 0 = x at x0 hbx HS
  generalize leN A = s at hbd HS HN
  obtain ⟨hb0, hb1⟩ := hbx
  obtain ⟨hs0, hs1⟩ := hbd
  have hcs : A.length = 1 ∨ A.length = 2 ∨ A.length = 3 ∨ A.length = 4 ∨ A.length = 5 ∨ A.length = 6 ∨ A.length = 7 := by omega
  rcases hcs with h | h | h | h | h | h | h
  all_goals
    rw [h] at x0 HS HN h1 ⊢
    clear h hl1 hl7
    simp only [Nat.reduceSub, Nat.add_zero] at x0
    by_cases h128 : 128 ≤ x
    · have HV := Lib.hid (show sgnL A = s - _ by rw [HS.out, if_pos h128])
      have d1 : decide (x ≥ 128) = true := decide_eq_true h128
      go_enter Try.func92, Try.ntmps92
      go_wp2_with fail
      refine HN.out.mono ?_
      rintro e w' ⟨rfl, rfl⟩
      go_wp2_with fail
      go_ret
      exact ⟨ret_int (by rw [HV.out]; go_num), rfl⟩
    · have HV := Lib.hid (show sgnL A = s by rw [HS.out, if_neg h128]; omega)
      have d1 : decide (x ≥ 128) = false := decide_eq_false h128
      go_enter Try.func92, Try.ntmps92
      go_wp2_with fail
      refine HN.out.mono ?_
      rintro e w' ⟨rfl, rfl⟩
      go_wp2_with fail
      go_ret
      exact ⟨ret_int (by rw [HV.out]), rfl⟩
end Go.Proofs.Ytijjkonephjodaa
