/- micro.Root and the reference's: contracts. -/
import Derived.Test.YtgjjmiaiclhidaaMicroDiv
import Derived.Test.YtgjjmiaiclhidaaFloatP
import Derived.WalkLawsBesides
namespace Go.Proofs.Ytgjjmiaiclhidaa
open Go.RowKit

set_option maxHeartbeats 2000000 in
theorem refRoot_ok (a : Int) (w : World) :
    Calls Try.prog 94 #[.int .i64 a] w fun e w' => e = .returned (.tuple #[.int .i64 (rootV a).1, .int .i64 (rootV a).2]) ∧ w = w' := by
  have HD := Lib.hid (show rootV a = if a < 0 then (0, 2) else (((rootN (clampI a * 1000000).toNat : Nat) : Int), 0) from rfl)
  have hsg := clampI_sign a
  have ⟨a1, a2⟩ := clampI_bd a
  have CA := Lib.hid (refClamp_ok a)
  generalize clampI a = x at *
  generalize rootV a = R at *
  by_cases h : a < 0
  · have HR := Lib.hid (show R = (0, 2) by rw [HD.out, if_pos h])
    clear hsg
    go_enter Try.func94, Try.ntmps94
    go_wp2
    go_ret2
    exact ⟨ret_two HR.out, rfl⟩
  · have x0 : 0 ≤ x := by omega
    obtain ⟨n, hn⟩ : ∃ n, n = x * 1000000 := ⟨_, rfl⟩
    have HR := Lib.hid (show R = (((rootN n.toNat : Nat) : Int), 0) by rw [HD.out, if_neg h, hn])
    have HN := Lib.hid hn
    have n0 : 0 ≤ n := by omega
    have n1 : n ≤ 1000000000000000000 := by omega
    have hw : wrap64 (x * 1000000) = n := by rw [hn]; exact IntWalk.wrap64_in _ (by omega)
    have hw2 : x * 1000000 = n := hn.symm
    clear hsg hn
    go_enter Try.func94, Try.ntmps94
    go_wp2_with fail
    refine (CA.out _).mono ?_
    rintro e w' ⟨rfl, rfl⟩
    go_wp2_with fail
    clear hw hw2
    go_loop [5, 6] (fun l h => ∃ lo hi : Nat, l = .int .i64 lo ∧ h = .int .i64 hi ∧ lo ≤ hi ∧ hi ≤ 1000000000 ∧ Hid ((lo : Int) * lo ≤ n) ∧ Hid (n < ((hi : Int) + 1) * (hi + 1))) (fun l h => (intOf h).toNat - (intOf l).toNat)
    case atStart => exact ⟨0, 1000000000, rfl, rfl, by omega, by omega, Lib.hid (by omega), Lib.hid (by omega)⟩
    case round =>
      obtain ⟨lo, hi, rfl, rfl, h1, h2, s1, s2⟩ := hrel
      by_cases hlt : lo < hi
      · obtain ⟨m, hm⟩ : ∃ m : Nat, ((lo : Int) + hi + 1) / 2 = (m : Int) := ⟨(lo + hi + 1) / 2, by omega⟩
        have m1 : lo < m := by omega
        have m2 : m ≤ hi := by omega
        have HMM := Lib.hid hm
        have mm := mul_bds (a := (m : Int)) (b := m) (A := 1000000000) (B := 1000000000) (by omega) (by omega)
        obtain ⟨mm1, mm2⟩ := mm
        by_cases hle : (m : Int) * m ≤ n
        · go_wp2
          go_round
          case rel => exact ⟨m, hi, by first | rfl | (rw [HMM.out]), rfl, by omega, h2, Lib.hid hle, s2⟩
          case measure => simp [intOf]; omega
        · go_wp2
          go_round
          case rel => exact ⟨lo, m - 1, rfl, by go_num, by omega, by omega, s1, Lib.hid (by rw [show ((m - 1 : Nat) : Int) + 1 = m by omega]; omega)⟩
          case measure => simp [intOf]; omega
      · obtain rfl : lo = hi := by omega
        have HQ := Lib.hid (rootN_eq n0 s1.out s2.out)
        go_wp2
        go_ret2
        exact ⟨ret_two (by rw [HR.out, HQ.out]), rfl⟩
theorem sqrt_ext (x r : Nat) (h : FloatKind.f64.format.sqrt x = some r) (w : World) : (callFunc 148 #[.float .f64 x]).run Try.prog w = .ok (.value (.float .f64 r)) w := by
  rw [run_callFunc_extern (e := Extern.MathSqrt.sqrt) Try.func148 (by kernel_rfl) (by kernel_rfl) (by kernel_rfl) (by kernel_rfl)]
  have e : (Extern.MathSqrt.sqrt #[.float .f64 x]).run Try.prog w = .ok (.float .f64 r) w := by
    change Sem.run _ (match FloatKind.f64.format.sqrt x with | some r => pure (Value.float .f64 r) | none => do pure (Value.float .f64 (← choose (.nanBits .f64 x x)))) w = _
    rw [h]
    rfl
  rw [e]; rfl
set_option maxHeartbeats 400000 in
theorem sqrt_ok (x r : Nat) (h : FloatKind.f64.format.sqrt x = some r) (w : World) :
    Calls Try.prog 142 #[.float .f64 x] w fun e w' => e = .returned (.float .f64 r) ∧ w = w' := by
  have hx := sqrt_ext x r h w
  clear h
  go_enter Try.func142, Try.ntmps142
  go_wp2
  go_ret
  exact ⟨rfl, rfl⟩
set_option maxHeartbeats 2000000 in
theorem root_ok (a : Int) (w : World) :
    Calls Try.prog 123 #[.int .i64 a] w fun e w' => e = .returned (.tuple #[.int .i64 (rootV a).1, .int .i64 (rootV a).2]) ∧ w = w' := by
  have HD := Lib.hid (show rootV a = if a < 0 then (0, 2) else (((rootN (clampI a * 1000000).toNat : Nat) : Int), 0) from rfl)
  have hsg := clampI_sign a
  have ⟨a1, a2⟩ := clampI_bd a
  have CA := Lib.hid (clamp_ok a)
  generalize clampI a = x at *
  generalize rootV a = R at *
  by_cases h : a < 0
  · have HR := Lib.hid (show R = (0, 2) by rw [HD.out, if_pos h])
    have x0 : x < 0 := hsg.2 h
    clear hsg
    go_enter Try.func123, Try.ntmps123
    go_wp2_with fail
    refine (CA.out _).mono ?_
    rintro e w' ⟨rfl, rfl⟩
    go_wp2
    go_ret2
    exact ⟨ret_two HR.out, rfl⟩
  · have x0 : 0 ≤ x := by omega
    obtain ⟨N, hn⟩ : ∃ N : Nat, (N : Int) = x * 1000000 := ⟨(x * 1000000).toNat, by omega⟩
    have HR := Lib.hid (show R = (((rootN N : Nat) : Int), 0) by rw [HD.out, if_neg h, ← hn, Int.toNat_natCast])
    have HN := Lib.hid hn
    have n1 : N ≤ 1000000000000000000 := by omega
    have hw : wrap64 (x * 1000000) = (N : Int) := by rw [hn]; exact IntWalk.wrap64_in _ (by omega)
    have hw2 : x * 1000000 = (N : Int) := hn.symm
    obtain ⟨r, k, hs, ht, hk⟩ := guess N n1
    clear hsg hn
    go_enter Try.func123, Try.ntmps123
    go_wp2_with fail
    refine (CA.out _).mono ?_
    rintro e w' ⟨rfl, rfl⟩
    go_wp2_with fail
    clear hw hw2
    have hfi : floatToIntVal .f64 r .i64 = some (k : Int) := by
      unfold floatToIntVal
      rw [ht]
      exact if_pos ⟨by show (-9223372036854775808 : Int) ≤ k; omega, by show (k : Int) ≤ 9223372036854775807; omega⟩
    have HC := Lib.hid (fun w' : World => run_convert_float_int (P := Try.prog) w' 163 2 .f64 .i64 r (k : Int) (by kernel_rfl) (by kernel_rfl) hfi)
    refine (sqrt_ok _ r hs _).mono ?_
    rintro e w' ⟨rfl, rfl⟩
    have hc := HC.out w
    clear hs ht hfi
    go_wp2_with fail
    clear hc
    have N0 : (0 : Int) ≤ (N : Int) := by omega
    go_loop [5] (fun l => ∃ q : Nat, l = .int .i64 q ∧ q ≤ 2147483648) (fun l => (intOf l).toNat)
    case atStart => exact ⟨k, rfl, hk⟩
    case round =>
      obtain ⟨q, rfl, hq⟩ := hrel
      obtain ⟨q1, q2⟩ := mul_bds (a := (q : Int)) (b := q) (A := 2147483648) (B := 2147483648) (by omega) (by omega)
      by_cases hgt : (N : Int) < (q : Int) * q
      · have hq0 : 0 < q := by
          rcases Nat.eq_zero_or_pos q with h0 | h0
          · subst h0; simp at hgt; omega
          · exact h0
        go_wp2
        go_round
        case rel => exact ⟨q - 1, by go_num, by omega⟩
        case measure => simp [intOf]; omega
      · have HG := Lib.hid (show (q : Int) * q ≤ N by omega)
        go_wp2_with fail
        clear q1 q2
        go_loop [5] (fun l => ∃ q : Nat, l = .int .i64 q ∧ q ≤ 2147483648 ∧ Hid ((q : Int) * q ≤ N)) (fun l => (2147483649 - intOf l).toNat)
        case atStart => exact ⟨q, rfl, hq, HG⟩
        case round =>
          obtain ⟨s, rfl, hs, G⟩ := hrel
          obtain ⟨s1, s2⟩ := mul_bds (a := (s : Int) + 1) (b := (s : Int) + 1) (A := 2147483649) (B := 2147483649) (by omega) (by omega)
          by_cases hle : ((s : Int) + 1) * (s + 1) ≤ N
          · have hs9 : s + 1 ≤ 1000000000 := by
              rcases Nat.lt_or_ge 1000000000 (s + 1) with h0 | h0
              · have := Int.mul_le_mul (show (1000000001 : Int) ≤ (s : Int) + 1 by omega) (show (1000000001 : Int) ≤ (s : Int) + 1 by omega) (by omega) (by omega)
                omega
              · exact h0
            go_wp2
            go_round
            case rel => exact ⟨s + 1, by go_num, by omega, Lib.hid (by rw [show ((s + 1 : Nat) : Int) = (s : Int) + 1 by omega]; exact hle)⟩
            case measure => simp [intOf]; omega
          · have HQ := Lib.hid (rootN_eq N0 G.out (by omega))
            go_wp2
            go_ret2
            exact ⟨ret_two (by rw [HR.out, ← HQ.out, Int.toNat_natCast]), rfl⟩
end Go.Proofs.Ytgjjmiaiclhidaa
