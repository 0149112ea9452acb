/- convert's small functions and the reference's: contracts. -/
import Derived.Test.YtijjkonephjodaaSenPlain
import Derived.Test.YtijjkonephjodaaDice
import Derived.BigGuardPart
namespace Go.Proofs.Ytijjkonephjodaa
open Go.RowKit

theorem number_ok (sgn : Bool) (r : Nat) (hr : r < 256) (w : World) :
    Calls Try.prog 115 #[.bool sgn, .int .u8 r] w fun e w' => e = .returned (.int .i64 (numI sgn r)) ∧ w = w' := by
  have HN := Lib.hid (show numI true r = IntKind.i8.wrap (r : Int) by
    have e : IntKind.i8.wrap (r : Int) = if 128 ≤ (r : Int) % 256 then (r : Int) % 256 - 256 else (r : Int) % 256 := by simp [IntKind.wrap, IntKind.bits, IntKind.signed]
    rw [e]; simp only [numI]
    split <;> split <;> simp_all <;> omega)
  have HW := Lib.hid (show wrap64 (IntKind.i8.wrap (r : Int)) = IntKind.i8.wrap (r : Int) by
    have e : IntKind.i8.wrap (r : Int) = if 128 ≤ (r : Int) % 256 then (r : Int) % 256 - 256 else (r : Int) % 256 := by simp [IntKind.wrap, IntKind.bits, IntKind.signed]
    exact IntWalk.wrap64_in _ ⟨by rw [e]; split <;> omega, by rw [e]; split <;> omega⟩)
  have HF := Lib.hid (show numI false r = (r : Int) by simp [numI])
  cases sgn with
  | true =>
    go_enter Try.func115, Try.ntmps115
    go_wp2
    go_ret
    exact ⟨ret_int (by rw [HN.out, HW.out]), rfl⟩
  | false =>
    go_enter Try.func115, Try.ntmps115
    go_wp2
    go_ret
    exact ⟨ret_int (by rw [HF.out]), rfl⟩
set_option maxRecDepth 100000 in
theorem refNumber_ok (sgn : Bool) (r : Nat) (hr : r < 256) (w : World) :
    Calls Try.prog 105 #[.bool sgn, .int .u8 r] w fun e w' => e = .returned (.int .i64 (numI sgn r)) ∧ w = w' := by
  have HF := Lib.hid (show numI false r = (r : Int) by simp [numI])
  cases sgn with
  | true =>
    by_cases h : 128 ≤ r
    · have HN := Lib.hid (show numI true r = (r : Int) - 256 by simp [numI, h])
      go_enter Try.func105, Try.ntmps105
      go_wp2
      go_ret
      exact ⟨ret_int (by rw [HN.out]), rfl⟩
    · have HN := Lib.hid (show numI true r = (r : Int) by simp [numI, h])
      go_enter Try.func105, Try.ntmps105
      go_wp2
      go_ret
      exact ⟨ret_int (by rw [HN.out]), rfl⟩
  | false =>
    go_enter Try.func105, Try.ntmps105
    go_wp2
    go_ret
    exact ⟨ret_int (by rw [HF.out]), rfl⟩
theorem factor_ok (n : Int) (w : World) :
    Calls Try.prog 102 #[.int .i64 n] w fun e w' => e = .returned (.bool (facB n)) ∧ w = w' := by
  go_enter Try.func102, Try.ntmps102
  go_wp2
  all_goals
    go_ret
    exact ⟨ret_bool (by simp [facB]; omega), rfl⟩
theorem power_ok (n : Int) (w : World) :
    Calls Try.prog 103 #[.int .i64 n] w fun e w' => e = .returned (.bool (powB n)) ∧ w = w' := by
  go_enter Try.func103, Try.ntmps103
  go_wp2
  all_goals
    go_ret
    exact ⟨ret_bool (by simp [powB]; omega), rfl⟩
def clampI (v : Int) : Int := max (-1000000000000) (min v 1000000000000)
theorem clamp_ok (v : Int) (w : World) :
    Calls Try.prog 117 #[.int .i64 v] w fun e w' => e = .returned (.int .i64 (clampI v)) ∧ w = w' := by
  go_enter Try.func117, Try.ntmps117
  go_wp2
  all_goals
    go_ret
    exact ⟨ret_int (by unfold clampI; omega), rfl⟩
end Go.Proofs.Ytijjkonephjodaa
