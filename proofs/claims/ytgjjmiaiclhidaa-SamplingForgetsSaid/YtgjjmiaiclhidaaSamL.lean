/- Whether two filters are the same; whether a sensor and a filter are short enough: contracts. -/
import Derived.Test.YtgjjmiaiclhidaaSamV
import Derived.Test.YtgjjmiaiclhidaaBaseA
import Derived.Test.YtgjjmiaiclhidaaBaseH
import Derived.Test.YtgjjmiaiclhidaaFltIn
import Derived.BigGuardPart
namespace Go.Proofs.Ytgjjmiaiclhidaa
open Go.RowKit

set_option maxRecDepth 100000 in
set_option maxHeartbeats 2000000 in
theorem same14_ok (w : World) (va vb : Value) (A B : List Int) (m n : Int) (ha : Rd w va (u8s A)) (hb : Rd w vb (u8s B)) :
    Calls Try.prog 70 #[.agg #[va, .int .i64 m], .agg #[vb, .int .i64 n]] w fun e w' => e = .returned (.bool (decide (m = n) && (A == B))) ∧ Mods [] w w' := by
  have HS := Lib.hid (fun W (M : Mods [] w W) => same_ok W va vb A B (ha.mods0 M) (hb.mods0 M))
  obtain ⟨aa, ca, rfl, -⟩ := ha.u8
  obtain ⟨ab, cb, rfl, -⟩ := hb.u8
  have HM0 := Lib.hid (((Mods.refl (S := []) (w := w)).alloc (.cells #[.slice aa A.length ca, .int .i64 m] 90)).alloc (.cells #[.slice ab B.length cb, .int .i64 n] 90))
  clear ha hb
  go_enter Try.func70, Try.ntmps70
  by_cases h : m = n
  · subst h
    have e0 : (m == m) = true := by simp
    go_wp2_with fail
    refine (HS.out _ HM0.out).mono ?_
    rintro e w' ⟨rfl, q, rfl⟩
    go_wp2
    go_ret
    exact ⟨ret_bool (by simp), HM0.out.drewN q⟩
  · have e0 : (m == n) = false := by simpa using h
    have HF := Lib.hid (decide_eq_false h)
    clear h
    go_wp2_with fail
    go_ret
    exact ⟨ret_bool (by rw [HF.out]; rfl), HM0.out⟩
def light14 (S : Sen) (P : List Pt) (W : List Int) : Bool := decide (S.name.size ≤ 100 ∧ P.length ≤ 40 ∧ W.length ≤ 40)
set_option maxRecDepth 100000 in
set_option maxHeartbeats 2000000 in
theorem light14_ok (w : World) (S : Sen) (P : List Pt) (win : Value) (W : List Int) (n : Int) (hS : SenIn w S P) (hF : FltIn w win W n) :
    Calls Try.prog 62 #[.agg S.cells, .agg #[win, .int .i64 n]] w fun e w' => e = .returned (.bool (light14 S P W)) ∧ Mods [] w w' := by
  obtain ⟨ad, cap, rfl, h1, h2, -⟩ := hF.rd.u8
  have h3 : cap ≤ 9223372036854775807 := h2
  have HM0 := Lib.hid (((Mods.refl (S := []) (w := w)).alloc (.cells S.cells 32)).alloc (.cells #[.slice ad W.length cap, .int .i64 n] 90))
  have hnm : S.name.size ≤ 9223372036854775807 := hS.name
  obtain ⟨adp, capp, hpts⟩ := hS.rd.len
  have c3 : S.cells[3]? = some (.string S.name) := rfl
  have c13 : S.cells[13]? = some (.slice adp P.length capp) := by rw [← hpts]; rfl
  have HL := Lib.hid (show light14 S P W = decide (S.name.size ≤ 100 ∧ P.length ≤ 40 ∧ W.length ≤ 40) from rfl)
  clear hpts hS hF h2
  go_enter Try.func62, Try.ntmps62
  go_wp2_with fail
  all_goals
    go_ret
    exact ⟨ret_bool (by rw [HL.out]; first | exact (decide_eq_true (by omega)).symm | exact (decide_eq_false (by omega)).symm | (rw [Bool.eq_iff_iff, decide_eq_true_eq, decide_eq_true_eq]; omega)), HM0.out⟩
end Go.Proofs.Ytgjjmiaiclhidaa
