/- micro.Clamp, floor, Div and the reference's: contracts. -/
import Derived.Test.YtgjjmiaiclhidaaNums
import Derived.Test.YtgjjmiaiclhidaaFix
import Derived.IntWalk
import Derived.BigGuardPart
namespace Go.Proofs.Ytgjjmiaiclhidaa
open Go.RowKit

set_option maxHeartbeats 400000 in
theorem refClamp_ok (v : Int) (w : World) : Calls Try.prog 51 #[.int .i64 v] w fun e w' => e = .returned (.int .i64 (clampI v)) ∧ w = w' := by
  go_enter Try.func51, Try.ntmps51
  go_wp2
  all_goals (go_ret; exact ⟨ret_int (by unfold clampI; first | rfl | omega), rfl⟩)
set_option maxHeartbeats 400000 in
theorem cfloor_ok (n d : Int) (w : World) (hn : -9000000000000000000 ≤ n ∧ n ≤ 9000000000000000000) (h0 : 0 < d) (h1 : d ≤ 9000000000000000000) :
    Calls Try.prog 136 #[.int .i64 n, .int .i64 d] w fun e w' => e = .returned (.int .i64 (n / d)) ∧ w = w' := by
  have H := Lib.hid (floor_pos n d h0)
  obtain ⟨hn1, hn2⟩ := hn
  have hq := tquot_bd n d 9000000000000000000 hn1 hn2
  have h4 := Int.tmod_lt_of_pos n h0
  have h5 : -d < n.tmod d := by have := Int.neg_tmod n d; have h6 := Int.tmod_lt_of_pos (-n) h0; omega
  have hw : IntKind.i64.wrap (n.tdiv d) = n.tdiv d := IntWalk.i64_in _ (by omega)
  have hr : IntKind.i64.wrap (n.tmod d) = n.tmod d := IntWalk.i64_in _ (by omega)
  obtain ⟨hq1, hq2⟩ := hq
  by_cases hneg : n.tmod d < 0
  · by_cases hn0 : 0 ≤ n
    · have := Int.tmod_nonneg d hn0; omega
    · go_enter Try.func136, Try.ntmps136
      go_wp2
      go_ret
      refine ⟨ret_int ?_, rfl⟩
      rw [← H.out, if_pos hneg]
  · go_enter Try.func136, Try.ntmps136
    go_wp2
    go_ret
    refine ⟨ret_int ?_, rfl⟩
    rw [← H.out, if_neg (by omega)]
set_option maxHeartbeats 400000 in
theorem rfloor_ok (n d : Int) (w : World) (hn : -9000000000000000000 ≤ n ∧ n ≤ 9000000000000000000) (h0 : 0 < d) (h1 : d ≤ 9000000000000000000) :
    Calls Try.prog 124 #[.int .i64 n, .int .i64 d] w fun e w' => e = .returned (.int .i64 (n / d)) ∧ w = w' := by
  have H := Lib.hid (floor_pos n d h0)
  obtain ⟨hn1, hn2⟩ := hn
  have hq := tquot_bd n d 9000000000000000000 hn1 hn2
  have h4 := Int.tmod_lt_of_pos n h0
  have h5 : -d < n.tmod d := by have := Int.neg_tmod n d; have h6 := Int.tmod_lt_of_pos (-n) h0; omega
  have hw : IntKind.i64.wrap (n.tdiv d) = n.tdiv d := IntWalk.i64_in _ (by omega)
  have hr : IntKind.i64.wrap (n.tmod d) = n.tmod d := IntWalk.i64_in _ (by omega)
  obtain ⟨hq1, hq2⟩ := hq
  by_cases hneg : n.tmod d < 0
  · by_cases hn0 : 0 ≤ n
    · have := Int.tmod_nonneg d hn0; omega
    · go_enter Try.func124, Try.ntmps124
      go_wp2
      go_ret
      refine ⟨ret_int ?_, rfl⟩
      rw [← H.out, if_pos hneg]
  · go_enter Try.func124, Try.ntmps124
    go_wp2
    go_ret
    refine ⟨ret_int ?_, rfl⟩
    rw [← H.out, if_neg (by omega)]
end Go.Proofs.Ytgjjmiaiclhidaa
