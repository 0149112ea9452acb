/- Numbers of the dice: the remainder. -/
import Derived.Test.YtkdadnlleepkfaaMem
import Derived.Test.YtkdadnlleepkfaaProg
import Derived.Deep.QuietTactic
import Derived.BigQuiet
import Derived.StillTailTactics
import Derived.Deep.RegionWith
import Derived.Deep.RegionHeld3
namespace Go.Proofs.Ytkdadnlleepkfaa
open Go.RowKit

theorem not_from {B k : Nat} {w : World} (h : k < B) : k ∉ from_ B w := fun hj => by have := mem_from hj; omega
/-- In a quiet region: a contract that leaves the world alone. -/
theorem quiet_left {P : Program} {f : FuncId} {args : Array Value} {w : World} {n : Nat} {v : Value}
    (h : Calls P f args (w.drewN n) fun e w' => e = .returned v ∧ w.drewN n = w') : Calls P f args (w.drewN n) fun e w'' => e = .returned v ∧ ∃ m, w'' = w.drewN m :=
  h.mono fun _ _ ⟨he, hm⟩ => ⟨he, n, hm.symm⟩
theorem quiet_add_left {P : Program} {f : FuncId} {args : Array Value} {w : World} {a n : Nat} {v : Value}
    (h : Calls P f args (w.drewN (a + n)) fun e w' => e = .returned v ∧ w.drewN (a + n) = w') :
    Calls P f args (w.drewN (a + n)) fun e w'' => e = .returned v ∧ ∃ m, w'' = w.drewN (a + m) :=
  h.mono fun _ _ ⟨he, hm⟩ => ⟨he, n, hm.symm⟩
/-- Bounds of an int. -/
def I64 (n : Int) : Prop := -9223372036854775808 ≤ n ∧ n ≤ 9223372036854775807

theorem tmod_emod (n m : Int) (hm : 0 < m) : (if n.tmod m < 0 then n.tmod m + m else n.tmod m) = n % m := by
  have h1 := Int.tmod_add_mul_tdiv n m
  have h2 := Int.emod_nonneg n (show m ≠ 0 by omega)
  have h3 := Int.emod_lt_of_pos n hm
  have h4 := Int.tmod_lt_of_pos n hm
  rcases Int.lt_or_le n 0 with hn | hn
  · have h5 : -m < n.tmod m := by have := Int.neg_tmod n m; have h6 := Int.tmod_lt_of_pos (-n) hm; omega
    have h7 : n.tmod m ≤ 0 := by have := Int.neg_tmod n m; have h6 := Int.tmod_nonneg m (show 0 ≤ -n by omega); omega
    by_cases h : n.tmod m < 0
    · rw [if_pos h]
      have : n % m = (n.tmod m + m) % m := by
        have e : n = (n.tmod m) + m * n.tdiv m := by omega
        conv => lhs; rw [e]
        rw [Int.add_mul_emod_self_left, Int.add_emod_right]
      rw [this, Int.emod_eq_of_lt (by omega) (by omega)]
    · rw [if_neg h]
      have : n % m = (n.tmod m) % m := by
        have e : n = (n.tmod m) + m * n.tdiv m := by omega
        conv => lhs; rw [e]
        rw [Int.add_mul_emod_self_left]
      rw [this, Int.emod_eq_of_lt (by omega) (by omega)]
  · have h5 := Int.tmod_nonneg m hn
    rw [if_neg (by omega), Int.tmod_eq_emod_of_nonneg hn]

set_option maxHeartbeats 400000 in
theorem mod_ok (n m : Int) (w : World) (hn : I64 n) (hm : 0 < m) (hm2 : m ≤ 4611686018427387904) :
    Calls Try.prog 11 #[.int .i64 n, .int .i64 m] w fun e w' => e = .returned (.int .i64 (n % m)) ∧ w = w' := by
  have H := Lib.hid (tmod_emod n m hm)
  obtain ⟨hn1, hn2⟩ := hn
  have h4 := Int.tmod_lt_of_pos n hm
  have h5 : -m < n.tmod m := by have := Int.neg_tmod n m; have h6 := Int.tmod_lt_of_pos (-n) hm; omega
  by_cases hneg : n.tmod m < 0
  · by_cases hn0 : 0 ≤ n
    · have := Int.tmod_nonneg m hn0; omega
    · go_enter Try.func11, Try.ntmps11
      go_wp2
      go_ret
      refine ⟨ret_int ?_, rfl⟩
      rw [← H.out, if_pos hneg]
  · go_enter Try.func11, Try.ntmps11
    go_wp2
    go_ret
    refine ⟨ret_int ?_, rfl⟩
    rw [← H.out, if_neg (by omega)]
end Go.Proofs.Ytkdadnlleepkfaa
