/- uint16 as a kind of element. -/
import Derived.Test.YtijjkonephjodaaGreatDoorMo16
namespace Go.Proofs.YtijjkonephjodaaGreatDoor
open Go.RowKit
set_option linter.unusedVariables false
def u16E : Elt (Fin 65536) := ⟨38, 50, 1, fun n => [.int .u16 ((n.val : Nat) : Int)], ⟨0, by decide⟩⟩
theorem u16Ok : u16E.Ok Tryz.prog := by
  refine ⟨fun _ => rfl, fun a v hv => ?_, by decide, Tryz.underlying50, ?_⟩
  · simp [u16E] at hv; subst hv; rfl
  · obtain ⟨i0, hi, hz0, hz1, hz2⟩ := info_parts Tryz.info16
    exact ⟨i0, _, hi, hz0, hz1, by rw [hz2]; decide, rfl⟩
theorem f16v {x : Nat} (h : x < 65536) : (((f16 x).val : Nat) : Int) = (x : Int) := by show (((x % 65536 : Nat)) : Int) = _; rw [Nat.mod_eq_of_lt h]
/-- The first states, as a slice holds them. -/
def was16 (st : List Nat) (k : Nat) : List (Fin 65536) := (List.range k).map fun i => f16 (st.getD i 0)
theorem was16_len (st : List Nat) (k : Nat) : (was16 st k).length = k := by simp [was16]
theorem was16_succ (st : List Nat) (k : Nat) : was16 st (k + 1) = was16 st k ++ [f16 (st.getD k 0)] := by simp [was16, List.range_succ]
theorem was16_get (st : List Nat) {k i : Nat} (h : i < k) (d : Fin 65536) : (was16 st k).getD i d = f16 (st.getD i 0) := by
  unfold was16
  rw [List.getD_eq_getElem?_getD, List.getElem?_map, List.getElem?_range h]
  rfl
end Go.Proofs.YtijjkonephjodaaGreatDoor
