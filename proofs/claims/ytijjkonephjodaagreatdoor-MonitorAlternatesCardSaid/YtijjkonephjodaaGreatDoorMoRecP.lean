/- Recover as plain data; rows of uint16. -/
import Derived.Test.YtijjkonephjodaaGreatDoorMoBits
import Derived.Test.YtijjkonephjodaaGreatDoorMoIx
import Derived.Test.YtijjkonephjodaaGreatDoorMoFind
namespace Go.Proofs.YtijjkonephjodaaGreatDoor
open Go.RowKit
set_option linter.unusedVariables false
set_option linter.unusedSimpArgs false
def w16s (l : List Nat) : List Value := l.map fun n => .int .u16 ((n : Nat) : Int)
theorem w16s_length (l : List Nat) : (w16s l).length = l.length := by simp [w16s]
/-- A row of uint16 in a block of the call's own. -/
def Row16 (w : World) (g : Nat) (st : List Nat) : Prop := w.heap[g]? = some (.cells (w16s st).toArray 38 (0, 0))
theorem Row16.c {w : World} {g : Nat} {st : List Nat} (h : Row16 w g st) {i : Nat} (hi : i < st.length) : w.cell? ⟨g, i, none⟩ = some (.int .u16 ((st.getD i 0 : Nat) : Int)) := by
  rw [cell_blk h]
  simp only [w16s, List.getElem?_toArray, List.getElem?_map, List.getD_eq_getElem?_getD]
  rw [List.getElem?_eq_getElem hi]
  rfl
theorem Row16.fr {w : World} {g : Nat} {st : List Nat} (h : Row16 w g st) (i : Nat) : w.frozen? ⟨g, i, none⟩ = false := froz_blk h i
theorem Row16.set {w : World} {g : Nat} {st : List Nat} (h : Row16 w g st) (i x : Nat) : Row16 (w.setCell ⟨g, i, none⟩ (.int .u16 ((x : Nat) : Int))) g (st.set i x) := by
  have h1 := heap_setCell (i := i) (v := .int .u16 ((x : Nat) : Int)) h
  unfold Row16
  rw [h1]
  congr 2
  simp [w16s, List.map_set]
theorem Row16.mods {S : List Nat} {w w' : World} {g : Nat} {st : List Nat} (h : Row16 w g st) (M : Mods S w w') (hg : g ∉ S) : Row16 w' g st := M.heap h hg
theorem Row16.mods0 {w w' : World} {g : Nat} {st : List Nat} (h : Row16 w g st) (M : Mods [] w w') : Row16 w' g st := h.mods M (by simp)
theorem pow16 {j : Nat} (hj : j ≤ 14) : IntKind.u16.wrap ((2 : Int) ^ j) = ((2 ^ j : Nat) : Int) := by
  have h1 : ((2 : Int) ^ j) = ((2 ^ j : Nat) : Int) := by push_cast; rfl
  have h2 : 2 ^ j < 65536 := Nat.pow_lt_pow_right (a := 2) (n := 16) (by omega) (by omega)
  rw [h1, IntKind.wrap_u16]
  generalize 2 ^ j = p at h2 ⊢
  omega
theorem pow16_lt {j : Nat} (hj : j ≤ 14) : 2 ^ j < 65536 := Nat.pow_lt_pow_right (a := 2) (n := 16) (by omega) (by omega)
def newV (x ix : Nat) (de : Bool) : Nat := if de then x &&& (65535 - 2 ^ ix) else x ||| 2 ^ ix
theorem newV_lt {x ix : Nat} {de : Bool} (hx : x < 65536) (hi : ix ≤ 14) : newV x ix de < 65536 := by
  unfold newV
  split
  · exact Nat.lt_of_le_of_lt Nat.and_le_left hx
  · exact Nat.or_lt_two_pow (n := 16) hx (pow16_lt hi)
theorem or_clear {x ix : Nat} (hx : x < 65536) (hi : ix ≤ 14) : (x ||| 2 ^ ix) &&& (65535 - 2 ^ ix) = x &&& (65535 - 2 ^ ix) := by
  refine Nat.eq_of_testBit_eq fun i => ?_
  have hp := pow16_lt hi
  have e : (65535 - 2 ^ ix).testBit i = (decide (i < 16) && !(decide (i = ix))) := by
    have := Nat.testBit_two_pow_sub_succ (x := 2 ^ ix) (n := 16) hp i
    rw [show 2 ^ 16 - (2 ^ ix + 1) = 65535 - 2 ^ ix by omega] at this
    rw [this, Nat.testBit_two_pow]
    congr 2
    by_cases h : ix = i
    · simp [h]
    · simp [h, Ne.symm h]
  rw [Nat.testBit_and, Nat.testBit_and, Nat.testBit_or, e, Nat.testBit_two_pow]
  by_cases h : i = ix
  · subst h; simp
  · simp [h, Ne.symm h]
/-- Whether an event is about the sensor at a place (its number aside). -/
def recAt (l : List SenX) (e : Evt) (i : Nat) : Bool :=
  decide ((l.getD i default).S.type = e.st.val) && ((l.getD i default).S.disc != (evIx e).2.1) && (bitN (l.getD i default).S).testBit (evIx e).1
def recB (l : List SenX) (e : Evt) : Bool := (evIx e).2.2 && decide (numIdx l e.sen.val < l.length) && recAt l e (numIdx l e.sen.val)
def recStep (l : List SenX) (st : List Nat) (e : Evt) : List Nat :=
  if recB l e then st.set (numIdx l e.sen.val) (newV (st.getD (numIdx l e.sen.val) 0) (evIx e).1 e.de) else st
def recAll (l : List SenX) (E : List Evt) : List Nat := E.foldl (recStep l) (List.replicate l.length 0)
theorem recStep_length (l : List SenX) (st : List Nat) (e : Evt) : (recStep l st e).length = st.length := by unfold recStep; split <;> simp
theorem recStep_lt {l : List SenX} {st : List Nat} {e : Evt} (h : ∀ i, st.getD i 0 < 65536) : ∀ i, (recStep l st e).getD i 0 < 65536 := by
  intro i
  unfold recStep
  split
  · rw [List.getD_eq_getElem?_getD, List.getElem?_set]
    split
    · split
      · exact newV_lt (h _) (evIx_le e)
      · simp
    · have := h i
      rwa [List.getD_eq_getElem?_getD] at this
  · exact h i
/-- What Recover leaves. -/
def RecPost (w : World) (l : List SenX) (E : List Evt) (en : Ending) (w' : World) : Prop :=
  if chkS l = 0 then ∃ g, en = .returned (.tuple #[.slice (some ⟨g, 0, none⟩) l.length l.length, .int .i64 0]) ∧ w.heap.size ≤ g ∧ Row16 w' g (recAll l E) ∧ Mods [] w w'
  else en = .returned (.tuple #[.slice none 0 0, .int .i64 (chkS l)]) ∧ Mods [] w w'
end Go.Proofs.YtijjkonephjodaaGreatDoor
