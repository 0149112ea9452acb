/- A sensor is found by its number, plain. -/
import Derived.Test.YtijjkonephjodaaGreatDoorMoFind
namespace Go.Proofs.YtijjkonephjodaaGreatDoor
open Go.RowKit
theorem numIdx_at {l : List SenX} {n : Nat} (h : numIdx l n < l.length) : numS l (numIdx l n) = n := by
  have := List.findIdx_getElem (p := isNum n) (xs := l) (w := h)
  unfold numS
  rw [List.getD_eq_getElem?_getD, List.getElem?_eq_getElem h]
  exact of_decide_eq_true this
theorem numIdx_first {l : List SenX} {n j : Nat} (h : j < numIdx l n) : numS l j ≠ n := by
  have hj : j < l.length := Nat.lt_of_lt_of_le h (numIdx_le l n)
  have := List.not_of_lt_findIdx (p := isNum n) (xs := l) (i := j) h
  unfold numS
  rw [List.getD_eq_getElem?_getD, List.getElem?_eq_getElem hj]
  intro h2
  have h3 : isNum n l[j] = true := decide_eq_true h2
  simp [h3] at this
theorem num_only {l : List SenX} (hg : ∀ i, i < l.length → goodS l i = true) {n i : Nat} (hi : i < l.length) : numS l i = n ↔ i = numIdx l n := by
  constructor
  · intro h
    rcases Nat.lt_trichotomy i (numIdx l n) with h1 | h1 | h1
    · exact absurd h (numIdx_first h1)
    · exact h1
    · have h2 := numIdx_at (l := l) (n := n) (by omega)
      have h3 := goodS_lt hg i hi (numIdx l n) h1
      omega
  · intro h
    rw [h]
    exact numIdx_at (by omega)
end Go.Proofs.YtijjkonephjodaaGreatDoor
