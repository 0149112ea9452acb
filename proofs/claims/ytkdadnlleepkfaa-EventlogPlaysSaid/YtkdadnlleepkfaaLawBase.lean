/- What every law's proof wants: a slice of ints that came in, read. -/
import Derived.Test.YtkdadnlleepkfaaMem
import Derived.ProofKit
import Derived.OpenShut
namespace Go.Proofs.Ytkdadnlleepkfaa
open Go.RowKit
theorem rd_add {w : World} {x : Addr} {i : Nat} {v : Value} (h : w.cell? (x.add i) = some v) : ∃ b off, x = ⟨b, off, x.spot⟩ ∧ w.cell? ⟨b, off + i, none⟩ = some v ∧ (i = 0 → x.spot = none) := by
  obtain ⟨b, off, spot⟩ := x
  refine ⟨b, off, rfl, ?_, ?_⟩
  · unfold Addr.add at h
    split at h
    · rename_i h0
      subst h0
      have := World.cell?_spot h
      simp at this
      subst this
      simpa using h
    · exact h
  · intro h0
    subst h0
    have := World.cell?_spot (a := ⟨b, off, spot⟩) (by simpa [Addr.add] using h)
    exact this
/-- The reading of a slice that came in, out of its cells. -/
theorem rd_in {w : World} {x : Addr} {len cap : Nat} {l : List Value} (hl : l.length = len) (h1 : len ≤ cap) (h2 : cap ≤ maxLen) (hc : ∀ i, i < len → w.cell? (x.add i) = some (l.getD i undef)) : Rd w (.slice (some x) len cap) l := by
  subst hl
  refine ⟨some x, cap, rfl, h1, h2, fun i hi => ?_⟩
  obtain ⟨b0, off0, e0, _, h0⟩ := rd_add (hc 0 (by omega))
  obtain ⟨b, off, e, h3, _⟩ := rd_add (hc i hi)
  rw [h0 rfl] at e
  exact ⟨b, off, congrArg some e, h3⟩
/-- A slice of integers that came in: nil, or a row of 'cap' cells. -/
def IsRow (k : IntKind) (w : World) (a : Option Addr) (len cap : Nat) (zs : List Int) : Prop :=
  (a = none ∧ len = 0 ∧ cap = 0 ∧ zs = []) ∨
  ∃ x, a = some x ∧ len ≤ cap ∧ cap ≤ maxLen ∧ zs.length = cap ∧ (∀ i, i < zs.length → w.cell? (x.add i) = some (.int k (zs.getD i 0))) ∧ ∀ n ∈ zs, (Lit.int k n).wf = true
theorem IsRow.rd {k : IntKind} {w : World} {a : Option Addr} {len cap : Nat} {zs : List Int} (h : IsRow k w a len cap zs) : Rd w (.slice a len cap) ((zs.take len).map (Value.int k)) ∧ (zs.take len).length = len := by
  rcases h with ⟨rfl, rfl, rfl, rfl⟩ | ⟨x, rfl, h1, h2, h3, h4, _⟩
  · exact ⟨Rd.nil w, rfl⟩
  · have hl : (zs.take len).length = len := by simp; omega
    refine ⟨rd_in (by rw [List.length_map, hl]) h1 h2 fun i hi => ?_, hl⟩
    rw [h4 i (by omega)]
    simp only [List.getD_eq_getElem?_getD, List.getElem?_map, List.getElem?_take, if_pos hi]
    rw [List.getElem?_eq_getElem (by omega)]
    rfl
theorem IsRow.i64 {w : World} {a : Option Addr} {len cap : Nat} {zs : List Int} (h : IsRow .i64 w a len cap zs) (i : Nat) : -9223372036854775808 ≤ (zs.take len).getD i 0 ∧ (zs.take len).getD i 0 ≤ 9223372036854775807 := by
  have hz : ∀ n ∈ zs, (Lit.int .i64 n).wf = true := by
    rcases h with ⟨_, _, _, rfl⟩ | ⟨_, _, _, _, _, _, h⟩
    · simp
    · exact h
  have := range_i64 (zs := zs.take len) (fun n hn => hz n (List.mem_of_mem_take hn)) i
  simpa [List.getD_eq_getElem?_getD] using this
end Go.Proofs.Ytkdadnlleepkfaa
