/- Changes that came in. -/
import Derived.Test.YtokokojmeepoeaaSlices
import Derived.Test.YtokokojmeepoeaaDApply
namespace Go.Proofs.Ytokokojmeepoeaa
open Go.RowKit Go.ChangeShapes Go.WideShapes Go.Deep

theorem chgs_in {H : Type} {enc : TypeId × Value → H} {w : World} {base : Nat} {spare : Nat → Bool} {held : Bool} {fuel : Nat} {v : Value} {x : DataW H × List MemPlace}
    (h : DataW.trod enc Try.prog w base spare held fuel 42 [v] = some x) : ∃ l, RdChg w v l ∧ ChgOk l := by
  have hu := Try.underlying42
  have hs := Try.underlying51
  rcases open_slice_fields hu hs (by kernel_rfl) (by kernel_rfl) h with h0 | ⟨a, len, cap, hcs, hl, hm, hi⟩
  · simp at h0
    subst h0
    exact ⟨[], RdChg.nil w, fun i => by simp [default, I64]⟩
  · simp at hcs
    subst hcs
    have key : ∀ i, i < len → ∃ d : Chg, I64 d.idx ∧ ∃ b off, a = ⟨b, off, none⟩ ∧ w.cell? ⟨b, off + i * 2, none⟩ = some (.int .i64 d.idx) ∧ w.cell? ⟨b, off + i * 2 + 1, none⟩ = some (.bool d.on) := by
      intro i hil
      obtain ⟨_, hf0⟩ := hi 0 (by omega)
      obtain ⟨_, _, c00, _⟩ := hf0 0 _ rfl
      obtain ⟨_, _, _, _, hsp⟩ := rd_add c00
      have hsp := hsp (by simp)
      obtain ⟨b, off, spot⟩ := a
      simp only at hsp
      subst hsp
      obtain ⟨n, hf⟩ := hi i hil
      obtain ⟨v0, y0, c0, t0⟩ := hf 0 _ rfl
      obtain ⟨v1, y1, c1, t1⟩ := hf 1 _ rfl
      obtain ⟨n0, e0, _, w0⟩ := DataW.trod_int Try.underlying3 t0
      obtain ⟨n1, e1, _⟩ := DataW.trod_bool Try.underlying4 t1
      simp only [List.cons.injEq, and_true] at e0 e1
      subst e0 e1
      exact ⟨⟨n0, n1⟩, bounds_i64 w0, b, off, rfl, dot_cell c0, dot_cell c1⟩
    obtain ⟨l, hll, hq⟩ := list_of (default : Chg) len (fun i d => I64 d.idx ∧ ∃ b off, a = ⟨b, off, none⟩ ∧ w.cell? ⟨b, off + i * 2, none⟩ = some (.int .i64 d.idx) ∧ w.cell? ⟨b, off + i * 2 + 1, none⟩ = some (.bool d.on)) key
    refine ⟨l, ⟨some a, cap, by rw [hll], by omega, hm, fun i hil => ?_⟩, fun i => ?_⟩
    · obtain ⟨_, b, off, h2, h3⟩ := hq i (by omega)
      exact ⟨b, off, by rw [h2], h3⟩
    · rcases Nat.lt_or_ge i len with h | h
      · exact (hq i h).1
      · rw [List.getD_eq_getElem?_getD, List.getElem?_eq_none (by omega)]; simp [default, I64]
end Go.Proofs.Ytokokojmeepoeaa
