/- Samples that came in. -/
import Derived.Test.YtgjjmiaiclhidaaBaseH
import Derived.Test.YtgjjmiaiclhidaaSamRun
namespace Go.Proofs.Ytgjjmiaiclhidaa
open Go.RowKit Go.ChangeShapes Go.WideShapes Go.Deep

theorem tks_in {H : Type} {enc : TypeId × Value → H} {w : World} {base : Nat} {spare : Nat → Bool} {held : Bool} {fuel : Nat} {v : Value} {x : DataW H × List MemPlace}
    (h : DataW.trod enc Try.prog w base spare held fuel 99 [v] = some x) : ∃ l, RdTk w v l ∧ ∀ t ∈ l, t.raw < 256 := by
  have hu := Try.underlying99
  have hs := Try.underlying103
  rcases open_slice_fields hu hs (by kernel_rfl) (by kernel_rfl) h with h0 | ⟨a, len, cap, hcs, hl, hm, hi⟩
  · simp at h0
    subst h0
    exact ⟨[], ⟨none, 0, rfl, Nat.le_refl _, Nat.zero_le _, fun i hi => by simp at hi⟩, fun t ht => by cases ht⟩
  · simp at hcs
    subst hcs
    have key : ∀ i, i < len → ∃ d : Tk, d.raw < 256 ∧ ∃ b off, a = ⟨b, off, none⟩ ∧ w.cell? ⟨b, off + i * 2, none⟩ = some (.int .u8 (d.raw : Nat)) ∧ w.cell? ⟨b, off + i * 2 + 1, none⟩ = some (.bool d.miss) := by
      intro i hil
      obtain ⟨_, hf0⟩ := hi 0 (by omega)
      obtain ⟨_, _, c00, _⟩ := hf0 0 _ rfl
      obtain ⟨_, _, _, _, hsp⟩ := rd_add c00
      have hsp := hsp (by simp)
      obtain ⟨b, off, spot⟩ := a
      simp only at hsp
      subst hsp
      obtain ⟨n, hf⟩ := hi i hil
      obtain ⟨v0, y0, c0, t0⟩ := hf 0 _ rfl
      obtain ⟨v1, y1, c1, t1⟩ := hf 1 _ rfl
      obtain ⟨n0, e0, _, w0⟩ := DataW.trod_int Try.underlying5 t0
      obtain ⟨n1, e1, _⟩ := DataW.trod_bool Try.underlying4 t1
      simp only [List.cons.injEq, and_true] at e0 e1
      subst e0 e1
      have hb0 := bounds_u8 w0
      obtain ⟨n0, rfl⟩ := Int.eq_ofNat_of_zero_le hb0.1
      exact ⟨⟨n0, n1⟩, by simp only; omega, b, off, rfl, dot_cell c0, dot_cell c1⟩
    obtain ⟨l, hll, hq⟩ := list_of (default : Tk) len (fun i d => d.raw < 256 ∧ ∃ b off, a = ⟨b, off, none⟩ ∧ w.cell? ⟨b, off + i * 2, none⟩ = some (.int .u8 (d.raw : Nat)) ∧ w.cell? ⟨b, off + i * 2 + 1, none⟩ = some (.bool d.miss)) key
    refine ⟨l, ⟨some a, cap, by rw [hll], by omega, hm, fun i hil => ?_⟩, fun t hm2 => ?_⟩
    · obtain ⟨_, b, off, h2, h3⟩ := hq i (by omega)
      exact ⟨b, off, by rw [h2], h3⟩
    · obtain ⟨i, hi2, rfl⟩ := List.mem_iff_getElem.1 hm2
      have := (hq i (by omega)).1
      rwa [List.getD_eq_getElem?_getD, List.getElem?_eq_getElem hi2] at this
end Go.Proofs.Ytgjjmiaiclhidaa
