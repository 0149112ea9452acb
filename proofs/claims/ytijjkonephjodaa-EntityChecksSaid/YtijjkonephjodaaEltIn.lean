/- Slices of structs of any kind that came in: how they read. No function of the program stands here. -/
import Derived.Test.YtijjkonephjodaaSlices
import Derived.Test.YtijjkonephjodaaEnA
namespace Go.Proofs.Ytijjkonephjodaa
open Go.RowKit Go.ChangeShapes Go.WideShapes Go.Deep

section
variable {H : Type} {enc : TypeId × Value → H} {P : Program} {w : World} {base : Nat} {spare : Nat → Bool} {held : Bool} {α : Type} {E : Elt α}
theorem elt_in (hk : E.Ok P) (hC : P.cellsOf E.ty = E.k) (Q : α → Prop)
    (hdec : ∀ (n : Nat) (cs : List Value) (x : DataW H × List MemPlace), DataW.trod enc P w base spare held n E.ty cs = some x → ∃ a, cs = E.enc a ∧ Q a)
    {fuel : Nat} {v : Value} {x : DataW H × List MemPlace} (h : DataW.trod enc P w base spare held fuel E.sl [v] = some x) : ∃ l, RdE E w v l ∧ ∀ i, i < l.length → Q (l.getD i E.dflt) := by
  rcases open_slice hk.und h with h0 | ⟨a, len, cap, m, n, D, Pl, hcs, hb, hl, hm, hmm, hx, hi⟩
  · have h0 := h0.1
    simp at h0
    subst h0
    exact ⟨[], RdE.nil E w, fun i hi => by simp at hi⟩
  · simp at hcs
    subst hcs
    have key : ∀ i, i < len → ∃ d : α, Q d ∧ ∃ b off, a = ⟨b, off, none⟩ ∧ ∀ j, j < E.k → w.cell? ⟨b, off + i * E.k + j, none⟩ = (E.enc d)[j]? := by
      intro i hil
      have hpos := hk.pos
      have hsp : a.spot = none := by
        obtain ⟨cs', hc, _⟩ := hi 0 (by rw [hmm]; split <;> omega)
        rw [hC] at hc
        obtain ⟨_, hlen, hat⟩ := World.cells?_some hc
        have h1 := hat 0 hpos
        rw [List.getElem?_eq_getElem (by omega), Go.Deep.add_add] at h1
        obtain ⟨_, _, _, _, hsp⟩ := rd_add h1
        exact hsp (by simp)
      obtain ⟨cs', hc, ht⟩ := hi i (by rw [hmm]; split <;> omega)
      rw [hC] at hc
      obtain ⟨_, hlen, hat⟩ := World.cells?_some hc
      obtain ⟨d, rfl, hq⟩ := hdec _ _ _ ht
      obtain ⟨b, off, spot⟩ := a
      simp only at hsp
      subst hsp
      refine ⟨d, hq, b, off, rfl, fun j hj => ?_⟩
      have h1 := hat j hj
      rw [Go.Deep.add_add] at h1
      rw [List.getElem?_eq_getElem (by omega)] at h1 ⊢
      rw [Nat.add_assoc]
      exact dot_cell h1
    obtain ⟨l, hll, hq⟩ := list_of E.dflt len (fun i d => Q d ∧ ∃ b off, a = ⟨b, off, none⟩ ∧ ∀ j, j < E.k → w.cell? ⟨b, off + i * E.k + j, none⟩ = (E.enc d)[j]?) key
    refine ⟨l, ⟨some a, cap, by rw [hll], by omega, hm, fun i hil => ?_⟩, fun i hil => (hq i (by omega)).1⟩
    obtain ⟨_, b, off, h2, h3⟩ := hq i (by omega)
    exact ⟨b, off, by rw [h2], h3⟩
/-- One field of a struct, read. -/
theorem fieldOf {n : Nat} {fs : Array Field} {cs : List Value} {xs : List (DataW H × List MemPlace)} (hl : xs.length = fs.size)
    (hf : ∀ (i : Nat) (f : Field), fs[i]? = some f → DataW.trod enc P w base spare held n f.type ((cs.drop f.offset).take (P.cellsOf f.type)) = xs[i]?)
    (i : Nat) (f : Field) (hi : fs[i]? = some f) (ty off k : Nat) (ht : f.type = ty) (ho : f.offset = off) (hk : P.cellsOf ty = k) : ∃ y, DataW.trod enc P w base spare held n ty ((cs.drop off).take k) = some y := by
  have h := hf i f hi
  rw [ht, ho, hk] at h
  have hlt : i < xs.length := by rw [hl]; exact (Array.getElem?_eq_some_iff.1 hi).1
  exact ⟨xs[i], by rw [h, List.getElem?_eq_getElem hlt]⟩
end
end Go.Proofs.Ytijjkonephjodaa
