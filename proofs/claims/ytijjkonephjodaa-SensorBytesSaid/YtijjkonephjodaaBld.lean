/- A struct under way: its block, the result's block, the dice; a struct stored whole. -/
import Derived.Test.YtijjkonephjodaaPts
import Derived.Deep.MidRow
namespace Go.Proofs.Ytijjkonephjodaa
open Go.RowKit

def setAll : Array Value → Nat → List Value → Array Value
  | c, _, [] => c
  | c, o, v :: r => setAll (c.setIfInBounds o v) (o + 1) r
theorem heap_setCells {b : Nat} {T : TypeId} : ∀ (vs : List Value) (o : Nat) (w : World) (c : Array Value), w.heap[b]? = some (.cells c T (0, 0)) → (w.setCells b o vs).heap[b]? = some (.cells (setAll c o vs) T (0, 0))
  | [], _, _, _, h => h
  | _ :: r, o, _, _, h => heap_setCells r (o + 1) _ _ (heap_setCell h)
theorem size_setAll : ∀ (vs : List Value) (c : Array Value) (o : Nat), (setAll c o vs).size = c.size
  | [], _, _ => rfl
  | _ :: r, c, o => by rw [setAll, size_setAll r]; simp
theorem get_setAll : ∀ (vs : List Value) (c : Array Value) (o i : Nat), i < c.size → (setAll c o vs)[i]? = if o ≤ i ∧ i < o + vs.length then vs[i - o]? else c[i]?
  | [], c, o, i, _ => by rw [setAll, if_neg (by simp)]
  | v :: r, c, o, i, hi => by
    rw [setAll, get_setAll r _ _ _ (by simpa using hi)]
    by_cases h : i = o
    · subst h
      rw [if_neg (by omega), if_pos (by simp)]
      simp [hi]
    · by_cases h2 : o + 1 ≤ i ∧ i < o + 1 + r.length
      · rw [if_pos h2, if_pos (by simp; omega), show i - o = i - (o + 1) + 1 by omega]; rfl
      · rw [if_neg h2, if_neg (by simp; omega), Array.getElem?_setIfInBounds_ne (by omega)]
theorem setAll_whole {c cs : Array Value} (h : c.size = cs.size) : setAll c 0 cs.toList = cs := by
  refine Array.ext_getElem? fun i => ?_
  rcases Nat.lt_or_ge i c.size with hi | hi
  · rw [get_setAll _ _ _ _ hi, if_pos (by simp; omega)]; simp
  · rw [Array.getElem?_eq_none (by rw [size_setAll]; exact hi), Array.getElem?_eq_none (by omega)]
theorem Mods.setCells {b : Nat} : ∀ (vs : List Value) (o : Nat) (w : World), Mods [b] w (w.setCells b o vs)
  | [], _, _ => Mods.refl
  | v :: r, o, w => (Mods.refl.setCell (p := ⟨b, o, none⟩) (.inl (by simp)) v).trans (Mods.setCells r (o + 1) _)
/-- A struct stored whole into its block; the world behind it is a letter. -/
theorem wpList_store_row {P : Program} {ops : Array Oper} {rest : List Oper} {o : Oper} {a : Act} {w : World} {Q : Exit → Act → World → Prop} (hgd : o.guard = none) (ty : TypeId) (x y : Operand) (ho : o.op = .store ty x y)
    {g : Nat} {c0 cs : Array Value} {T : TypeId} (hg : w.heap[g]? = some (.cells c0 T (0, 0))) (hx : a.eval x = .pointer (some ⟨g, 0, none⟩)) (hy : a.eval y = .agg cs) (hs : c0.size = cs.size)
    (hi : (P.info? ty).map (·.size) = some cs.size) (h1 : cs.all (·.oneCell') = true) (h : ∀ W, W.heap[g]? = some (.cells cs T (0, 0)) → Mods [g] w W → wpList P ops Q rest (a.put o.dst undef) W) : wpList P ops Q (o :: rest) a w := by
  refine wpList_store_mid hgd ty x y ho g 0 cs hx hy ?_ hi h1 (h _ ?_ (Mods.setCells _ _ _))
  · intro j hj
    refine ⟨?_, froz_blk hg _⟩
    rw [cell_blk hg, Nat.zero_add, Array.getElem?_eq_getElem (by omega)]
    rfl
  · rw [heap_setCells _ _ _ _ hg, setAll_whole hs]

/-- A struct under way at gc, the result's block gr, the dice at b. -/
structure Bld (w0 w : World) (b : Nat) (v : Value) (L : List Int) (n : Nat) (T : TypeId) (gr gc : Nat) (cr cc : Array Value) : Prop where
  D : IsDice w b v L n
  M : Mods [b] w0 w
  R : w.heap[gr]? = some (.cells cr T (0, 0))
  G : w.heap[gc]? = some (.cells cc T (0, 0))
  hb : b < w0.heap.size
  hr : w0.heap.size ≤ gr
  hc : w0.heap.size ≤ gc
  ne : gr ≠ gc
  hv : L ≠ [] → ∀ k, v.ownBlock = some k → k < w0.heap.size
section
variable {w0 w w' : World} {b n n' : Nat} {v : Value} {L : List Int} {T : TypeId} {gr gc : Nat} {cr cc : Array Value}
theorem Bld.dice (h : Bld w0 w b v L n T gr gc cr cc) (D : IsDice w' b v L n') (M : Mods [b] w w') : Bld w0 w' b v L n' T gr gc cr cc :=
  ⟨D, h.M.trans M, M.heap h.R (by have := h.hb; have := h.hr; simp; omega), M.heap h.G (by have := h.hb; have := h.hc; simp; omega), h.hb, h.hr, h.hc, h.ne, h.hv⟩
theorem Bld.mods0 (h : Bld w0 w b v L n T gr gc cr cc) (M : Mods [] w w') : Bld w0 w' b v L n T gr gc cr cc := h.dice (h.D.mods0 M) M.nil
theorem Bld.mods {S : List Nat} (h : Bld w0 w b v L n T gr gc cr cc) (M : Mods S w w') (hS : ∀ k ∈ S, w0.heap.size ≤ k ∧ k ≠ gr ∧ k ≠ gc) : Bld w0 w' b v L n T gr gc cr cc :=
  ⟨h.D.mods M (fun hk => by have := (hS _ hk).1; have := h.hb; omega) (fun hl k hk hk2 => by have := h.hv hl k hk; have := (hS _ hk2).1; omega), h.M.comp M fun k hk => .inr (hS k hk).1,
    M.heap h.R (fun hk => (hS _ hk).2.1 rfl), M.heap h.G (fun hk => (hS _ hk).2.2 rfl), h.hb, h.hr, h.hc, h.ne, h.hv⟩
theorem Bld.set (h : Bld w0 w b v L n T gr gc cr cc) (i : Nat) (u : Value) : Bld w0 (w.setCell ⟨gc, i, none⟩ u) b v L n T gr gc cr (cc.setIfInBounds i u) :=
  ⟨h.D.set (by have := h.hb; have := h.hc; simp; omega) (fun hl k hk => by have := h.hv hl k hk; have := h.hc; simp; omega) u, h.M.setCell (.inr h.hc) u, heap_setCell_ne h.R h.ne, heap_setCell h.G, h.hb, h.hr, h.hc, h.ne, h.hv⟩
theorem Bld.fin (h : Bld w0 w b v L n T gr gc cr cc) {cs : Array Value} (R : w'.heap[gr]? = some (.cells cs T (0, 0))) (M : Mods [gr] w w') : Bld w0 w' b v L n T gr gc cs cc :=
  ⟨h.D.mods M (by have := h.hb; have := h.hr; simp; omega) (fun hl k hk hk2 => by have := h.hv hl k hk; have := h.hr; simp at hk2; omega), h.M.comp M (fun k hk => by simp at hk; subst hk; exact .inr h.hr), R, M.heap h.G (by simpa using h.ne.symm), h.hb, h.hr, h.hc, h.ne, h.hv⟩
theorem Bld.c (h : Bld w0 w b v L n T gr gc cr cc) (i : Nat) : w.cell? ⟨gc, i, none⟩ = cc[i]? := cell_blk h.G i
theorem Bld.f (h : Bld w0 w b v L n T gr gc cr cc) (i : Nat) : w.frozen? ⟨gc, i, none⟩ = false := froz_blk h.G i
end
end Go.Proofs.Ytijjkonephjodaa
