/- 'x, y := a, b' for two structs: two blocks are made and stored into, in whatever order. -/
import Derived.Test.YtijjkonephjodaaHeldRow
import Derived.Test.YtijjkonephjodaaBld
namespace Go.Proofs.Ytijjkonephjodaa
open Go.RowKit

/-- Two blocks under way. -/
structure TB (T : TypeId) (w0 w : World) (oA oB : Option (Nat × Array Value)) : Prop where
  M : Mods [] w0 w
  A : ∀ p, oA = some p → w.heap[p.1]? = some (.cells p.2 T (0, 0)) ∧ w0.heap.size ≤ p.1
  B : ∀ p, oB = some p → w.heap[p.1]? = some (.cells p.2 T (0, 0)) ∧ w0.heap.size ≤ p.1
  ne : ∀ p q, oA = some p → oB = some q → p.1 ≠ q.1
variable {T : TypeId} {w0 w W : World} {oA oB : Option (Nat × Array Value)}
theorem TB.start (w : World) : TB T w w none none := ⟨Mods.refl, fun _ h => (by cases h), fun _ h => (by cases h), fun _ _ h => (by cases h)⟩
theorem TB.swap (h : TB T w0 w oA oB) : TB T w0 w oB oA := ⟨h.M, h.B, h.A, fun p q hp hq => (h.ne q p hq hp).symm⟩
theorem TB.allocA (h : TB T w0 w none oB) (c : Array Value) : TB T w0 (w.alloc (.cells c T)) (some (w.heap.size, c)) oB :=
  ⟨h.M.alloc _, fun p hp => by cases hp; exact ⟨heap_alloc_new w _, h.M.size⟩, fun p hp => ⟨heap_alloc (h.B p hp).1, (h.B p hp).2⟩, fun p q hp hq => by cases hp; have := lt_of_block (h.B q hq).1; omega⟩
theorem TB.storeA {g : Nat} {c cs : Array Value} (h : TB T w0 w (some (g, c)) oB) (R : W.heap[g]? = some (.cells cs T (0, 0))) (M : Mods [g] w W) : TB T w0 W (some (g, cs)) oB :=
  ⟨h.M.comp M fun k hk => by simp at hk; subst hk; exact .inr (h.A _ rfl).2, fun p hp => by cases hp; exact ⟨R, (h.A _ rfl).2⟩, fun p hp => ⟨M.heap (h.B p hp).1 (by have := h.ne _ p rfl hp; simp; omega), (h.B p hp).2⟩, fun p q hp hq => by cases hp; exact h.ne (g, c) q rfl hq⟩
section
variable {P : Program} {ops : Array Oper} {Q : Exit → Act → World → Prop} {S : World → Prop} {md : Region.Mode}
theorem exec_store {ops : Array Oper} {o : Oper} {a : Act} {w : World} {K : Act → World → Prop} {E : Prop} (hgd : o.guard = none) (hd : o.dst = none) {ty : TypeId} {x y : Operand} (ho : o.op = .store ty x y)
    {g : Nat} {c0 cs : Array Value} (hg : w.heap[g]? = some (.cells c0 T (0, 0))) (hx : a.eval x = .pointer (some ⟨g, 0, none⟩)) (hy : a.eval y = .agg cs) (hs : c0.size = cs.size)
    (hi : (P.info? ty).map (·.size) = some cs.size) (h1 : cs.all (·.oneCell') = true) (h : ∀ W, W.heap[g]? = some (.cells cs T (0, 0)) → Mods [g] w W → K a W) : if Region.wanted o (yielded ops a.tmps) = true then Oper.wp P o a w K Q else E := by
  rw [if_pos (by simp [Region.wanted, hgd])]
  have e : a.put o.dst undef = a := by rw [hd]; rfl
  have hR : (w.setCells g 0 cs.toList).heap[g]? = some (.cells cs T (0, 0)) := by rw [heap_setCells _ _ _ _ hg, setAll_whole hs]
  refine wp_store_mid ty x y ho g 0 cs hx hy ?_ hi h1 (by rw [e]; exact h _ hR (Mods.setCells _ _ _))
  · intro j hj
    refine ⟨?_, froz_blk hg _⟩
    rw [cell_blk hg, Nat.zero_add, Array.getElem?_eq_getElem (by omega)]
    rfl
theorem exec_alloc {ops : Array Oper} {o : Oper} {a : Act} {w : World} {K : Act → World → Prop} {E : Prop} (hgd : o.guard = none) {d : Nat} (hd : o.dst = some d) {c : Array Value}
    (hr : ∀ (a : Act) w, (execOp a.eval o).run P w = .ok (.value (.pointer (some ⟨w.heap.size, 0, none⟩))) (w.alloc (.cells c T)))
    (h : K { a with tmps := a.tmps.setIfInBounds d (.pointer (some ⟨w.heap.size, 0, none⟩)) } (w.alloc (.cells c T))) : if Region.wanted o (yielded ops a.tmps) = true then Oper.wp P o a w K Q else E := by
  rw [if_pos (by simp [Region.wanted, hgd])]
  unfold Oper.wp
  rw [hr, Oper.upon_value]
  unfold Act.put
  rw [hd]
  exact h
/-- Which operations may come up, at each point. -/
def twoTable (md : Region.Mode) (ops : Array Oper) : Bool :=
  decide (Region.ready md ops #[true, true, false, false, false, false] = [2, 3]) && decide (Region.ready md ops #[true, true, true, false, false, false] = [3])
  && decide (Region.ready md ops #[true, true, false, true, false, false] = [2]) && decide (Region.ready md ops #[true, true, true, true, false, false] = [4])
  && decide (Region.ready md ops #[true, true, true, true, true, false] = [5]) && decide (Region.ready md ops #[true, true, true, true, true, true] = [])
theorem twoTable_get (h : twoTable md ops = true) : Region.ready md ops #[true, true, false, false, false, false] = [2, 3] ∧ Region.ready md ops #[true, true, true, false, false, false] = [3]
    ∧ Region.ready md ops #[true, true, false, true, false, false] = [2] ∧ Region.ready md ops #[true, true, true, true, false, false] = [4]
    ∧ Region.ready md ops #[true, true, true, true, true, false] = [5] ∧ Region.ready md ops #[true, true, true, true, true, true] = [] := by
  simp only [twoTable, Bool.and_eq_true, decide_eq_true_eq] at h
  obtain ⟨⟨⟨⟨⟨h1, h2⟩, h3⟩, h4⟩, h5⟩, h6⟩ := h
  exact ⟨h1, h2, h3, h4, h5, h6⟩
theorem getD_set_same {l : Array Value} {d : Nat} {v u : Value} (h : d < l.size) : (l.setIfInBounds d v).getD d u = v := by simp [Array.getD_eq_getD_getElem?, h]
theorem getD_set_other {l : Array Value} {d k : Nat} {v u : Value} (h : d ≠ k) : (l.setIfInBounds d v).getD k u = l.getD k u := by simp [Array.getD_eq_getD_getElem?, h]
theorem twoBoxes {ops : Array Oper} {a : Act} {w : World} {o2 o3 o4 o5 : Oper} {dA dB sA sB : Nat} {ty : TypeId} {z csA csB : Array Value} {fuel : Nat}
    (h2 : ops[2]? = some o2) (h3 : ops[3]? = some o3) (h4 : ops[4]? = some o4) (h5 : ops[5]? = some o5)
    (g2 : o2.guard = none) (g3 : o3.guard = none) (g4 : o4.guard = none) (g5 : o5.guard = none) (d2 : o2.dst = some dA) (d3 : o3.dst = some dB) (d4 : o4.dst = none) (d5 : o5.dst = none)
    (r2 : ∀ (a : Act) w, (execOp a.eval o2).run P w = .ok (.value (.pointer (some ⟨w.heap.size, 0, none⟩))) (w.alloc (.cells z T)))
    (r3 : ∀ (a : Act) w, (execOp a.eval o3).run P w = .ok (.value (.pointer (some ⟨w.heap.size, 0, none⟩))) (w.alloc (.cells z T)))
    (p4 : o4.op = .store ty (.tmp dA) (.tmp sA)) (p5 : o5.op = .store ty (.tmp dB) (.tmp sB))
    (zA : z.size = csA.size) (zB : z.size = csB.size) (iA : (P.info? ty).map (·.size) = some csA.size) (iB : (P.info? ty).map (·.size) = some csB.size)
    (oneA : csA.all (·.oneCell') = true) (oneB : csB.all (·.oneCell') = true)
    (lA : dA < a.tmps.size) (lB : dB < a.tmps.size) (nAB : dA ≠ dB) (nA1 : dA ≠ sA) (nA2 : dA ≠ sB) (nB1 : dB ≠ sA) (nB2 : dB ≠ sB)
    (vA : a.tmps.getD sA undef = .agg csA) (vB : a.tmps.getD sB undef = .agg csB)
    (ht : twoTable md ops = true) (hK : ∀ w', Mods [] w w' → S w')
    (h : ∀ gA gB W, TB T w W (some (gA, csA)) (some (gB, csB)) → Q .normal { a with tmps := (a.tmps.setIfInBounds dA (.pointer (some ⟨gA, 0, none⟩))).setIfInBounds dB (.pointer (some ⟨gB, 0, none⟩)) } W) :
    wpAnyH P md ops Q S (fuel + 4) #[true, true, false, false, false, false] a w := by
  obtain ⟨t1, t2, t3, t4, t5, t6⟩ := twoTable_get ht
  have comm : ∀ gA gB, (a.tmps.setIfInBounds dB (.pointer (some ⟨gB, 0, none⟩))).setIfInBounds dA (.pointer (some ⟨gA, 0, none⟩)) = (a.tmps.setIfInBounds dA (.pointer (some ⟨gA, 0, none⟩))).setIfInBounds dB (.pointer (some ⟨gB, 0, none⟩)) := fun gA gB => Array.setIfInBounds_comm _ _ nAB.symm
  have e1 : ∀ gA gB, ({ a with tmps := (a.tmps.setIfInBounds dA (.pointer (some ⟨gA, 0, none⟩))).setIfInBounds dB (.pointer (some ⟨gB, 0, none⟩)) } : Act).eval (.tmp dA) = .pointer (some ⟨gA, 0, none⟩) := fun gA gB => (getD_set_other nAB.symm).trans (getD_set_same lA)
  have e2 : ∀ gA gB, ({ a with tmps := (a.tmps.setIfInBounds dA (.pointer (some ⟨gA, 0, none⟩))).setIfInBounds dB (.pointer (some ⟨gB, 0, none⟩)) } : Act).eval (.tmp sA) = .agg csA := fun gA gB => (getD_set_other nB1).trans ((getD_set_other nA1).trans vA)
  have e3 : ∀ gA gB, ({ a with tmps := (a.tmps.setIfInBounds dA (.pointer (some ⟨gA, 0, none⟩))).setIfInBounds dB (.pointer (some ⟨gB, 0, none⟩)) } : Act).eval (.tmp dB) = .pointer (some ⟨gB, 0, none⟩) := fun gA gB => getD_set_same (by simpa using lB)
  have e4 : ∀ gA gB, ({ a with tmps := (a.tmps.setIfInBounds dA (.pointer (some ⟨gA, 0, none⟩))).setIfInBounds dB (.pointer (some ⟨gB, 0, none⟩)) } : Act).eval (.tmp sB) = .agg csB := fun gA gB => (getD_set_other nB2).trans ((getD_set_other nA2).trans vB)
  have both : ∀ gA gB W, TB T w W (some (gA, z)) (some (gB, z)) → wpAnyH P md ops Q S (fuel + 2) #[true, true, true, true, false, false] { a with tmps := (a.tmps.setIfInBounds dA (.pointer (some ⟨gA, 0, none⟩))).setIfInBounds dB (.pointer (some ⟨gB, 0, none⟩)) } W := by
    intro gA gB W hW
    refine wpAnyH_ready t4 (by simp) (AllReadyH.cons h4 (fun K hk => ?_) AllReadyH.nil)
    refine exec_store g4 d4 p4 (hW.A _ rfl).1 (e1 gA gB) (e2 gA gB) zA iA oneA (fun W' R M => ?_)
    have hW' := hW.storeA R M
    refine hk.out _ _ (hK _ hW'.M) (fun _ => ?_)
    refine wpAnyH_ready t5 (by simp) (AllReadyH.cons h5 (fun K hk => ?_) AllReadyH.nil)
    refine exec_store g5 d5 p5 (hW'.B _ rfl).1 (e3 gA gB) (e4 gA gB) zB iB oneB (fun W'' R M => ?_)
    have hW'' := (hW'.swap.storeA R M).swap
    exact hk.out _ _ (hK _ hW''.M) (fun _ => wpAnyH_done t6 (h _ _ _ hW'') _)
  refine wpAnyH_ready t1 (by simp) (AllReadyH.cons h2 (fun K hk => ?_) (AllReadyH.cons h3 (fun K hk => ?_) AllReadyH.nil))
  · refine exec_alloc g2 d2 r2 ?_
    have hW := (TB.start (T := T) w).allocA z
    refine hk.out _ _ (hK _ hW.M) (fun _ => ?_)
    refine wpAnyH_ready t2 (by simp) (AllReadyH.cons h3 (fun K hk => ?_) AllReadyH.nil)
    refine exec_alloc g3 d3 r3 ?_
    have hW2 := (hW.swap.allocA z).swap
    exact hk.out _ _ (hK _ hW2.M) (fun _ => both _ _ _ hW2)
  · refine exec_alloc g3 d3 r3 ?_
    have hW := ((TB.start (T := T) w).allocA z).swap
    refine hk.out _ _ (hK _ hW.M) (fun _ => ?_)
    refine wpAnyH_ready t3 (by simp) (AllReadyH.cons h2 (fun K hk => ?_) AllReadyH.nil)
    refine exec_alloc g2 d2 r2 ?_
    have hW2 := hW.allocA z
    refine hk.out _ _ (hK _ hW2.M) (fun _ => ?_)
    rw [comm]
    exact both _ _ _ hW2
end
end Go.Proofs.Ytijjkonephjodaa
