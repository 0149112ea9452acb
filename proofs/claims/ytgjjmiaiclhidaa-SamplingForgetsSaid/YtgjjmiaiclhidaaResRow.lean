/- The results of a function: one out of a block, one out of a slot. -/
import Derived.Test.YtgjjmiaiclhidaaBaseA
import Derived.Deep.MidRow
import Derived.Laws.IdiomCopy
namespace Go.Proofs.Ytgjjmiaiclhidaa
open Go.RowKit

theorem results_cell_row2 {P : Program} {fn : Func} {p u : Tmp} {ty : TypeId} (h : fn.results = #[.cell p ty, .tmp u]) (tmps : Array Value) (w : World) (g : Nat) (t : TypeId) (cs : Array Value) (fr : Nat × Nat) (d : TypeDesc)
    (hp : tmps.getD p undef = .pointer (some ⟨g, 0, none⟩)) (hg : w.heap[g]? = some (.cells cs t fr))
    (hu : P.underlying ty = some d) (hd : (match d with | .struct _ | .array _ _ => true | _ => false) = true) (hi : (P.info? ty).map (·.size) = some cs.size) :
    (results fn tmps).run P w = .ok (.tuple #[.agg cs, tmps.getD u undef]) w := by
  have hp' : tmps[p]?.getD undef = .pointer (some ⟨g, 0, none⟩) := by simpa using hp
  simp [results, h, hp', asAddr, run_loadVar_row w g t ty cs fr d hg hu hd hi]
theorem run_storeVar_one {P : Program} (w : World) (g i : Nat) (ty : TypeId) (u : Value) (hc : (w.cell? ⟨g, i, none⟩).isSome = true) (hf : w.frozen? ⟨g, i, none⟩ = false) (hi : (P.info? ty).map (·.size) = some 1) (hu : u.oneCell' = true) :
    (storeVar ty ⟨g, i, none⟩ u).run P w = .ok () (w.setCell ⟨g, i, none⟩ u) := by
  have hcs : u.cells = #[u] := by cases u <;> simp_all [Value.cells, Value.oneCell']
  have := run_storeCells_cells (P := P) g i [u] 0 w (fun j hj => by have : j = 0 := by simpa using hj
                                                                    subst this; exact hc) (fun j hj => by have : j = 0 := by simpa using hj
                                                                                                          subst this; exact hf) (fun v hv => by simp at hv; subst hv; exact hu)
  cases hq : P.info? ty with
  | none => simp [hq] at hi
  | some x =>
    have hs : x.size = 1 := by simpa [hq] using hi
    simp only [Nat.add_zero] at this
    simp [storeVar, sizeOf, typeInfo, hq, hcs, hs, this]
    rfl
/-- One cell stored into a block; the world behind it by what is known of it. -/
theorem wpList_store_one {P : Program} {ops : Array Oper} {rest : List Oper} {o : Oper} {a : Act} {w : World} {Q : Exit → Act → World → Prop} (hgd : o.guard = none) (hd : o.dst = none) (ty : TypeId) (x y : Operand) (ho : o.op = .store ty x y)
    {g : Nat} {c0 : Array Value} {T : TypeId} (hg : w.heap[g]? = some (.cells c0 T (0, 0))) (i : Nat) (hx : a.eval x = .pointer (some ⟨g, i, none⟩)) {u : Value} (hy : a.eval y = u) (hs : i < c0.size)
    (hi : (P.info? ty).map (·.size) = some 1) (hu : u.oneCell' = true) (h : ∀ W, W.heap[g]? = some (.cells (c0.setIfInBounds i u) T (0, 0)) → Mods [g] w W → wpList P ops Q rest a W) : wpList P ops Q (o :: rest) a w :=
  wpList_plain hgd fun K hK => by
    have hc : (w.cell? ⟨g, i, none⟩).isSome = true := by rw [cell_blk hg, Array.getElem?_eq_getElem hs]; rfl
    have e : a.put o.dst undef = a := by rw [hd]; rfl
    unfold Oper.wp execOp
    simp only [ho, hx, hy, Instr.storeAt, Instr.sureAddr, Sem.run_bind, Sem.run_pure, Result.andThen_ok, run_storeVar_one w g i ty u hc (froz_blk hg _) hi hu]
    have := hK _ _ (h _ (heap_setCell (i := i) (v := u) hg) (Mods.refl.setCell (.inl (by simp)) u))
    rw [← e] at this
    exact this
end Go.Proofs.Ytgjjmiaiclhidaa
