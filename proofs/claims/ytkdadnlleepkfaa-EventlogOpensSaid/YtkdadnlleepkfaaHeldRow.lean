/- Structs stored and read whole; drawn regions by hand. No function of the program stands here. -/
import Derived.Test.YtkdadnlleepkfaaAppB
import Derived.Deep.MidRow
import Derived.Deep.RegionHeld3
import Derived.Deep.DeepCutAuto
import Derived.BigGuardPart
namespace Go.Proofs.Ytkdadnlleepkfaa
open Go.RowKit
def setAll : Array Value → Nat → List Value → Array Value
  | c, _, [] => c
  | c, o, v :: r => setAll (c.setIfInBounds o v) (o + 1) r
theorem heap_setCells {b : Nat} {T : TypeId} : ∀ (vs : List Value) (o : Nat) (w : World) (c : Array Value), w.heap[b]? = some (.cells c T (0, 0)) → (w.setCells b o vs).heap[b]? = some (.cells (setAll c o vs) T (0, 0))
  | [], _, _, _, h => h
  | _ :: r, o, _, _, h => heap_setCells r (o + 1) _ _ (heap_setCell h)
theorem size_setAll : ∀ (vs : List Value) (c : Array Value) (o : Nat), (setAll c o vs).size = c.size
  | [], _, _ => rfl
  | _ :: r, c, o => by rw [setAll, size_setAll r]; simp
theorem get_setAll : ∀ (vs : List Value) (c : Array Value) (o i : Nat), i < c.size → (setAll c o vs)[i]? = if o ≤ i ∧ i < o + vs.length then vs[i - o]? else c[i]?
  | [], c, o, i, _ => by rw [setAll, if_neg (by simp)]
  | v :: r, c, o, i, hi => by
    rw [setAll, get_setAll r _ _ _ (by simpa using hi)]
    by_cases h : i = o
    · subst h
      rw [if_neg (by omega), if_pos (by simp)]
      simp [hi]
    · by_cases h2 : o + 1 ≤ i ∧ i < o + 1 + r.length
      · rw [if_pos h2, if_pos (by simp; omega), show i - o = i - (o + 1) + 1 by omega]; rfl
      · rw [if_neg h2, if_neg (by simp; omega), Array.getElem?_setIfInBounds_ne (by omega)]
theorem setAll_whole {c cs : Array Value} (h : c.size = cs.size) : setAll c 0 cs.toList = cs := by
  refine Array.ext_getElem? fun i => ?_
  rcases Nat.lt_or_ge i c.size with hi | hi
  · rw [get_setAll _ _ _ _ hi, if_pos (by simp; omega)]; simp
  · rw [Array.getElem?_eq_none (by rw [size_setAll]; exact hi), Array.getElem?_eq_none (by omega)]
theorem Mods.setCells {b : Nat} : ∀ (vs : List Value) (o : Nat) (w : World), Mods [b] w (w.setCells b o vs)
  | [], _, _ => Mods.refl
  | v :: r, o, w => (Mods.refl.setCell (p := ⟨b, o, none⟩) (.inl (by simp)) v).trans (Mods.setCells r (o + 1) _)
/-- A struct stored whole into its block; the world behind it is a letter. -/
theorem wpList_store_row {P : Program} {ops : Array Oper} {rest : List Oper} {o : Oper} {a : Act} {w : World} {Q : Exit → Act → World → Prop} (hgd : o.guard = none) (ty : TypeId) (x y : Operand) (ho : o.op = .store ty x y)
    {g : Nat} {c0 cs : Array Value} {T : TypeId} (hg : w.heap[g]? = some (.cells c0 T (0, 0))) (hx : a.eval x = .pointer (some ⟨g, 0, none⟩)) (hy : a.eval y = .agg cs) (hs : c0.size = cs.size)
    (hi : (P.info? ty).map (·.size) = some cs.size) (h1 : cs.all (·.oneCell') = true) (h : ∀ W, W.heap[g]? = some (.cells cs T (0, 0)) → Mods [g] w W → wpList P ops Q rest (a.put o.dst undef) W) : wpList P ops Q (o :: rest) a w := by
  refine wpList_store_mid hgd ty x y ho g 0 cs hx hy ?_ hi h1 (h _ ?_ (Mods.setCells _ _ _))
  · intro j hj
    refine ⟨?_, froz_blk hg _⟩
    rw [cell_blk hg, Nat.zero_add, Array.getElem?_eq_getElem (by omega)]
    rfl
  · rw [heap_setCells _ _ _ _ hg, setAll_whole hs]

section
variable {T : TypeId} {w0 w W : World} {P : Program} {ops : Array Oper} {Q : Exit → Act → World → Prop} {S : World → Prop} {md : Region.Mode}
theorem exec_store {ops : Array Oper} {o : Oper} {a : Act} {w : World} {K : Act → World → Prop} {E : Prop} (hgd : o.guard = none) (hd : o.dst = none) {ty : TypeId} {x y : Operand} (ho : o.op = .store ty x y)
    {g : Nat} {c0 cs : Array Value} (hg : w.heap[g]? = some (.cells c0 T (0, 0))) (hx : a.eval x = .pointer (some ⟨g, 0, none⟩)) (hy : a.eval y = .agg cs) (hs : c0.size = cs.size)
    (hi : (P.info? ty).map (·.size) = some cs.size) (h1 : cs.all (·.oneCell') = true) (h : ∀ W, W.heap[g]? = some (.cells cs T (0, 0)) → Mods [g] w W → K a W) : if Region.wanted o (yielded ops a.tmps) = true then Oper.wp P o a w K Q else E := by
  rw [if_pos (by simp [Region.wanted, hgd])]
  have e : a.put o.dst undef = a := by rw [hd]; rfl
  have hR : (w.setCells g 0 cs.toList).heap[g]? = some (.cells cs T (0, 0)) := by rw [heap_setCells _ _ _ _ hg, setAll_whole hs]
  refine wp_store_mid ty x y ho g 0 cs hx hy ?_ hi h1 (by rw [e]; exact h _ hR (Mods.setCells _ _ _))
  · intro j hj
    refine ⟨?_, froz_blk hg _⟩
    rw [cell_blk hg, Nat.zero_add, Array.getElem?_eq_getElem (by omega)]
    rfl
theorem exec_alloc {ops : Array Oper} {o : Oper} {a : Act} {w : World} {K : Act → World → Prop} {E : Prop} (hgd : o.guard = none) {d : Nat} (hd : o.dst = some d) {c : Array Value}
    (hr : ∀ (a : Act) w, (execOp a.eval o).run P w = .ok (.value (.pointer (some ⟨w.heap.size, 0, none⟩))) (w.alloc (.cells c T)))
    (h : K { a with tmps := a.tmps.setIfInBounds d (.pointer (some ⟨w.heap.size, 0, none⟩)) } (w.alloc (.cells c T))) : if Region.wanted o (yielded ops a.tmps) = true then Oper.wp P o a w K Q else E := by
  rw [if_pos (by simp [Region.wanted, hgd])]
  unfold Oper.wp
  rw [hr, Oper.upon_value]
  unfold Act.put
  rw [hd]
  exact h
end
theorem results_cell_row2 {P : Program} {fn : Func} {p u : Tmp} {ty : TypeId} (h : fn.results = #[.cell p ty, .tmp u]) (tmps : Array Value) (w : World) (g : Nat) (t : TypeId) (cs : Array Value) (fr : Nat × Nat) (d : TypeDesc)
    (hp : tmps.getD p undef = .pointer (some ⟨g, 0, none⟩)) (hg : w.heap[g]? = some (.cells cs t fr))
    (hu : P.underlying ty = some d) (hd : (match d with | .struct _ | .array _ _ => true | _ => false) = true) (hi : (P.info? ty).map (·.size) = some cs.size) :
    (results fn tmps).run P w = .ok (.tuple #[.agg cs, tmps.getD u undef]) w := by
  have hp' : tmps[p]?.getD undef = .pointer (some ⟨g, 0, none⟩) := by simpa using hp
  simp [results, h, hp', asAddr, run_loadVar_row w g t ty cs fr d hg hu hd hi]
theorem run_storeVar_one {P : Program} (w : World) (g i : Nat) (ty : TypeId) (u : Value) (hc : (w.cell? ⟨g, i, none⟩).isSome = true) (hf : w.frozen? ⟨g, i, none⟩ = false) (hi : (P.info? ty).map (·.size) = some 1) (hu : u.oneCell' = true) :
    (storeVar ty ⟨g, i, none⟩ u).run P w = .ok () (w.setCell ⟨g, i, none⟩ u) := by
  have hcs : u.cells = #[u] := by cases u <;> simp_all [Value.cells, Value.oneCell']
  have := run_storeCells_cells (P := P) g i [u] 0 w (fun j hj => by have : j = 0 := by simpa using hj
                                                                    subst this; exact hc) (fun j hj => by have : j = 0 := by simpa using hj
                                                                                                          subst this; exact hf) (fun v hv => by simp at hv; subst hv; exact hu)
  cases hq : P.info? ty with
  | none => simp [hq] at hi
  | some x =>
    have hs : x.size = 1 := by simpa [hq] using hi
    simp only [Nat.add_zero] at this
    simp [storeVar, sizeOf, typeInfo, hq, hcs, hs, this]
    rfl
/-- One cell stored into a block; the world behind it by what is known of it. -/
theorem wpList_store_one {P : Program} {ops : Array Oper} {rest : List Oper} {o : Oper} {a : Act} {w : World} {Q : Exit → Act → World → Prop} (hgd : o.guard = none) (hd : o.dst = none) (ty : TypeId) (x y : Operand) (ho : o.op = .store ty x y)
    {g : Nat} {c0 : Array Value} {T : TypeId} (hg : w.heap[g]? = some (.cells c0 T (0, 0))) (i : Nat) (hx : a.eval x = .pointer (some ⟨g, i, none⟩)) {u : Value} (hy : a.eval y = u) (hs : i < c0.size)
    (hi : (P.info? ty).map (·.size) = some 1) (hu : u.oneCell' = true) (h : ∀ W, W.heap[g]? = some (.cells (c0.setIfInBounds i u) T (0, 0)) → Mods [g] w W → wpList P ops Q rest a W) : wpList P ops Q (o :: rest) a w :=
  wpList_plain hgd fun K hK => by
    have hc : (w.cell? ⟨g, i, none⟩).isSome = true := by rw [cell_blk hg, Array.getElem?_eq_getElem hs]; rfl
    have e : a.put o.dst undef = a := by rw [hd]; rfl
    unfold Oper.wp execOp
    simp only [ho, hx, hy, Instr.storeAt, Instr.sureAddr, Sem.run_bind, Sem.run_pure, Result.andThen_ok, run_storeVar_one w g i ty u hc (froz_blk hg _) hi hu]
    have := hK _ _ (h _ (heap_setCell (i := i) (v := u) hg) (Mods.refl.setCell (.inl (by simp)) u))
    rw [← e] at this
    exact this
/-- A struct that is read whole under a guard. -/
theorem wpList_load_rowG {P : Program} {ops : Array Oper} {rest : List Oper} {o : Oper} {a : Act} {w : World} {Q : Exit → Act → World → Prop} (hw : Region.wanted o (yielded ops a.tmps) = true) (ty : TypeId) (x : Operand) (ho : o.op = .load ty x)
    (g : Nat) (hx : a.eval x = .pointer (some ⟨g, 0, none⟩)) (t : TypeId) (cs : Array Value) (fr : Nat × Nat) (d : TypeDesc) (hg : w.heap[g]? = some (.cells cs t fr))
    (hu : P.underlying ty = some d) (hd : (match d with | .struct _ | .array _ _ => true | _ => false) = true) (hi : (P.info? ty).map (·.size) = some cs.size)
    (h : wpList P ops Q rest (a.put o.dst (.agg cs)) w) : wpList P ops Q (o :: rest) a w :=
  wpList_step fun _ hK => by rw [if_pos hw]; exact wp_load_row ty x ho g hx t cs fr d hg hu hd hi (hK _ _ h)
theorem freshA {w w' : World} {o : Obj} (M : Mods [w.heap.size] (w.alloc o) w') : Mods [] w w' := (Mods.refl.alloc o).comp M fun k hk => by simp at hk; subst hk; exact .inr (Nat.le_refl _)
theorem yieldsIf_load_row {P : Program} {ops : Array Oper} {S : World → Prop} {o : Oper} {a : Act} (hgd : o.guard = none) (ty : TypeId) (x : Operand) (ho : o.op = .load ty x)
    (g : Nat) (hx : a.eval x = .pointer (some ⟨g, 0, none⟩)) (t : TypeId) (cs : Array Value) (fr : Nat × Nat) (d : TypeDesc) (hg : ∀ w, S w → w.heap[g]? = some (.cells cs t fr))
    (hu : P.underlying ty = some d) (hd : (match d with | .struct _ | .array _ _ => true | _ => false) = true) (hi : (P.info? ty).map (·.size) = some cs.size) : YieldsIf P ops S o (.agg cs) a := by
  refine .inl ⟨by simp [Region.wanted, hgd], fun w hS => ?_⟩
  unfold execOp
  simp only [ho, hx, Instr.loadAt, Instr.sureAddr, Sem.run_bind, Sem.run_pure, Result.andThen_ok, run_loadVar_row w g t ty cs fr d (hg w hS) hu hd hi]
/-- The beginning, the number of the operations told. -/
theorem heldStart {P : Program} {l : List Oper} {S : World → Prop} {Q : Exit → Act → World → Prop} {id : Nat} {a : Act} {w : World} (n : Nat) (hn : l.length = n) (hm : P.follows .mixedOrders = true) (hS : S w.drew)
    (h : S w.drew → wpAnyH P .any l.toArray Q S n (Array.replicate n false) a w.drew) : (Code.region id l.toArray true).wp P Q a w := by
  refine wp_region_held_drew hm hS fun hS => ?_
  have := h hS
  rw [← hn] at this
  simpa using this
/-- A take, the slot told. -/
theorem takeD {P : Program} {ops : Array Oper} {md : Region.Mode} {S : World → Prop} {Q : Exit → Act → World → Prop} {i d : Nat} {oi : Oper} {v : Value} {fuel : Nat} {listed : Array Bool} {a : Act} {w : World} (hi : ops[i]? = some oi) (hd : oi.dst = some d)
    (hs : Region.noSelect ops = true) (hf : Region.free md ops listed i = true) (hr : (Region.ready md ops listed).contains i = true)
    (hQ : ∀ c a w, Q (.panic c) (a.put oi.dst v) w → Q (.panic c) a w) (hy : YieldsIf P ops S oi v a) (hS : S w)
    (h : wpAnyH P md ops Q S fuel (listed.setIfInBounds i true) { a with tmps := a.tmps.setIfInBounds d v } w) : wpAnyH P md ops Q S (fuel + 1) listed a w :=
  wpAnyH_take hi hs hf hr hQ hy hS (by unfold Act.put; rw [hd]; exact h)
end Go.Proofs.Ytkdadnlleepkfaa
