/- Slices of structs of any kind: how one reads, one of the call's own, append. No function of the program stands here. -/
import Derived.Test.YtkdadnlleepkfaaMem
import Derived.Test.YtkdadnlleepkfaaHeldRow
namespace Go.Proofs.Ytkdadnlleepkfaa
open Go.RowKit

/-- A kind of element: its type, the slice's type, its cells. -/
structure Elt (α : Type) where
  ty : TypeId
  sl : TypeId
  k : Nat
  enc : α → List Value
  dflt : α
/-- What is owed of a kind of element, over a program. -/
structure Elt.Ok {α : Type} (E : Elt α) (P : Program) : Prop where
  len : ∀ a, (E.enc a).length = E.k
  one : ∀ a, ∀ v ∈ E.enc a, v.oneCell' = true
  pos : 0 < E.k
  und : P.underlying E.sl = some (.slice E.ty)
  info : ∃ i z, P.info? E.ty = some i ∧ i.zero = some z ∧ i.size = E.k ∧ i.bytes ≤ 1000 ∧ z.cells.size = E.k
section
variable {α : Type} {E : Elt α} {P : Program} {w W : World} {B B' : Nat} {v : Value} {l : List α} {S : List Nat}
/-- The slice v reads as the elements l. -/
def RdE (E : Elt α) (w : World) (v : Value) (l : List α) : Prop :=
  ∃ ad cap, v = .slice ad l.length cap ∧ l.length ≤ cap ∧ cap ≤ maxLen ∧ ∀ i, i < l.length → ∃ b off, ad = some ⟨b, off, none⟩ ∧ ∀ j, j < E.k → w.cell? ⟨b, off + i * E.k + j, none⟩ = (E.enc (l.getD i E.dflt))[j]?
def cellsE (E : Elt α) (l : List α) : List Value := l.flatMap E.enc
theorem cellsE_length (h : ∀ a, (E.enc a).length = E.k) : ∀ l : List α, (cellsE E l).length = l.length * E.k
  | [] => by simp [cellsE]
  | a :: l => by
    have := cellsE_length h l
    unfold cellsE at this ⊢
    rw [List.flatMap_cons, List.length_append, h, this, List.length_cons, Nat.succ_mul, Nat.add_comm]
theorem cellsE_append (l m : List α) : cellsE E (l ++ m) = cellsE E l ++ cellsE E m := by simp [cellsE]
theorem cellsE_get (h : ∀ a, (E.enc a).length = E.k) : ∀ (l : List α) (i : Nat), i < l.length → ∀ j, j < E.k → (cellsE E l)[i * E.k + j]? = (E.enc (l.getD i E.dflt))[j]?
  | [], i, hi, _, _ => by simp at hi
  | a :: l, 0, _, j, hj => by
    unfold cellsE
    rw [List.flatMap_cons, Nat.zero_mul, Nat.zero_add, List.getElem?_append_left (by rw [h]; exact hj)]
    rfl
  | a :: l, i + 1, hi, j, hj => by
    have := cellsE_get h l i (by simpa using hi) j hj
    unfold cellsE at this ⊢
    rw [List.flatMap_cons, Nat.succ_mul, List.getElem?_append_right (by rw [h]; omega), h, show i * E.k + E.k + j - E.k = i * E.k + j by omega, this, List.getD_cons_succ]
theorem RdE.nil (E : Elt α) (w : World) : RdE E w (.slice none 0 0) [] := ⟨none, 0, rfl, Nat.le_refl _, Nat.zero_le _, fun i hi => by simp at hi⟩
theorem RdE.len (h : RdE E w v l) : ∃ ad cap, v = .slice ad l.length cap := by obtain ⟨ad, cap, rfl, _⟩ := h; exact ⟨ad, cap, rfl⟩
theorem RdE.mods (hk : E.Ok P) (h : RdE E w v l) (hm : Mods S w W) (hn : l ≠ [] → ∀ k, v.ownBlock = some k → k ∉ S) : RdE E W v l := by
  obtain ⟨ad, cap, rfl, h1, h2, hc⟩ := h
  refine ⟨ad, cap, rfl, h1, h2, fun i hi => ?_⟩
  obtain ⟨b, off, rfl, hb⟩ := hc i hi
  refine ⟨b, off, rfl, fun j hj => ?_⟩
  have hx := hb j hj
  obtain ⟨u, hs⟩ : ∃ u, (E.enc (l.getD i E.dflt))[j]? = some u := ⟨_, List.getElem?_eq_getElem (by rw [hk.len]; exact hj)⟩
  rw [hs] at hx ⊢
  exact hm.cell hx (hn (by rintro rfl; simp at hi) b rfl)
theorem RdE.mods0 (hk : E.Ok P) (h : RdE E w v l) (hm : Mods [] w W) : RdE E W v l := h.mods hk hm fun _ _ _ => by simp
theorem RdE.block_lt (hk : E.Ok P) (h : RdE E w v l) (hl : l ≠ []) : ∀ k, v.ownBlock = some k → k < w.heap.size := by
  obtain ⟨ad, cap, rfl, _, _, hc⟩ := h
  intro k hk'
  obtain ⟨b, off, rfl, hb⟩ := hc 0 (List.length_pos_iff.2 hl)
  simp [Value.ownBlock] at hk'
  subst hk'
  have hx := hb 0 hk.pos
  obtain ⟨u, hs⟩ : ∃ u, (E.enc (l.getD 0 E.dflt))[0]? = some u := ⟨_, List.getElem?_eq_getElem (by rw [hk.len]; exact hk.pos)⟩
  rw [hs] at hx
  exact World.block_lt_of_cell? w _ hx
/-- The slice's one address, if it has elements. -/
theorem RdE.at (h : RdE E w v l) (hl : 0 < l.length) : ∃ bb off cap, v = .slice (some ⟨bb, off, none⟩) l.length cap ∧ l.length ≤ cap ∧ cap ≤ 9223372036854775807 ∧ ∀ i, i < l.length → ∀ j, j < E.k → w.cell? ⟨bb, off + i * E.k + j, none⟩ = (E.enc (l.getD i E.dflt))[j]? := by
  obtain ⟨ad, cap, rfl, h1, h2, hc⟩ := h
  obtain ⟨b, off, rfl, _⟩ := hc 0 hl
  refine ⟨b, off, cap, rfl, h1, h2, fun i hi j hj => ?_⟩
  obtain ⟨b', off', he, hb⟩ := hc i hi
  injection he with he
  injection he with h1 h2
  subst h1 h2
  exact hb j hj
/-- A whole element lies in a row. -/
theorem RdE.range {bb off cap : Nat} (h : RdE E w (.slice (some ⟨bb, off, none⟩) l.length cap) l) {i : Nat} (hi : i < l.length) (hk : ∀ a, (E.enc a).length = E.k) : w.rangeAt bb (off + i * E.k) (E.enc (l.getD i E.dflt)) := by
  intro j u hu
  have hj : j < E.k := by rw [← hk (l.getD i E.dflt)]; exact (List.getElem?_eq_some_iff.1 hu).1
  obtain ⟨ad, cap', he, h1, h2, hc⟩ := h
  obtain ⟨b', off', he', hb⟩ := hc i hi
  injection he with he _ _
  rw [← he] at he'
  injection he' with he'
  injection he' with h1 h2
  subst h1 h2
  rw [hb j hj, hu]
/-- The slice v is the call's own from block B on and holds the elements l. -/
def OwnE (E : Elt α) (w : World) (B : Nat) (v : Value) (l : List α) : Prop := w.ownsRow B E.ty E.k v l.length (cellsE E l)
theorem OwnE.rd (hk : E.Ok P) (h : OwnE E w B v l) : RdE E w v l := by
  obtain ⟨hl, h⟩ := h
  rcases h with ⟨rfl, h0⟩ | ⟨g, cap, cur, rfl, _, hg, h1, h2, h3, h4⟩
  · have : l = [] := List.eq_nil_of_length_eq_zero h0
    subst this
    exact RdE.nil E w
  · refine ⟨_, cap, rfl, h1, h2, fun i hi => ⟨g, 0, rfl, fun j hj => ?_⟩⟩
    have a := cellsE_get hk.len l i hi j hj
    have hlt : i * E.k + j < l.length * E.k := by
      have : (i + 1) * E.k ≤ l.length * E.k := Nat.mul_le_mul_right _ hi
      rw [Nat.succ_mul] at this
      omega
    rw [cell_blk hg, ← a, ← h4, List.getElem?_take, if_pos hlt]
    simp
theorem OwnE.mods (h : OwnE E w B v l) (hm : Mods S w W) (hS : ∀ k, v.ownBlock = some k → k ∉ S) : OwnE E W B v l := hm.owns h hS
theorem OwnE.mods0 (h : OwnE E w B v l) (hm : Mods [] w W) : OwnE E W B v l := h.mods hm (by simp)
theorem OwnE.lt (h : OwnE E w B v l) : ∀ k, v.ownBlock = some k → B ≤ k ∧ k < w.heap.size := fun k hk => World.ownsRow.lt h k hk
theorem OwnE.back (h : OwnE E w B v l) {k : Nat} (hk : k ∈ v.ownBlock.toList) : B ≤ k := (h.lt k (by simpa using hk)).1
theorem OwnE.nil (E : Elt α) (w : World) (B : Nat) : OwnE E w B (.slice none 0 0) [] := World.ownsRow_nil _ _ _ _
theorem OwnE.down (h : OwnE E w B v l) (hB : B' ≤ B) : OwnE E w B' v l := by
  obtain ⟨hl, h⟩ := h
  refine ⟨hl, ?_⟩
  rcases h with h | ⟨g, cap, cur, hv, hg, rest⟩
  · exact .inl h
  · exact .inr ⟨g, cap, cur, hv, by omega, rest⟩
theorem OwnE.form (h : OwnE E w B v l) (hn : 0 < l.length) : ∃ g cap, v = .slice (some ⟨g, 0, none⟩) l.length cap ∧ B ≤ g ∧ g < w.heap.size ∧ l.length ≤ cap ∧ cap ≤ 9223372036854775807 := by
  rcases h.2 with ⟨_, h0⟩ | ⟨g, cap, cur, rfl, hb, hg, h1, h2, _⟩
  · omega
  · exact ⟨g, cap, rfl, hb, lt_of_block hg, h1, h2⟩
theorem OwnE.lit (hk : E.Ok P) (w : World) {B : Nat} (hB : B ≤ w.heap.size) (l : List α) (hl : l.length ≤ maxLen) : OwnE E (w.alloc (.cells (cellsE E l).toArray E.ty)) B (.slice (some ⟨w.heap.size, 0, none⟩) l.length l.length) l := by
  have := World.ownsRow_lit (base := B) (size := E.k) (e := E.ty) w (cellsE E l).toArray l.length hB hl (by simp [cellsE_length hk.len])
  unfold OwnE
  exact this
/-- What is read, as cells to be appended. -/
theorem RdE.news (hk : E.Ok P) {bb off cap : Nat} (h : RdE E w (.slice (some ⟨bb, off, none⟩) l.length cap) l) : ∀ j u, (cellsE E l)[j]? = some u → w.cell? ((⟨bb, off, none⟩ : Addr).add j) = some u := by
  intro j u hu
  have hj : j < l.length * E.k := by rw [← cellsE_length hk.len l]; exact (List.getElem?_eq_some_iff.1 hu).1
  have hp := hk.pos
  have hi : j / E.k < l.length := Nat.div_lt_of_lt_mul (by rw [Nat.mul_comm]; exact hj)
  have hm : j % E.k < E.k := Nat.mod_lt _ hp
  have he : j / E.k * E.k + j % E.k = j := by rw [Nat.mul_comm]; exact Nat.div_add_mod j E.k
  have h1 := cellsE_get hk.len l _ hi _ hm
  rw [he, hu] at h1
  have h2 := h.range hi hk.len (j % E.k) u h1.symm
  rw [Nat.add_assoc, he] at h2
  have e1 : (⟨bb, off, none⟩ : Addr).add j = ⟨bb, off + j, none⟩ := by unfold Addr.add; split <;> simp_all
  rw [e1]; exact h2
end
section
variable {α : Type} {E : Elt α} {P : Program} {ops : Array Oper} {Q : Exit → Act → World → Prop}
/-- append of elements whatever the second slice is. -/
theorem wp_appE (hk : E.Ok P) {o : Oper} {a : Act} {w : World} {K : Act → World → Prop} (s x : Operand)
    (ho : o.op = .call { callee := .builtin .append, args := #[s, x], argTypes := #[E.sl, E.sl] })
    {B : Nat} {v : Value} {A : List α} (hs : a.eval s = v) (hown : OwnE E w B v A) {vx : Value} {X : List α} (hx : a.eval x = vx) (hX : RdE E w vx X)
    (hn : A.length + X.length ≤ 1000000) (hB : B ≤ w.heap.size)
    (h : ∀ v' w', OwnE E w' B v' (A ++ X) → Mods v.ownBlock.toList w w' → K (a.put o.dst v') w') : Oper.wp P o a w K Q := by
  obtain ⟨i0, z, hi, hz0, hz1, hz2, hz3⟩ := hk.info
  have hX' := hX
  obtain ⟨ad, cap, rfl, hc1, hc2, hc⟩ := hX
  cases ad with
  | none =>
    have hX0 : X = [] := by
      cases X with
      | nil => rfl
      | cons y l => obtain ⟨b, off, h0, _⟩ := hc 0 (by simp); cases h0
    subst hX0
    have hrun : ∀ ty, (Builtin.append_ #[E.sl, E.sl] ty #[v, .slice none 0 cap]).run P w = .ok v w := by
      intro ty
      rcases hown.2 with ⟨rfl, _⟩ | ⟨g, cp, cur, rfl, _, _, hnc, _⟩
      · simp [Builtin.append_, run_underlying hk.und, sizeOf, typeInfo, hi, Builtin.lenOf, Builtin.firstCells]
      · simp [Builtin.append_, run_underlying hk.und, sizeOf, typeInfo, hi, Builtin.lenOf, Builtin.firstCells, hnc, storeCells]
    unfold Oper.wp
    simp [execOp, ho, resolve, invoke, builtin, hs, hx, hrun, Result.andThen]
    exact h v w (by rw [List.append_nil]; exact hown) Mods.refl
  | some ad =>
    obtain ⟨bb, off, hb⟩ : ∃ bb off, ad = ⟨bb, off, none⟩ ∨ X = [] := by
      cases X with
      | nil => exact ⟨0, 0, .inr rfl⟩
      | cons y l => obtain ⟨b, off, h0, _⟩ := hc 0 (by simp); injection h0 with h0; exact ⟨b, off, .inl h0⟩
    refine wp_append_own w s x _ ho B E.ty i0 z E.k i0.bytes hk.und hi hz0 hz1 rfl hz3 hk.pos v _ (cellsE E A) hs hown ad X.length cap (cellsE E X) hx (cellsE_length hk.len X) ?_ ?_ (by unfold maxLen; omega) ?_ hB ?_
    · rcases hb with rfl | rfl
      · exact hX'.news hk
      · intro j u hu; simp [cellsE] at hu
    · intro u hu
      unfold cellsE at hu
      obtain ⟨c, _, hc'⟩ := List.mem_flatMap.1 hu
      exact hk.one c u hc'
    · have : (A.length + X.length) * i0.bytes ≤ 1000000 * 1000 := Nat.mul_le_mul hn hz2
      omega
    · intro v' w' h1 h2 _
      refine h v' w' ?_ (Mods.of_grown h2)
      unfold OwnE
      rw [cellsE_append, List.length_append]
      exact h1
theorem step_appE (hk : E.Ok P) {o : Oper} {a : Act} {w : World} {K : Act → World → Prop} {F : Prop} (hw : Region.wanted o (yielded ops a.tmps) = true) (d : Nat) (hd : o.dst = some d) (s x : Operand)
    (ho : o.op = .call { callee := .builtin .append, args := #[s, x], argTypes := #[E.sl, E.sl] })
    {B : Nat} {v : Value} {A : List α} (hs : a.eval s = v) (hown : OwnE E w B v A) {vx : Value} {X : List α} (hx : a.eval x = vx) (hX : RdE E w vx X)
    (hn : A.length + X.length ≤ 1000000) (hB : B ≤ w.heap.size)
    (h : ∀ v' w', OwnE E w' B v' (A ++ X) → Mods v.ownBlock.toList w w' → K { a with tmps := a.tmps.setIfInBounds d v' } w') :
    if Region.wanted o (yielded ops a.tmps) = true then Oper.wp P o a w K Q else F := by
  rw [if_pos hw]
  exact wp_appE hk s x ho hs hown hx hX hn hB fun v' w' h1 h2 => by unfold Act.put; rw [hd]; exact h v' w' h1 h2
theorem wpList_appE (hk : E.Ok P) {rest : List Oper} {o : Oper} {a : Act} {w : World} (hw : Region.wanted o (yielded ops a.tmps) = true) (s x : Operand)
    (ho : o.op = .call { callee := .builtin .append, args := #[s, x], argTypes := #[E.sl, E.sl] })
    {B : Nat} {v : Value} {A : List α} (hs : a.eval s = v) (hown : OwnE E w B v A) {vx : Value} {X : List α} (hx : a.eval x = vx) (hX : RdE E w vx X)
    (hn : A.length + X.length ≤ 1000000) (hB : B ≤ w.heap.size)
    (h : ∀ v' w', OwnE E w' B v' (A ++ X) → Mods v.ownBlock.toList w w' → wpList P ops Q rest (a.put o.dst v') w') : wpList P ops Q (o :: rest) a w :=
  wpList_step fun _ hK => by
    rw [if_pos hw]
    exact wp_appE hk s x ho hs hown hx hX hn hB fun v' w' h1 h2 => hK _ _ (h v' w' h1 h2)
/-- append of one element that lies in a block of its own. -/
theorem RdE.one {w : World} {g : Nat} {a : α} {cs : Array Value} {T : TypeId} {fr : Nat × Nat} (hg : w.heap[g]? = some (.cells cs T fr)) (he : cs.toList = E.enc a) : RdE E w (.slice (some ⟨g, 0, none⟩) 1 1) [a] := by
  refine ⟨some ⟨g, 0, none⟩, 1, rfl, Nat.le_refl _, by unfold maxLen; omega, fun i hi => ⟨g, 0, rfl, fun j hj => ?_⟩⟩
  have : i = 0 := by simpa using hi
  subst this
  rw [cell_blk hg, ← Array.getElem?_toList, he]
  simp
end
end Go.Proofs.Ytkdadnlleepkfaa
