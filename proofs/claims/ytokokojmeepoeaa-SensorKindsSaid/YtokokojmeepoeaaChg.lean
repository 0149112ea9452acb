/- Changes of states: lists of them in memory, and those that lead from one state to another. -/
import Derived.Test.YtokokojmeepoeaaNext
namespace Go.Proofs.Ytokokojmeepoeaa
open Go.RowKit

/-- A change. -/
structure Chg where
  idx : Int
  on : Bool
deriving DecidableEq
instance : Inhabited Chg := ⟨⟨0, false⟩⟩
def chCells (l : List Chg) : List Value := l.flatMap fun c => [.int .i64 c.idx, .bool c.on]
theorem chCells_length (l : List Chg) : (chCells l).length = l.length * 2 := by
  induction l with
  | nil => rfl
  | cons p l ih => simp only [chCells, List.flatMap_cons, List.length_append, List.length_cons, List.length_nil] at ih ⊢; omega
theorem chCells_snoc (l : List Chg) (c : Chg) : chCells (l ++ [c]) = chCells l ++ [.int .i64 c.idx, .bool c.on] := by simp [chCells]
theorem chCells_get (l : List Chg) : ∀ i, i < l.length → (chCells l)[i * 2]? = some (.int .i64 (l.getD i default).idx) ∧ (chCells l)[i * 2 + 1]? = some (.bool (l.getD i default).on) := by
  induction l with
  | nil => intro i hi; simp at hi
  | cons p l ih =>
    intro i hi
    match i with
    | 0 => exact ⟨rfl, rfl⟩
    | i + 1 =>
      have := ih i (by simpa using hi)
      have e : chCells (p :: l) = .int .i64 p.idx :: .bool p.on :: chCells l := rfl
      rw [e, show (i + 1) * 2 = i * 2 + 1 + 1 by omega]
      simpa [List.getD_cons_succ] using this
/-- The slice v reads as the changes l. -/
def RdChg (w : World) (v : Value) (l : List Chg) : Prop :=
  ∃ ad cap, v = .slice ad l.length cap ∧ l.length ≤ cap ∧ cap ≤ maxLen ∧ ∀ i, i < l.length → ∃ b off, ad = some ⟨b, off, none⟩ ∧
    w.cell? ⟨b, off + i * 2, none⟩ = some (.int .i64 (l.getD i default).idx) ∧ w.cell? ⟨b, off + i * 2 + 1, none⟩ = some (.bool (l.getD i default).on)
theorem RdChg.nil (w : World) : RdChg w (.slice none 0 0) [] := ⟨none, 0, rfl, Nat.le_refl _, Nat.zero_le _, fun i hi => by simp at hi⟩
theorem RdChg.len {w : World} {v : Value} {l : List Chg} (h : RdChg w v l) : ∃ ad cap, v = .slice ad l.length cap := by
  obtain ⟨ad, cap, rfl, _⟩ := h; exact ⟨ad, cap, rfl⟩
theorem RdChg.mods {S : List Nat} {w w' : World} {v : Value} {l : List Chg} (h : RdChg w v l) (hm : Mods S w w') (hn : l ≠ [] → ∀ k, v.ownBlock = some k → k ∉ S) : RdChg w' v l := by
  obtain ⟨ad, cap, rfl, h1, h2, hc⟩ := h
  refine ⟨ad, cap, rfl, h1, h2, fun i hi => ?_⟩
  obtain ⟨b, off, rfl, hb, hb2⟩ := hc i hi
  have hk := hn (by rintro rfl; simp at hi) b rfl
  exact ⟨b, off, rfl, hm.cell hb hk, hm.cell hb2 hk⟩
theorem RdChg.mods0 {w w' : World} {v : Value} {l : List Chg} (h : RdChg w v l) (hm : Mods [] w w') : RdChg w' v l := h.mods hm fun _ _ _ => by simp
/-- The slice v is the call's own from block B on and holds the changes l. -/
def OwnChg (w : World) (B : Nat) (v : Value) (l : List Chg) : Prop := w.ownsRow B 51 2 v l.length (chCells l)
theorem OwnChg.rd {w : World} {B : Nat} {v : Value} {l : List Chg} (h : OwnChg w B v l) : RdChg w v l := by
  obtain ⟨hl, h⟩ := h
  rcases h with ⟨rfl, h0⟩ | ⟨g, cap, cur, rfl, _, hg, h1, h2, h3, h4⟩
  · have : l = [] := List.eq_nil_of_length_eq_zero h0
    subst this
    exact RdChg.nil w
  · refine ⟨_, cap, rfl, h1, h2, fun i hi => ⟨g, 0, rfl, ?_⟩⟩
    have ⟨a, b⟩ := chCells_get l i hi
    rw [cell_blk hg, cell_blk hg]
    rw [← h4] at a b
    rw [List.getElem?_take, if_pos (by omega)] at a b
    constructor
    · rw [← a]; simp
    · rw [← b, show 0 + i * 2 + 1 = i * 2 + 1 by omega]; simp
theorem OwnChg.mods {S : List Nat} {w w' : World} {B : Nat} {v : Value} {l : List Chg} (h : OwnChg w B v l) (hm : Mods S w w') (hS : ∀ k ∈ S, k < B) : OwnChg w' B v l :=
  hm.owns h fun k hk hk2 => by have := (World.ownsRow.lt h k hk).1; have := hS k hk2; omega
theorem OwnChg.mods0 {w w' : World} {B : Nat} {v : Value} {l : List Chg} (h : OwnChg w B v l) (hm : Mods [] w w') : OwnChg w' B v l := h.mods hm (by simp)
theorem OwnChg.own {w : World} {B : Nat} {v : Value} {l : List Chg} (h : OwnChg w B v l) : ∀ k, v.ownBlock = some k → B ≤ k ∧ k < w.heap.size := fun k hk => ⟨(World.ownsRow.lt h k hk).1, (World.ownsRow.lt h k hk).2⟩
theorem OwnChg.nil (w : World) (B : Nat) : OwnChg w B (.slice none 0 0) [] := World.ownsRow_nil _ _ _ _
theorem OwnChg.down {w : World} {B B' : Nat} {v : Value} {l : List Chg} (h : OwnChg w B v l) (hB : B' ≤ B) : OwnChg w B' v l := by
  obtain ⟨hl, h⟩ := h
  refine ⟨hl, ?_⟩
  rcases h with h | ⟨g, cap, cur, hv, hg, rest⟩
  · exact .inl h
  · exact .inr ⟨g, cap, cur, hv, by omega, rest⟩
theorem Try.infoCh : (Try.prog.info? 51).map (fun i => (i.zero, i.size, i.bytes)) = some (some (.agg #[.int .i64 0, .bool false]), 2, 16) := by kernel_rfl
/-- append of one change. -/
theorem wpList_pushC {ops : Array Oper} {rest : List Oper} {o : Oper} {a : Act} {Q : Exit → Act → World → Prop} {w : World} (hgd : o.guard = none) (s x : Operand)
    (ho : o.op = .call { callee := .builtin .append, args := #[s, x], argTypes := #[42, 42] })
    (B : Nat) (v : Value) (l : List Chg) (hs : a.eval s = v) (hown : OwnChg w B v l) (g : Nat) (c : Chg) (T : TypeId) (fr : Nat × Nat) (hg : w.heap[g]? = some (.cells #[.int .i64 c.idx, .bool c.on] T fr)) (hx : a.eval x = .slice (some ⟨g, 0, none⟩) 1 1)
    (hn : l.length ≤ 1000000) (hbase : B ≤ w.heap.size)
    (h : ∀ v' w', OwnChg w' B v' (l ++ [c]) → Mods (from_ B w) w w' → wpList Try.prog ops Q rest (a.put o.dst v') w') : wpList Try.prog ops Q (o :: rest) a w := by
  obtain ⟨i0, hi, hz0, hz1, hz2⟩ := info_parts Try.infoCh
  refine wpList_append_own _ hgd s x _ ho B 51 i0 _ 2 16 Try.underlying42 hi hz0 hz1 hz2 rfl (by decide) v l.length (chCells l) hs hown ⟨g, 0, none⟩ 1 1 [.int .i64 c.idx, .bool c.on] hx rfl ?_ (by intro u hu; simp at hu; rcases hu with rfl | rfl <;> rfl) (by unfold maxLen; omega) (by omega) hbase ?_
  · intro j u hj
    exact World.news_of_block (cs := #[.int .i64 c.idx, .bool c.on]) (t := T) (fr := fr) hg j u hj
  · intro v' w' h1 h2 _
    refine h _ _ ?_ (Mods.of_from ((Below.refl B w).grown h2 hbase fun k hk => (World.ownsRow.lt hown k hk).1))
    unfold OwnChg
    rw [chCells_snoc, List.length_append]
    exact h1
/-- The changes of the first n bits that lead from a to b. -/
def chL (a b : Nat) : Nat → List Chg
  | 0 => []
  | k + 1 => chL a b k ++ if (a ^^^ b).testBit k then [⟨k, b.testBit k⟩] else []
theorem chL_length (a b : Nat) : ∀ k, (chL a b k).length ≤ k
  | 0 => by simp [chL]
  | k + 1 => by
    have := chL_length a b k
    rw [chL, List.length_append]
    split <;> simp <;> omega
end Go.Proofs.Ytokokojmeepoeaa
