/- A slice of samples of the call's own; append of one sample. -/
import Derived.Test.YtgjjmiaiclhidaaSamRun
import Derived.Test.YtgjjmiaiclhidaaBaseA
namespace Go.Proofs.Ytgjjmiaiclhidaa
open Go.RowKit

def tkCells (l : List Tk) : List Value := l.flatMap fun c => [.int .u8 (c.raw : Nat), .bool c.miss]
theorem tkCells_length (l : List Tk) : (tkCells l).length = l.length * 2 := by
  induction l with
  | nil => rfl
  | cons p l ih => simp only [tkCells, List.flatMap_cons, List.length_append, List.length_cons, List.length_nil] at ih ⊢; omega
theorem tkCells_snoc (l : List Tk) (c : Tk) : tkCells (l ++ [c]) = tkCells l ++ [.int .u8 (c.raw : Nat), .bool c.miss] := by simp [tkCells]
theorem tkCells_get (l : List Tk) : ∀ i, i < l.length → (tkCells l)[i * 2]? = some (.int .u8 ((l.getD i default).raw : Nat)) ∧ (tkCells l)[i * 2 + 1]? = some (.bool (l.getD i default).miss) := by
  induction l with
  | nil => intro i hi; simp at hi
  | cons p l ih =>
    intro i hi
    match i with
    | 0 => exact ⟨rfl, rfl⟩
    | i + 1 =>
      have := ih i (by simpa using hi)
      have e : tkCells (p :: l) = .int .u8 (p.raw : Nat) :: .bool p.miss :: tkCells l := rfl
      rw [e, show (i + 1) * 2 = i * 2 + 1 + 1 by omega]
      simpa [List.getD_cons_succ] using this
theorem RdTk.nil (w : World) : RdTk w (.slice none 0 0) [] := ⟨none, 0, rfl, Nat.le_refl _, Nat.zero_le _, fun i hi => by simp at hi⟩
theorem RdTk.len {w : World} {v : Value} {l : List Tk} (h : RdTk w v l) : ∃ ad cap, v = .slice ad l.length cap := by
  obtain ⟨ad, cap, rfl, _⟩ := h; exact ⟨ad, cap, rfl⟩
/-- The slice v is the call's own from block B on and holds the samples l. -/
def OwnTk (w : World) (B : Nat) (v : Value) (l : List Tk) : Prop := w.ownsRow B 103 2 v l.length (tkCells l)
theorem OwnTk.rd {w : World} {B : Nat} {v : Value} {l : List Tk} (h : OwnTk w B v l) : RdTk w v l := by
  obtain ⟨hl, h⟩ := h
  rcases h with ⟨rfl, h0⟩ | ⟨g, cap, cur, rfl, _, hg, h1, h2, h3, h4⟩
  · have : l = [] := List.eq_nil_of_length_eq_zero h0
    subst this
    exact RdTk.nil w
  · refine ⟨_, cap, rfl, h1, h2, fun i hi => ⟨g, 0, rfl, ?_⟩⟩
    have ⟨a, b⟩ := tkCells_get l i hi
    rw [cell_blk hg, cell_blk hg]
    rw [← h4] at a b
    rw [List.getElem?_take, if_pos (by omega)] at a b
    constructor
    · rw [← a]; simp
    · rw [← b, show 0 + i * 2 + 1 = i * 2 + 1 by omega]; simp
theorem OwnTk.mods {S : List Nat} {w w' : World} {B : Nat} {v : Value} {l : List Tk} (h : OwnTk w B v l) (hm : Mods S w w') (hS : ∀ k ∈ S, k < B) : OwnTk w' B v l :=
  hm.owns h fun k hk hk2 => by have := (World.ownsRow.lt h k hk).1; have := hS k hk2; omega
theorem OwnTk.mods0 {w w' : World} {B : Nat} {v : Value} {l : List Tk} (h : OwnTk w B v l) (hm : Mods [] w w') : OwnTk w' B v l := h.mods hm (by simp)
theorem OwnTk.own {w : World} {B : Nat} {v : Value} {l : List Tk} (h : OwnTk w B v l) : ∀ k, v.ownBlock = some k → B ≤ k ∧ k < w.heap.size := fun k hk => ⟨(World.ownsRow.lt h k hk).1, (World.ownsRow.lt h k hk).2⟩
theorem OwnTk.nil (w : World) (B : Nat) : OwnTk w B (.slice none 0 0) [] := World.ownsRow_nil _ _ _ _
theorem OwnTk.down {w : World} {B B' : Nat} {v : Value} {l : List Tk} (h : OwnTk w B v l) (hB : B' ≤ B) : OwnTk w B' v l := by
  obtain ⟨hl, h⟩ := h
  refine ⟨hl, ?_⟩
  rcases h with h | ⟨g, cap, cur, hv, hg, rest⟩
  · exact .inl h
  · exact .inr ⟨g, cap, cur, hv, by omega, rest⟩
theorem Try.infoTk : (Try.prog.info? 103).map (fun i => (i.zero, i.size, i.bytes)) = some (some (.agg #[.int .u8 0, .bool false]), 2, 2) := by kernel_rfl
/-- append of one sample. -/
theorem wpList_pushT {ops : Array Oper} {rest : List Oper} {o : Oper} {a : Act} {Q : Exit → Act → World → Prop} {w : World} (hgd : o.guard = none) (s x : Operand)
    (ho : o.op = .call { callee := .builtin .append, args := #[s, x], argTypes := #[99, 99] })
    (B : Nat) (v : Value) (l : List Tk) (hs : a.eval s = v) (hown : OwnTk w B v l) (g : Nat) (c : Tk) (T : TypeId) (fr : Nat × Nat) (hg : w.heap[g]? = some (.cells #[.int .u8 (c.raw : Nat), .bool c.miss] T fr)) (hx : a.eval x = .slice (some ⟨g, 0, none⟩) 1 1)
    (hn : l.length ≤ 1000000) (hbase : B ≤ w.heap.size)
    (h : ∀ v' w', OwnTk w' B v' (l ++ [c]) → Mods (from_ B w) w w' → wpList Try.prog ops Q rest (a.put o.dst v') w') : wpList Try.prog ops Q (o :: rest) a w := by
  obtain ⟨i0, hi, hz0, hz1, hz2⟩ := info_parts Try.infoTk
  refine wpList_append_own _ hgd s x _ ho B 103 i0 _ 2 2 Try.underlying99 hi hz0 hz1 hz2 rfl (by decide) v l.length (tkCells l) hs hown ⟨g, 0, none⟩ 1 1 [.int .u8 (c.raw : Nat), .bool c.miss] hx rfl ?_ (by intro u hu; simp at hu; rcases hu with rfl | rfl <;> rfl) (by unfold maxLen; omega) (by omega) hbase ?_
  · intro j u hj
    exact World.news_of_block (cs := #[.int .u8 (c.raw : Nat), .bool c.miss]) (t := T) (fr := fr) hg j u hj
  · intro v' w' h1 h2 _
    refine h _ _ ?_ (Mods.of_from ((Below.refl B w).grown h2 hbase fun k hk => (World.ownsRow.lt hown k hk).1))
    unfold OwnTk
    rw [tkCells_snoc, List.length_append]
    exact h1
end Go.Proofs.Ytgjjmiaiclhidaa
