/- append of one list of changes to another. -/
import Derived.Test.YtokokojmeepoeaaDApply
namespace Go.Proofs.Ytokokojmeepoeaa
open Go.RowKit

theorem wpList_appC {ops : Array Oper} {rest : List Oper} {o : Oper} {a : Act} {Q : Exit → Act → World → Prop} {w : World} (hgd : o.guard = none) (s x : Operand)
    (ho : o.op = .call { callee := .builtin .append, args := #[s, x], argTypes := #[42, 42] })
    (B : Nat) (v : Value) (l : List Chg) (hs : a.eval s = v) (hown : OwnChg w B v l) (B2 : Nat) (u : Value) (l2 : List Chg) (hx : a.eval x = u) (hu : OwnChg w B2 u l2)
    (hn : l.length + l2.length ≤ 1000000) (hbase : B ≤ w.heap.size)
    (h : ∀ v' w', OwnChg w' B v' (l ++ l2) → Mods (from_ B w) w w' → wpList Try.prog ops Q rest (a.put o.dst v') w') : wpList Try.prog ops Q (o :: rest) a w := by
  obtain ⟨i0, hi, hz0, hz1, hz2⟩ := info_parts Try.infoCh
  rcases hu.2 with ⟨hun, hm⟩ | ⟨g, cap, cur, hue, _, hg, hc1, hc2, hc3, hc4⟩
  · have hys : l2 = [] := List.eq_nil_of_length_eq_zero hm
    have hrun := run_append_owned_none (P := Try.prog) (w := w) B 42 o.type 51 i0 2 Try.underlying42 hi v l.length (chCells l) hown
    refine wpList_plain hgd fun K hK => ?_
    unfold Oper.wp
    rw [hun] at hx
    simp [execOp, ho, resolve, invoke, builtin, hs, hx, hrun, Result.andThen]
    refine hK _ _ (h v w ?_ Mods.refl)
    rw [hys, List.append_nil]; exact hown
  · rw [hue] at hx
    refine wpList_append_own _ hgd s x _ ho B 51 i0 _ 2 16 Try.underlying42 hi hz0 hz1 hz2 rfl (by decide) v l.length (chCells l) hs hown ⟨g, 0, none⟩ l2.length cap (chCells l2) hx (chCells_length l2) ?_ ?_ (by unfold maxLen; omega) (by omega) hbase ?_
    · intro j y hj
      have hjl : j < (chCells l2).length := by rcases Nat.lt_or_ge j (chCells l2).length with hl | hl; exact hl; rw [List.getElem?_eq_none hl] at hj; cases hj
      have e1 : (⟨g, 0, none⟩ : Addr).add j = ⟨g, j, none⟩ := by unfold Addr.add; split <;> simp_all
      have hl := chCells_length l2
      rw [e1, cell_blk hg, ← hj, ← hc4, List.getElem?_take, if_pos (by omega)]
      simp
    · intro y hy
      simp only [chCells, List.mem_flatMap] at hy
      obtain ⟨c, _, hc⟩ := hy
      simp at hc
      rcases hc with rfl | rfl <;> rfl
    · intro v' w' h1 h2 _
      refine h _ _ ?_ (Mods.of_from ((Below.refl B w).grown h2 hbase fun k hk => (World.ownsRow.lt hown k hk).1))
      unfold OwnChg
      rw [List.length_append, show chCells (l ++ l2) = chCells l ++ chCells l2 by simp [chCells]]
      exact h1
theorem chL_ok (a b k : Nat) (hk : k ≤ 15) : ∀ c ∈ chL a b k, I64 c.idx := fun c hc => by
  have := chL_idx a b k c hc
  constructor <;> omega
theorem ChgOk.of {l : List Chg} (h : ∀ c ∈ l, I64 c.idx) : ChgOk l := fun i => by
  rcases Nat.lt_or_ge i l.length with hi | hi
  · rw [List.getD_eq_getElem?_getD, List.getElem?_eq_getElem hi]; exact h _ (List.getElem_mem hi)
  · rw [List.getD_eq_getElem?_getD, List.getElem?_eq_none hi]; constructor <;> decide
end Go.Proofs.Ytokokojmeepoeaa
