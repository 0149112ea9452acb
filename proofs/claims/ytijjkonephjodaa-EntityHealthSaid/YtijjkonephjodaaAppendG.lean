/- append of one slice to another, in a guarded operation too. -/
import Derived.Test.YtijjkonephjodaaMem
namespace Go.Proofs.Ytijjkonephjodaa
open Go.RowKit
theorem wpList_wanted {P : Program} {ops : Array Oper} {rest : List Oper} {o : Oper} {a : Act} {w : World} {Q : Exit → Act → World → Prop} (hw : Region.wanted o (yielded ops a.tmps) = true)
    (h : ∀ K : Act → World → Prop, (∀ a w, wpList P ops Q rest a w → K a w) → o.wp P a w K Q) : wpList P ops Q (o :: rest) a w :=
  wpList_step fun K hK => by rw [if_pos hw]; exact h K hK
/-- append(s, x...), s the call's own, x owned too (nil or not). -/
theorem wpList_append_two {P : Program} {ops : Array Oper} {rest : List Oper} {o : Oper} {a : Act} {Q : Exit → Act → World → Prop} {w : World} (hw : Region.wanted o (yielded ops a.tmps) = true) (s x : Operand) (t : TypeId)
    (ho : o.op = .call { callee := .builtin .append, args := #[s, x], argTypes := #[t, t] })
    (base : Nat) (e : TypeId) (i : TypeInfo) (z : Value) (bytes : Nat) (ht : P.underlying t = some (.slice e)) (hi : P.info? e = some i) (hz : i.zero = some z)
    (hsize : i.size = 1) (hby : i.bytes = bytes) (hzs : z.cells.size = 1)
    (v : Value) (n : Nat) (xs : List Value) (hs : a.eval s = v) (hown : w.ownsRow base e 1 v n xs) (u : Value) (b2 m : Nat) (e2 : TypeId) (ys : List Value) (hx : a.eval x = u) (hu : w.ownsRow b2 e2 1 u m ys) (h1 : ∀ y ∈ ys, y.oneCell' = true)
    (hn : n + m ≤ 1000000) (hb : bytes ≤ 1000) (hbase : base ≤ w.heap.size)
    (h : ∀ v' w', w'.ownsRow base e 1 v' (n + m) (xs ++ ys) → Mods (from_ base w) w w' → wpList P ops Q rest (a.put o.dst v') w') : wpList P ops Q (o :: rest) a w := by
  refine wpList_wanted hw fun K hK => ?_
  rcases hu.2 with ⟨hun, hm⟩ | ⟨g, cap, cur, hue, _, hg, hc1, hc2, hc3, hc4⟩
  · have hys : ys = [] := List.eq_nil_of_length_eq_zero (by rw [hu.1, hm])
    have hrun := run_append_owned_none (P := P) (w := w) base t o.type e i 1 ht hi v n xs hown
    unfold Oper.wp
    rw [hun] at hx
    simp [execOp, ho, resolve, invoke, builtin, hs, hx, hrun, Result.andThen]
    refine hK _ _ (h v w ?_ Mods.refl)
    rw [hys, hm, List.append_nil]; exact hown
  · rw [hue] at hx
    refine wp_append_own w s x t ho base e i z 1 bytes ht hi hz hsize hby hzs (by decide) v n xs hs hown ⟨g, 0, none⟩ m cap ys hx hu.1 ?_ h1 (by unfold maxLen; omega) ?_ hbase ?_
    · intro j y hj
      have hjl : j < ys.length := by rcases Nat.lt_or_ge j ys.length with hl | hl; exact hl; rw [List.getElem?_eq_none hl] at hj; cases hj
      have e1 : (⟨g, 0, none⟩ : Addr).add j = ⟨g, j, none⟩ := by unfold Addr.add; split <;> simp_all
      have hl := hu.1
      rw [e1, cell_blk hg, ← hj, ← hc4, List.getElem?_take, if_pos (by omega)]
      simp
    · have : (n + m) * bytes ≤ 1000000 * 1000 := Nat.mul_le_mul hn hb
      omega
    · intro v' w' h2 h3 _
      exact hK _ _ (h v' w' h2 (Mods.of_from ((Below.refl base w).grown h3 hbase fun k hk => (hown.lt k hk).1)))
end Go.Proofs.Ytijjkonephjodaa
