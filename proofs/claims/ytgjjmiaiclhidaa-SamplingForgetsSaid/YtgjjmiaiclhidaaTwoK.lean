/- A slice literal of two conversions: where each lies. -/
import Derived.Test.YtgjjmiaiclhidaaValD
namespace Go.Proofs.Ytgjjmiaiclhidaa
open Go.RowKit

theorem fill_two {k : Nat} {c0 c1 Z : Array Value} (h0 : c0.size = k) (h1 : c1.size = k) (hZ : Z.size = 2 * k) :
    Instr.fill (fun i => some (i * k, k)) Z [(0, .agg c0), (1, .agg c1)] = some (setAll (setAll Z (0 * k) c0.toList) (1 * k) c1.toList) := by
  have f : ∀ (off : Nat) (vs c : Array Value), vs.zipIdx.foldl (fun cs (x : Value × Nat) => match x with | (v, j) => cs.setIfInBounds (off + j) v) c = setAll c off vs.toList := fun off vs c => fold_set off vs c
  simp only [Instr.fill, Value.cells, f]
  split
  · rename_i hc
    rw [Bool.or_eq_true] at hc
    rcases hc with hc | hc
    · exact absurd h0 (of_decide_eq_true hc)
    · have hc := of_decide_eq_true hc; omega
  · split
    · rename_i hc
      rw [Bool.or_eq_true] at hc
      rcases hc with hc | hc
      · exact absurd h1 (of_decide_eq_true hc)
      · have hc := of_decide_eq_true hc; rw [size_setAll] at hc; omega
    · rfl
/-- The cells of two conversions in a row. -/
def twoK (Z : Array Value) (S0 S1 : Conv) : Array Value := setAll (setAll Z (0 * 7) S0.cells.toList) (1 * 7) S1.cells.toList
theorem twoK_get {Z : Array Value} (hZ : Z.size = 14) (S0 S1 : Conv) (j : Nat) (hj : j < 7) :
    (twoK Z S0 S1)[0 * 7 + j]? = S0.cells[j]? ∧ (twoK Z S0 S1)[1 * 7 + j]? = S1.cells[j]? := by
  have l0 : S0.cells.toList.length = 7 := rfl
  have l1 : S1.cells.toList.length = 7 := rfl
  have g : ∀ (S : Conv), S.cells.toList[j]? = S.cells[j]? := fun S => by simp
  unfold twoK
  refine ⟨?_, ?_⟩
  · rw [get_setAll _ _ _ _ (by simp [size_setAll]; omega), if_neg (by omega), get_setAll _ _ _ _ (by omega), if_pos (by omega), show 0 * 7 + j - 0 * 7 = j by omega, g]
  · rw [get_setAll _ _ _ _ (by simp [size_setAll]; omega), if_pos (by omega), show 1 * 7 + j - 1 * 7 = j by omega, g]
/-- A slice literal of two conversions. -/
theorem wp_twoK {o : Oper} {a : Act} {w : World} {K : Act → World → Prop} {Q : Exit → Act → World → Prop} (x0 x1 : Operand) (ho : o.op = .buildSlice 62 2 #[(0, x0), (1, x1)]) (d : Nat) (hd : o.dst = some d)
    (S0 S1 : Conv) (h0 : a.eval x0 = .agg S0.cells) (h1 : a.eval x1 = .agg S1.cells)
    (h : ∀ cells : Array Value, (∀ j, j < 7 → cells[0 * 7 + j]? = S0.cells[j]? ∧ cells[1 * 7 + j]? = S1.cells[j]?) →
      K { a with tmps := a.tmps.setIfInBounds d (.slice (some ⟨w.heap.size, 0, none⟩) 2 2) } (w.alloc (.cells cells 26))) : o.wp Try.prog a w K Q := by
  have hi := Try.infoKon
  cases hie : Try.prog.info? 26 with
  | none => rw [hie] at hi; cases hi
  | some ie =>
    rw [hie] at hi
    simp only [Option.map_some, Option.some.injEq, Prod.mk.injEq] at hi
    obtain ⟨hz, hs⟩ := hi
    have hZ : ((Array.range (2 * ie.size)).map (zC.val.cells[· % zC.val.cells.size]!)).size = 14 := by simp [hs]
    refine wp_buildSlice 62 26 2 _ ho (twoK _ S0 S1) ie _ Try.underlying62 hie hz (by rw [hs]; decide) (by rw [hs]; decide) ?_ (by unfold Act.put; rw [hd]; exact h _ (fun j hj => twoK_get hZ S0 S1 j hj))
    rw [Array.toList_map]
    simp only [List.map_cons, List.map_nil, h0, h1]
    rw [hs] at hZ ⊢
    exact fill_two rfl rfl hZ
/-- In a list that is walked in the text's order. -/
theorem wpList_twoK {ops : Array Oper} {rest : List Oper} {o : Oper} {a : Act} {w : World} {Q : Exit → Act → World → Prop} (hgd : o.guard = none) (x0 x1 : Operand) (ho : o.op = .buildSlice 62 2 #[(0, x0), (1, x1)]) (d : Nat) (hd : o.dst = some d)
    (S0 S1 : Conv) (h0 : a.eval x0 = .agg S0.cells) (h1 : a.eval x1 = .agg S1.cells)
    (h : ∀ cells : Array Value, (∀ j, j < 7 → cells[0 * 7 + j]? = S0.cells[j]? ∧ cells[1 * 7 + j]? = S1.cells[j]?) →
      wpList Try.prog ops Q rest { a with tmps := a.tmps.setIfInBounds d (.slice (some ⟨w.heap.size, 0, none⟩) 2 2) } (w.alloc (.cells cells 26))) : wpList Try.prog ops Q (o :: rest) a w :=
  wpList_plain hgd fun _ hK => wp_twoK x0 x1 ho d hd S0 S1 h0 h1 fun cells hc => hK _ _ (h cells hc)
end Go.Proofs.Ytgjjmiaiclhidaa
