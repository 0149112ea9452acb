/- A slice literal of three conversions: where each lies. -/
import Derived.Test.YtgjjmiaiclhidaaThree
namespace Go.Proofs.Ytgjjmiaiclhidaa
open Go.RowKit

/-- The cells of three conversions in a row. -/
def threeK (Z : Array Value) (S0 S1 S2 : Conv) : Array Value := setAll (setAll (setAll Z (0 * 7) S0.cells.toList) (1 * 7) S1.cells.toList) (2 * 7) S2.cells.toList
theorem threeK_get {Z : Array Value} (hZ : Z.size = 21) (S0 S1 S2 : Conv) (j : Nat) (hj : j < 7) :
    (threeK Z S0 S1 S2)[0 * 7 + j]? = S0.cells[j]? ∧ (threeK Z S0 S1 S2)[1 * 7 + j]? = S1.cells[j]? ∧ (threeK Z S0 S1 S2)[2 * 7 + j]? = S2.cells[j]? := by
  have l0 : S0.cells.toList.length = 7 := rfl
  have l1 : S1.cells.toList.length = 7 := rfl
  have l2 : S2.cells.toList.length = 7 := rfl
  have g : ∀ (S : Conv), S.cells.toList[j]? = S.cells[j]? := fun S => by simp
  unfold threeK
  refine ⟨?_, ?_, ?_⟩
  · rw [get_setAll _ _ _ _ (by simp [size_setAll]; omega), if_neg (by omega), get_setAll _ _ _ _ (by simp [size_setAll]; omega), if_neg (by omega), get_setAll _ _ _ _ (by omega), if_pos (by omega), show 0 * 7 + j - 0 * 7 = j by omega, g]
  · rw [get_setAll _ _ _ _ (by simp [size_setAll]; omega), if_neg (by omega), get_setAll _ _ _ _ (by simp [size_setAll]; omega), if_pos (by omega), show 1 * 7 + j - 1 * 7 = j by omega, g]
  · rw [get_setAll _ _ _ _ (by simp [size_setAll]; omega), if_pos (by omega), show 2 * 7 + j - 2 * 7 = j by omega, g]
theorem Try.infoKon : (Try.prog.info? 26).map (fun i => (i.zero, i.size)) = some (some zC.val, 7) := by kernel_rfl
/-- A slice literal of three conversions. -/
theorem wp_threeK {o : Oper} {a : Act} {w : World} {K : Act → World → Prop} {Q : Exit → Act → World → Prop} (x0 x1 x2 : Operand) (ho : o.op = .buildSlice 62 3 #[(0, x0), (1, x1), (2, x2)]) (d : Nat) (hd : o.dst = some d)
    (S0 S1 S2 : Conv) (h0 : a.eval x0 = .agg S0.cells) (h1 : a.eval x1 = .agg S1.cells) (h2 : a.eval x2 = .agg S2.cells)
    (h : ∀ cells : Array Value, (∀ j, j < 7 → cells[0 * 7 + j]? = S0.cells[j]? ∧ cells[1 * 7 + j]? = S1.cells[j]? ∧ cells[2 * 7 + j]? = S2.cells[j]?) →
      K { a with tmps := a.tmps.setIfInBounds d (.slice (some ⟨w.heap.size, 0, none⟩) 3 3) } (w.alloc (.cells cells 26))) : o.wp Try.prog a w K Q := by
  have hi := Try.infoKon
  cases hie : Try.prog.info? 26 with
  | none => rw [hie] at hi; cases hi
  | some ie =>
    rw [hie] at hi
    simp only [Option.map_some, Option.some.injEq, Prod.mk.injEq] at hi
    obtain ⟨hz, hs⟩ := hi
    have hZ : ((Array.range (3 * ie.size)).map (zC.val.cells[· % zC.val.cells.size]!)).size = 21 := by simp [hs]
    refine wp_buildSlice 62 26 3 _ ho (threeK _ S0 S1 S2) ie _ Try.underlying62 hie hz (by rw [hs]; decide) (by rw [hs]; decide) ?_ (by unfold Act.put; rw [hd]; exact h _ (fun j hj => threeK_get hZ S0 S1 S2 j hj))
    rw [Array.toList_map]
    simp only [List.map_cons, List.map_nil, h0, h1, h2]
    rw [hs] at hZ ⊢
    exact fill_three rfl rfl rfl hZ
end Go.Proofs.Ytgjjmiaiclhidaa
