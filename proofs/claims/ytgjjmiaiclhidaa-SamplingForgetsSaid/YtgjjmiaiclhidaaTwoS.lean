/- Slice literals of two sensors and of three filters: where each lies. -/
import Derived.Test.YtgjjmiaiclhidaaTwoK
import Derived.Test.YtgjjmiaiclhidaaSamS
namespace Go.Proofs.Ytgjjmiaiclhidaa
open Go.RowKit

/-- The cells of two sensors in a row. -/
def twoS (Z : Array Value) (S0 S1 : Sen) : Array Value := setAll (setAll Z (0 * 28) S0.cells.toList) (1 * 28) S1.cells.toList
theorem twoS_get {Z : Array Value} (hZ : Z.size = 56) (S0 S1 : Sen) (j : Nat) (hj : j < 28) :
    (twoS Z S0 S1)[0 * 28 + j]? = S0.cells[j]? ∧ (twoS Z S0 S1)[1 * 28 + j]? = S1.cells[j]? := by
  have l0 : S0.cells.toList.length = 28 := rfl
  have l1 : S1.cells.toList.length = 28 := rfl
  have g : ∀ (S : Sen), S.cells.toList[j]? = S.cells[j]? := fun S => by simp
  unfold twoS
  refine ⟨?_, ?_⟩
  · rw [get_setAll _ _ _ _ (by simp [size_setAll]; omega), if_neg (by omega), get_setAll _ _ _ _ (by omega), if_pos (by omega), show 0 * 28 + j - 0 * 28 = j by omega, g]
  · rw [get_setAll _ _ _ _ (by simp [size_setAll]; omega), if_pos (by omega), show 1 * 28 + j - 1 * 28 = j by omega, g]
/-- A slice literal of two sensors. -/
theorem wp_twoS {o : Oper} {a : Act} {w : World} {K : Act → World → Prop} {Q : Exit → Act → World → Prop} (x0 x1 : Operand) (ho : o.op = .buildSlice 43 2 #[(0, x0), (1, x1)]) (d : Nat) (hd : o.dst = some d)
    (S0 S1 : Sen) (h0 : a.eval x0 = .agg S0.cells) (h1 : a.eval x1 = .agg S1.cells)
    (h : ∀ cells : Array Value, (∀ j, j < 28 → cells[0 * 28 + j]? = S0.cells[j]? ∧ cells[1 * 28 + j]? = S1.cells[j]?) →
      K { a with tmps := a.tmps.setIfInBounds d (.slice (some ⟨w.heap.size, 0, none⟩) 2 2) } (w.alloc (.cells cells 32))) : o.wp Try.prog a w K Q := by
  have hi := Try.infoSen
  cases hie : Try.prog.info? 32 with
  | none => rw [hie] at hi; cases hi
  | some ie =>
    rw [hie] at hi
    simp only [Option.map_some, Option.some.injEq, Prod.mk.injEq] at hi
    obtain ⟨hz, hs⟩ := hi
    have hZ : ((Array.range (2 * ie.size)).map (zS.val.cells[· % zS.val.cells.size]!)).size = 56 := by simp [hs]
    refine wp_buildSlice 43 32 2 _ ho (twoS _ S0 S1) ie _ Try.underlying43 hie hz (by rw [hs]; decide) (by rw [hs]; decide) ?_ (by unfold Act.put; rw [hd]; exact h _ (fun j hj => twoS_get hZ S0 S1 j hj))
    rw [Array.toList_map]
    simp only [List.map_cons, List.map_nil, h0, h1]
    rw [hs] at hZ ⊢
    exact fill_two rfl rfl hZ
theorem wpList_twoS {ops : Array Oper} {rest : List Oper} {o : Oper} {a : Act} {w : World} {Q : Exit → Act → World → Prop} (hgd : o.guard = none) (x0 x1 : Operand) (ho : o.op = .buildSlice 43 2 #[(0, x0), (1, x1)]) (d : Nat) (hd : o.dst = some d)
    (S0 S1 : Sen) (h0 : a.eval x0 = .agg S0.cells) (h1 : a.eval x1 = .agg S1.cells)
    (h : ∀ cells : Array Value, (∀ j, j < 28 → cells[0 * 28 + j]? = S0.cells[j]? ∧ cells[1 * 28 + j]? = S1.cells[j]?) →
      wpList Try.prog ops Q rest { a with tmps := a.tmps.setIfInBounds d (.slice (some ⟨w.heap.size, 0, none⟩) 2 2) } (w.alloc (.cells cells 32))) : wpList Try.prog ops Q (o :: rest) a w :=
  wpList_plain hgd fun _ hK => wp_twoS x0 x1 ho d hd S0 S1 h0 h1 fun cells hc => hK _ _ (h cells hc)
/-- The cells of three filters in a row. -/
def threeF (Z : Array Value) (a b c : Value × Int) : Array Value := setAll (setAll (setAll Z (0 * 2) (fltC a.1 a.2).toList) (1 * 2) (fltC b.1 b.2).toList) (2 * 2) (fltC c.1 c.2).toList
theorem threeF_get {Z : Array Value} (hZ : Z.size = 6) (a b c : Value × Int) (j : Nat) (hj : j < 2) :
    (threeF Z a b c)[0 * 2 + j]? = (fltC a.1 a.2)[j]? ∧ (threeF Z a b c)[1 * 2 + j]? = (fltC b.1 b.2)[j]? ∧ (threeF Z a b c)[2 * 2 + j]? = (fltC c.1 c.2)[j]? := by
  have l : ∀ x : Value × Int, (fltC x.1 x.2).toList.length = 2 := fun _ => rfl
  have l0 := l a
  have l1 := l b
  have l2 := l c
  have g : ∀ (x : Value × Int), (fltC x.1 x.2).toList[j]? = (fltC x.1 x.2)[j]? := fun S => by simp
  unfold threeF
  refine ⟨?_, ?_, ?_⟩
  · rw [get_setAll _ _ _ _ (by simp [size_setAll]; omega), if_neg (by omega), get_setAll _ _ _ _ (by simp [size_setAll]; omega), if_neg (by omega), get_setAll _ _ _ _ (by omega), if_pos (by omega), show 0 * 2 + j - 0 * 2 = j by omega, g]
  · rw [get_setAll _ _ _ _ (by simp [size_setAll]; omega), if_neg (by omega), get_setAll _ _ _ _ (by simp [size_setAll]; omega), if_pos (by omega), show 1 * 2 + j - 1 * 2 = j by omega, g]
  · rw [get_setAll _ _ _ _ (by simp [size_setAll]; omega), if_pos (by omega), show 2 * 2 + j - 2 * 2 = j by omega, g]
theorem Try.infoFlz : (Try.prog.info? 90).map (fun i => (i.zero, i.size)) = some (some (.agg (fltC (.slice none 0 0) 0)), 2) := by kernel_rfl
/-- A slice literal of three filters. -/
theorem wp_threeF {o : Oper} {a : Act} {w : World} {K : Act → World → Prop} {Q : Exit → Act → World → Prop} (x0 x1 x2 : Operand) (ho : o.op = .buildSlice 92 3 #[(0, x0), (1, x1), (2, x2)]) (d : Nat) (hd : o.dst = some d)
    (A B C : Value × Int) (h0 : a.eval x0 = .agg (fltC A.1 A.2)) (h1 : a.eval x1 = .agg (fltC B.1 B.2)) (h2 : a.eval x2 = .agg (fltC C.1 C.2))
    (h : ∀ cells : Array Value, (∀ j, j < 2 → cells[0 * 2 + j]? = (fltC A.1 A.2)[j]? ∧ cells[1 * 2 + j]? = (fltC B.1 B.2)[j]? ∧ cells[2 * 2 + j]? = (fltC C.1 C.2)[j]?) →
      K { a with tmps := a.tmps.setIfInBounds d (.slice (some ⟨w.heap.size, 0, none⟩) 3 3) } (w.alloc (.cells cells 90))) : o.wp Try.prog a w K Q := by
  have hi := Try.infoFlz
  cases hie : Try.prog.info? 90 with
  | none => rw [hie] at hi; cases hi
  | some ie =>
    rw [hie] at hi
    simp only [Option.map_some, Option.some.injEq, Prod.mk.injEq] at hi
    obtain ⟨hz, hs⟩ := hi
    have hZ : ((Array.range (3 * ie.size)).map ((fltC (.slice none 0 0) 0)[· % (fltC (.slice none 0 0) 0).size]!)).size = 6 := by simp [hs]
    refine wp_buildSlice 92 90 3 _ ho (threeF _ A B C) ie _ Try.underlying92 hie hz (by rw [hs]; decide) (by rw [hs]; decide) ?_ (by unfold Act.put; rw [hd]; exact h _ (fun j hj => threeF_get hZ A B C j hj))
    rw [Array.toList_map]
    simp only [List.map_cons, List.map_nil, h0, h1, h2]
    rw [hs] at hZ ⊢
    exact fill_three rfl rfl rfl hZ
theorem wpList_threeF {ops : Array Oper} {rest : List Oper} {o : Oper} {a : Act} {w : World} {Q : Exit → Act → World → Prop} (hgd : o.guard = none) (x0 x1 x2 : Operand) (ho : o.op = .buildSlice 92 3 #[(0, x0), (1, x1), (2, x2)]) (d : Nat) (hd : o.dst = some d)
    (A B C : Value × Int) (h0 : a.eval x0 = .agg (fltC A.1 A.2)) (h1 : a.eval x1 = .agg (fltC B.1 B.2)) (h2 : a.eval x2 = .agg (fltC C.1 C.2))
    (h : ∀ cells : Array Value, (∀ j, j < 2 → cells[0 * 2 + j]? = (fltC A.1 A.2)[j]? ∧ cells[1 * 2 + j]? = (fltC B.1 B.2)[j]? ∧ cells[2 * 2 + j]? = (fltC C.1 C.2)[j]?) →
      wpList Try.prog ops Q rest { a with tmps := a.tmps.setIfInBounds d (.slice (some ⟨w.heap.size, 0, none⟩) 3 3) } (w.alloc (.cells cells 90))) : wpList Try.prog ops Q (o :: rest) a w :=
  wpList_plain hgd fun _ hK => wp_threeF x0 x1 x2 ho d hd A B C h0 h1 h2 fun cells hc => hK _ _ (h cells hc)
end Go.Proofs.Ytgjjmiaiclhidaa
