/- A slice literal of three sensors: where each lies. -/
import Derived.Test.YtgjjmiaiclhidaaReady
import Derived.Great.BuildSlice
namespace Go.Proofs.Ytgjjmiaiclhidaa
open Go.RowKit

theorem fold_zip (off : Nat) : ∀ (l : List Value) (k : Nat) (c : Array Value), (l.zipIdx k).foldl (fun cs x => cs.setIfInBounds (off + x.2) x.1) c = setAll c (off + k) l
  | [], _, _ => rfl
  | v :: l, k, c => by
    rw [List.zipIdx_cons, List.foldl_cons, fold_zip off l (k + 1)]
    rfl
theorem fold_set (off : Nat) (vs c : Array Value) : vs.zipIdx.foldl (fun cs x => cs.setIfInBounds (off + x.2) x.1) c = setAll c off vs.toList := by
  rw [← Array.foldl_toList, Array.toList_zipIdx, fold_zip]; rfl
theorem fill_three {k : Nat} {c0 c1 c2 Z : Array Value} (h0 : c0.size = k) (h1 : c1.size = k) (h2 : c2.size = k) (hZ : Z.size = 3 * k) :
    Instr.fill (fun i => some (i * k, k)) Z [(0, .agg c0), (1, .agg c1), (2, .agg c2)] = some (setAll (setAll (setAll Z (0 * k) c0.toList) (1 * k) c1.toList) (2 * k) c2.toList) := by
  have f : ∀ (off : Nat) (vs c : Array Value), vs.zipIdx.foldl (fun cs (x : Value × Nat) => match x with | (v, j) => cs.setIfInBounds (off + j) v) c = setAll c off vs.toList := fun off vs c => fold_set off vs c
  simp only [Instr.fill, Value.cells, f]
  split
  · rename_i hc
    rw [Bool.or_eq_true] at hc
    rcases hc with hc | hc
    · exact absurd h0 (of_decide_eq_true hc)
    · have hc := of_decide_eq_true hc; omega
  · split
    · rename_i hc
      rw [Bool.or_eq_true] at hc
      rcases hc with hc | hc
      · exact absurd h1 (of_decide_eq_true hc)
      · have hc := of_decide_eq_true hc; rw [size_setAll] at hc; omega
    · split
      · rename_i hc
        rw [Bool.or_eq_true] at hc
        rcases hc with hc | hc
        · exact absurd h2 (of_decide_eq_true hc)
        · have hc := of_decide_eq_true hc; rw [size_setAll, size_setAll] at hc; omega
      · rfl
/-- The cells of three sensors in a row. -/
def threeC (Z : Array Value) (S0 S1 S2 : Sen) : Array Value := setAll (setAll (setAll Z (0 * 28) S0.cells.toList) (1 * 28) S1.cells.toList) (2 * 28) S2.cells.toList
theorem three_get {Z : Array Value} (hZ : Z.size = 84) (S0 S1 S2 : Sen) (j : Nat) (hj : j < 28) :
    (threeC Z S0 S1 S2)[0 * 28 + j]? = S0.cells[j]? ∧ (threeC Z S0 S1 S2)[1 * 28 + j]? = S1.cells[j]? ∧ (threeC Z S0 S1 S2)[2 * 28 + j]? = S2.cells[j]? := by
  have l0 : S0.cells.toList.length = 28 := rfl
  have l1 : S1.cells.toList.length = 28 := rfl
  have l2 : S2.cells.toList.length = 28 := rfl
  have g : ∀ (S : Sen), S.cells.toList[j]? = S.cells[j]? := fun S => by simp
  unfold threeC
  refine ⟨?_, ?_, ?_⟩
  · rw [get_setAll _ _ _ _ (by simp [size_setAll]; omega), if_neg (by omega), get_setAll _ _ _ _ (by simp [size_setAll]; omega), if_neg (by omega), get_setAll _ _ _ _ (by omega), if_pos (by omega), show 0 * 28 + j - 0 * 28 = j by omega, g]
  · rw [get_setAll _ _ _ _ (by simp [size_setAll]; omega), if_neg (by omega), get_setAll _ _ _ _ (by simp [size_setAll]; omega), if_pos (by omega), show 1 * 28 + j - 1 * 28 = j by omega, g]
  · rw [get_setAll _ _ _ _ (by simp [size_setAll]; omega), if_pos (by omega), show 2 * 28 + j - 2 * 28 = j by omega, g]
theorem Try.infoSen : (Try.prog.info? 32).map (fun i => (i.zero, i.size)) = some (some zS.val, 28) := by kernel_rfl
/-- A slice literal of three sensors. -/
theorem wp_three {o : Oper} {a : Act} {w : World} {K : Act → World → Prop} {Q : Exit → Act → World → Prop} (x0 x1 x2 : Operand) (ho : o.op = .buildSlice 43 3 #[(0, x0), (1, x1), (2, x2)]) (d : Nat) (hd : o.dst = some d)
    (S0 S1 S2 : Sen) (h0 : a.eval x0 = .agg S0.cells) (h1 : a.eval x1 = .agg S1.cells) (h2 : a.eval x2 = .agg S2.cells)
    (h : ∀ cells : Array Value, (∀ j, j < 28 → cells[0 * 28 + j]? = S0.cells[j]? ∧ cells[1 * 28 + j]? = S1.cells[j]? ∧ cells[2 * 28 + j]? = S2.cells[j]?) →
      K { a with tmps := a.tmps.setIfInBounds d (.slice (some ⟨w.heap.size, 0, none⟩) 3 3) } (w.alloc (.cells cells 32))) : o.wp Try.prog a w K Q := by
  have hi := Try.infoSen
  cases hie : Try.prog.info? 32 with
  | none => rw [hie] at hi; cases hi
  | some ie =>
    rw [hie] at hi
    simp only [Option.map_some, Option.some.injEq, Prod.mk.injEq] at hi
    obtain ⟨hz, hs⟩ := hi
    have hZ : ((Array.range (3 * ie.size)).map (zS.val.cells[· % zS.val.cells.size]!)).size = 84 := by simp [hs]
    refine wp_buildSlice 43 32 3 _ ho (threeC _ S0 S1 S2) ie _ Try.underlying43 hie hz (by rw [hs]; decide) (by rw [hs]; decide) ?_ (by unfold Act.put; rw [hd]; exact h _ (fun j hj => three_get hZ S0 S1 S2 j hj))
    rw [Array.toList_map]
    simp only [List.map_cons, List.map_nil, h0, h1, h2]
    rw [hs] at hZ ⊢
    exact fill_three rfl rfl rfl hZ
end Go.Proofs.Ytgjjmiaiclhidaa
