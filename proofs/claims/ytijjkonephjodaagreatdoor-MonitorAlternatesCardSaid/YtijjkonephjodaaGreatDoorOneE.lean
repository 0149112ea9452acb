/- A slice literal of one struct. No function of the program stands here. -/
import Derived.Test.YtijjkonephjodaaGreatDoorJoAI
import Derived.Test.YtijjkonephjodaaGreatDoorJoAD
import Derived.Great.BuildSlice
namespace Go.Proofs.YtijjkonephjodaaGreatDoor
open Go.RowKit
set_option linter.unusedVariables false
theorem fold_zip1 (off : Nat) : ∀ (l : List Value) (k : Nat) (c : Array Value), (l.zipIdx k).foldl (fun cs x => cs.setIfInBounds (off + x.2) x.1) c = setAll c (off + k) l
  | [], _, _ => rfl
  | v :: l, k, c => by
    rw [List.zipIdx_cons, List.foldl_cons, fold_zip1 off l (k + 1)]
    rfl
theorem fold_set1 (off : Nat) (vs c : Array Value) : vs.zipIdx.foldl (fun cs x => cs.setIfInBounds (off + x.2) x.1) c = setAll c off vs.toList := by
  rw [← Array.foldl_toList, Array.toList_zipIdx, fold_zip1]; rfl
theorem fill_one1 {k : Nat} {c0 Z : Array Value} (h0 : c0.size = k) (hZ : Z.size = k) :
    Instr.fill (fun i => some (i * k, k)) Z [(0, .agg c0)] = some (setAll Z (0 * k) c0.toList) := by
  have f : ∀ (off : Nat) (vs c : Array Value), vs.zipIdx.foldl (fun cs (x : Value × Nat) => match x with | (v, j) => cs.setIfInBounds (off + j) v) c = setAll c off vs.toList := fun off vs c => fold_set1 off vs c
  simp only [Instr.fill, Value.cells, f]
  split
  · rename_i hc
    rw [Bool.or_eq_true] at hc
    rcases hc with hc | hc
    · exact absurd h0 (of_decide_eq_true hc)
    · have hc := of_decide_eq_true hc; omega
  · rfl
theorem setAll_whole1 {c0 Z : Array Value} (h : Z.size = c0.size) : (setAll Z 0 c0.toList).toList = c0.toList := by
  have hl : c0.toList.length = c0.size := by simp
  refine List.ext_getElem? fun j => ?_
  rw [Array.getElem?_toList]
  rcases Nat.lt_or_ge j c0.size with hj | hj
  · rw [get_setAll _ _ _ _ (by omega), if_pos (by omega), Nat.sub_zero]
  · rw [Array.getElem?_eq_none (by rw [size_setAll]; omega), List.getElem?_eq_none (by omega)]
section
variable {α : Type} {P : Program} {E : Elt α} {ops : Array Oper} {Q : Exit → Act → World → Prop}
theorem wp_oneE (hk : E.Ok P) (hke : E.k ≤ 16777216) {o : Oper} {a : Act} {w : World} {K : Act → World → Prop} (x0 : Operand) (ho : o.op = .buildSlice E.sl 1 #[(0, x0)]) (d : Nat) (hd : o.dst = some d) (e : α) (cs : Array Value)
    (h0 : a.eval x0 = .agg cs) (hcs : cs.toList = E.enc e)
    (h : ∀ cells : Array Value, cells.toList = E.enc e → K { a with tmps := a.tmps.setIfInBounds d (.slice (some ⟨w.heap.size, 0, none⟩) 1 1) } (w.alloc (.cells cells E.ty))) : o.wp P a w K Q := by
  obtain ⟨ie, z, hie, hz, hs, hb, hzs⟩ := hk.info
  have hpos := hk.pos
  have hc0 : cs.size = E.k := by rw [← hk.len e, ← hcs]; simp
  have hZ : ((Array.range (1 * ie.size)).map (z.cells[· % z.cells.size]!)).size = E.k := by simp [hs]
  refine wp_buildSlice E.sl E.ty 1 _ ho (setAll ((Array.range (1 * ie.size)).map (z.cells[· % z.cells.size]!)) (0 * ie.size) cs.toList) ie z hk.und hie hz (by rw [hs]; omega) (by rw [hs]; omega) ?_ ?_
  · rw [Array.toList_map]
    simp only [List.map_cons, List.map_nil, h0]
    rw [hs] at hZ ⊢
    exact fill_one1 hc0 hZ
  · unfold Act.put
    rw [hd]
    exact h _ (by rw [Nat.zero_mul, setAll_whole1 (by rw [hZ, hc0]), hcs])
theorem wpList_oneE (hk : E.Ok P) (hke : E.k ≤ 16777216) {rest : List Oper} {o : Oper} {a : Act} {w : World} (hw : Region.wanted o (yielded ops a.tmps) = true) (x0 : Operand) (ho : o.op = .buildSlice E.sl 1 #[(0, x0)]) (d : Nat) (hd : o.dst = some d) (e : α) (cs : Array Value)
    (h0 : a.eval x0 = .agg cs) (hcs : cs.toList = E.enc e)
    (h : ∀ cells : Array Value, cells.toList = E.enc e → wpList P ops Q rest { a with tmps := a.tmps.setIfInBounds d (.slice (some ⟨w.heap.size, 0, none⟩) 1 1) } (w.alloc (.cells cells E.ty))) : wpList P ops Q (o :: rest) a w :=
  wpList_step fun _ hK => by
    rw [if_pos hw]
    exact wp_oneE hk hke x0 ho d hd e cs h0 hcs fun cells hc => hK _ _ (h cells hc)
end
end Go.Proofs.YtijjkonephjodaaGreatDoor
