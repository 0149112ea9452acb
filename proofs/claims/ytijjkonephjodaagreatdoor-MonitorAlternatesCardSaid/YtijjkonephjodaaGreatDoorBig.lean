/- An array [256][15]bool of the call's own. -/
import Derived.Test.YtijjkonephjodaaGreatDoorJoAI
import Derived.Great.Walk
namespace Go.Proofs.YtijjkonephjodaaGreatDoor
open Go.RowKit
set_option linter.unusedVariables false
def isFv : Value → Bool
  | .bool b => !b
  | _ => false
theorem isFv_eq {v : Value} (h : isFv v = true) : v = .bool false := by
  cases v <;> simp [isFv] at h
  rw [h]
def allFv : Nat → List Value → Bool
  | n, [] => n == 0
  | n, v :: l => isFv v && (match n with | 0 => false | n + 1 => allFv n l)
theorem allFv_get : ∀ (n : Nat) (l : List Value), allFv n l = true → l.length = n ∧ ∀ i, i < n → l[i]? = some (.bool false)
  | n, [], h => by
    have h0 : n = 0 := by simpa [allFv] using h
    subst h0
    exact ⟨rfl, fun i hi => by omega⟩
  | 0, v :: l, h => by simp [allFv] at h
  | n + 1, v :: l, h => by
    have h2 : isFv v = true ∧ allFv n l = true := by simpa [allFv] using h
    obtain ⟨h3, h4⟩ := allFv_get n l h2.2
    refine ⟨by rw [List.length_cons, h3], fun i hi => ?_⟩
    cases i with
    | zero => rw [isFv_eq h2.1]; rfl
    | succ i => rw [List.getElem?_cons_succ]; exact h4 i (by omega)
set_option maxRecDepth 100000 in
theorem Tryz.bigZ : ((Tryz.prog.info? 59).map fun i => (i.zero.map fun z => allFv 3840 z.cells.toList)) = some (some true) := by kernel_rfl
/-- The array lies in block g. -/
def OnAt (w : World) (g : Nat) (arr : Nat → Bool) : Prop := ∃ cs, w.heap[g]? = some (.cells cs 59 (0, 0)) ∧ cs.size = 3840 ∧ ∀ c, c < 3840 → cs[c]? = some (.bool (arr c))
theorem OnAt.mods {S : List Nat} {w w' : World} {g : Nat} {arr : Nat → Bool} (h : OnAt w g arr) (M : Mods S w w') (hg : g ∉ S) : OnAt w' g arr := by
  obtain ⟨cs, h1, h2, h3⟩ := h
  exact ⟨cs, M.heap h1 hg, h2, h3⟩
theorem OnAt.c {w : World} {g : Nat} {arr : Nat → Bool} (h : OnAt w g arr) {c : Nat} (hc : c < 3840) : w.cell? ⟨g, c, none⟩ = some (.bool (arr c)) ∧ w.frozen? ⟨g, c, none⟩ = false := by
  obtain ⟨cs, h1, h2, h3⟩ := h
  exact ⟨(cell_blk h1 c).trans (h3 c hc), froz_blk h1 c⟩
theorem OnAt.set {w : World} {g : Nat} {arr : Nat → Bool} (h : OnAt w g arr) {c : Nat} (hc : c < 3840) (b : Bool) : OnAt (w.setCell ⟨g, c, none⟩ (.bool b)) g (fun d => if d = c then b else arr d) := by
  obtain ⟨cs, h1, h2, h3⟩ := h
  refine ⟨_, heap_setCell h1, by rw [Array.size_setIfInBounds, h2], fun d hd => ?_⟩
  rw [Array.getElem?_setIfInBounds]
  by_cases hdc : c = d
  · subst hdc; rw [if_pos rfl, if_pos (by omega)]; simp
  · rw [if_neg hdc, h3 d hd]; have h5 : ¬ d = c := fun e => hdc e.symm; simp [h5]
theorem OnAt.lt {w : World} {g : Nat} {arr : Nat → Bool} (h : OnAt w g arr) : g < w.heap.size := by
  obtain ⟨cs, h1, _⟩ := h
  exact lt_of_block h1
section
variable {ops : Array Oper} {Q : Exit → Act → World → Prop}
theorem run_allocZ {P : Program} (ρ : Operand → Value) (o : Oper) (T : TypeId) (ho : o.op = .alloc T) {i : TypeInfo} {z : Value} (hi : P.info? T = some i) (hz : i.zero = some z) (w : World) : (execOp ρ o).run P w = .ok (.value (.pointer (some ⟨w.heap.size, 0, none⟩))) (w.alloc (.cells z.cells T)) := by
  unfold execOp
  rw [ho]
  simp [Instr.alloc, zeroValue, typeInfo, hi, hz, newVar, newRow]
/-- The array is made. -/
theorem wpList_big {rest : List Oper} {o : Oper} {a : Act} {w : World} (hg : o.guard = none) (d : Nat) (hd : o.dst = some d) (ho : o.op = .alloc 59)
    (h : ∀ W, OnAt W w.heap.size (fun _ => false) → Mods [] w W → w.heap.size < W.heap.size → wpList Tryz.prog ops Q rest (a.put (some d) (.pointer (some ⟨w.heap.size, 0, none⟩))) W) : wpList Tryz.prog ops Q (o :: rest) a w := by
  have hb := Tryz.bigZ
  cases hi : Tryz.prog.info? 59 with
  | none => rw [hi] at hb; cases hb
  | some i =>
    rw [hi] at hb
    cases hz : i.zero with
    | none => simp [hz] at hb
    | some z =>
      have hb : allFv 3840 z.cells.toList = true := by simpa [hz] using hb
      obtain ⟨h1, h2⟩ := allFv_get _ _ hb
      refine Go.Great.wpList_runTo hg (some d) hd _ _ (run_allocZ _ _ _ ho hi hz w) (h _ ⟨_, heap_alloc_new w _, by simpa using h1, fun c hc => ?_⟩ (Mods.refl.alloc _) (by simp))
      rw [← Array.getElem?_toList]
      exact h2 c hc
end
end Go.Proofs.YtijjkonephjodaaGreatDoor
