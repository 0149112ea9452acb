/- SamplingForgets: the plain law. -/
import Derived.Test.YtgjjmiaiclhidaaSamplingSteps
import Derived.Test.YtgjjmiaiclhidaaChainA
import Derived.Test.YtgjjmiaiclhidaaSamM
namespace Go.Proofs.Ytgjjmiaiclhidaa
open Go.RowKit
set_option linter.unusedVariables false

def gapL : List Tk := [⟨0, true⟩, ⟨0, true⟩, ⟨0, true⟩]
def fullL : List Tk := [⟨1, false⟩, ⟨2, false⟩, ⟨3, false⟩, ⟨4, false⟩, ⟨5, false⟩]
theorem runF_append (k : Int) (A B : List Tk) : runF k (A ++ B) = B.foldl (fun f t => stepF k f.1 f.2 (t.raw : Nat) (!t.miss)) (runF k A) := by unfold runF; rw [List.foldl_append]
theorem runF_nn (k : Int) (L : List Tk) : 0 ≤ (runF k L).2 ∧ (runF k L).2 ≤ 3 := by
  have key : ∀ (L : List Tk) (f : List Int × Int), 0 ≤ f.2 ∧ f.2 ≤ 3 → 0 ≤ (L.foldl (fun f t => stepF k f.1 f.2 (t.raw : Nat) (!t.miss)) f).2 ∧ (L.foldl (fun f t => stepF k f.1 f.2 (t.raw : Nat) (!t.miss)) f).2 ≤ 3 := by
    intro L
    induction L with
    | nil => intro f h; exact h
    | cons t L ih =>
      intro f h
      rw [List.foldl_cons]
      refine ih _ ?_
      unfold stepF
      split
      · exact ⟨Int.le_refl _, show (0 : Int) ≤ 3 by decide⟩
      · split
        · exact ⟨show (0 : Int) ≤ 3 by decide, Int.le_refl _⟩
        · simp only; omega
  exact key L _ ⟨by decide, by decide⟩
/-- A long gap makes the filter forget everything. -/
theorem runF_gap (k : Int) (L : List Tk) : runF k (L ++ gapL) = ([], 3) := by
  rw [runF_append]
  have h := runF_nn k L
  generalize runF k L = f at h
  obtain ⟨W, n⟩ := f
  simp only at h
  simp only [gapL, List.foldl_cons, List.foldl_nil, Bool.not_true]
  have h4 : n = 0 ∨ n = 1 ∨ n = 2 ∨ n = 3 := by omega
  have e0 : ∀ (W : List Int) (r : Int), stepF k W 0 r false = (W, 1) := fun _ _ => rfl
  have e1 : ∀ (W : List Int) (r : Int), stepF k W 1 r false = (W, 2) := fun _ _ => rfl
  have e2 : ∀ (W : List Int) (r : Int), stepF k W 2 r false = ([], 3) := fun _ _ => rfl
  have e3 : ∀ (W : List Int) (r : Int), stepF k W 3 r false = ([], 3) := fun _ _ => rfl
  rcases h4 with rfl | rfl | rfl | rfl
  · rw [e0, e1, e2]
  · rw [e1, e2, e3]
  · rw [e2, e3, e3]
  · rw [e3, e3, e3]
theorem runF_rest (k : Int) (A B R : List Tk) : runF k (A ++ gapL ++ R) = runF k (B ++ gapL ++ R) := by
  rw [runF_append, runF_append k (B ++ gapL), runF_gap, runF_gap]
theorem step_len {k : Nat} (hk : 1 ≤ k) {f : List Int × Int} (h : f.1.length ≤ k) (r : Int) (ok : Bool) : (stepF k f.1 f.2 r ok).1.length ≤ k := by
  unfold stepF nextW
  split
  · split
    · rw [List.length_drop, List.length_append]; simp; omega
    · rw [List.length_append]; simp; omega
  · split
    · simp
    · exact h
theorem runF_len {k : Nat} (hk : 1 ≤ k) (L : List Tk) : (runF k L).1.length ≤ k := by
  have key : ∀ (L : List Tk) (f : List Int × Int), f.1.length ≤ k → (L.foldl (fun f t => stepF k f.1 f.2 (t.raw : Nat) (!t.miss)) f).1.length ≤ k := by
    intro L
    induction L with
    | nil => intro f h; exact h
    | cons t L ih => intro f h; exact ih _ (step_len hk h _ _)
  exact key L _ (by simp)
/-- Samples enough: what was before does not matter. -/
theorem runF_full {k : Nat} (hk : k = 1 ∨ k = 3 ∨ k = 5) (L : List Tk) : runF k (L ++ fullL) = (([1, 2, 3, 4, 5] : List Int).drop (5 - k), 0) := by
  rw [runF_append]
  have h := runF_len (k := k) (by omega) L
  generalize runF k L = f at h
  obtain ⟨W, n⟩ := f
  simp only at h
  simp only [fullL, List.foldl_cons, List.foldl_nil, Bool.not_false]
  have st : ∀ (A : List Int) (m r : Int), stepF k (A.drop (A.length - k)) m r true = ((A ++ [r]).drop ((A ++ [r]).length - k), 0) := fun A m r => by
    unfold stepF
    rw [if_pos rfl, nextW_drop (by omega)]
  have e0 : W = W.drop (W.length - k) := by rw [show W.length - k = 0 by omega, List.drop_zero]
  rw [e0]
  rw [st, st, st, st, st]
  simp only [List.append_assoc, List.cons_append, List.nil_append, List.length_append, List.length_cons, List.length_nil]
  refine Prod.ext ?_ rfl
  simp only
  rw [List.drop_append, show W.length + (0 + 1 + 1 + 1 + 1 + 1) - k - W.length = 5 - k by omega, List.drop_of_length_le (by omega)]
  rfl
theorem OwnE.apart {α : Type} {E : Elt α} {w : World} {B : Nat} {v : Value} {A : List α} (h : OwnE E w B v A) {g : Nat} {c : Array Value} {T : TypeId} {fr : Nat × Nat} (R : w.heap[g]? = some (.cells c T fr)) (hT : T ≠ E.ty) : g ∉ v.ownBlock.toList := fun hm => by
  rcases h.2 with ⟨rfl, _⟩ | ⟨g', cap, cur, rfl, _, hg, _⟩
  · simp [Value.ownBlock] at hm
  · simp [Value.ownBlock] at hm
    subst hm
    rw [R] at hg
    injection hg with hg
    injection hg with _ h2 _
    exact hT h2
end Go.Proofs.Ytgjjmiaiclhidaa
