/- A free allocation that yields any value beside a chain of steps, in a region that draws its order. -/
import Derived.Test.YtkdadnlleepkfaaHeldRow
namespace Go.Proofs.Ytkdadnlleepkfaa
open Go.RowKit

section
variable {P : Program} {ops : Array Oper} {Q : Exit → Act → World → Prop} {S : World → Prop} {md : Region.Mode} {T : TypeId} {z : Array Value} {vA : Nat → Value} {B iA dA fuel : Nat} {df : List Deferred} {lst : Array Bool} {t : Array Value} {w : World}
/-- Whether the block was made already or not: the region goes through. -/
def BothV (P : Program) (md : Region.Mode) (ops : Array Oper) (Q : Exit → Act → World → Prop) (S : World → Prop) (T : TypeId) (z : Array Value) (vA : Nat → Value) (B iA dA : Nat) (df : List Deferred) (fuel : Nat) (lst : Array Bool) (t : Array Value) (w : World) : Prop :=
  wpAnyH P md ops Q S (fuel + 1) lst ⟨t, df⟩ w ∧
  ∀ g : Nat, B ≤ g → w.heap[g]? = some (.cells z T (0, 0)) → wpAnyH P md ops Q S fuel (lst.setIfInBounds iA true) ⟨t.setIfInBounds dA (vA g), df⟩ w
theorem exec_allocV {o : Oper} {a : Act} {w : World} {K : Act → World → Prop} {E : Prop} (hgd : o.guard = none) {d : Nat} (hd : o.dst = some d) {u : Value} {W : World}
    (hr : (execOp a.eval o).run P w = .ok (.value u) W) (h : K { a with tmps := a.tmps.setIfInBounds d u } W) : if Region.wanted o (yielded ops a.tmps) = true then Oper.wp P o a w K Q else E := by
  rw [if_pos (by simp [Region.wanted, hgd])]
  unfold Oper.wp
  rw [hr, Oper.upon_value]
  unfold Act.put
  rw [hd]
  exact h
theorem bothV_step {oA : Oper} (hA : ops[iA]? = some oA) (gA : oA.guard = none) (eA : oA.dst = some dA)
    (rA : ∀ (a : Act) w, a.tmps = t → (execOp a.eval oA).run P w = .ok (.value (vA w.heap.size)) (w.alloc (.cells z T)))
    (hBw : B ≤ w.heap.size) {i d : Nat} {o : Oper} (hi : ops[i]? = some o) (hd : d ≠ dA) (hiA : i ≠ iA)
    (t1 : Region.ready md ops lst = [i, iA]) (t2 : Region.ready md ops (lst.setIfInBounds iA true) = [i])
    (hS : ∀ W, Mods [] w W → S W) {J : Value → World → Prop} (hJ : ∀ v W, J v W → S W)
    (hstep : ∀ W t', Mods [] w W → (t' = t ∨ ∃ x, t' = t.setIfInBounds dA x) → ∀ (K : Act → World → Prop) (F : Prop), (∀ v W', J v W' → (∀ g : Nat, W.heap[g]? = some (.cells z T (0, 0)) → W'.heap[g]? = some (.cells z T (0, 0))) → K ⟨t'.setIfInBounds d v, df⟩ W') →
      if Region.wanted o (yielded ops t') = true then Oper.wp P o ⟨t', df⟩ W K Q else F)
    (hnext : ∀ v W', J v W' → BothV P md ops Q S T z vA B iA dA df fuel (lst.setIfInBounds i true) (t.setIfInBounds d v) W') :
    BothV P md ops Q S T z vA B iA dA df (fuel + 1) lst t w := by
  have hA2 : ∀ (W : World) (g : Nat), Mods [] w W → B ≤ g → W.heap[g]? = some (.cells z T (0, 0)) → wpAnyH P md ops Q S (fuel + 1) (lst.setIfInBounds iA true) ⟨t.setIfInBounds dA (vA g), df⟩ W := by
    intro W g M hb hg
    refine wpAnyH_ready t2 (by simp) (AllReadyH.cons hi (fun K hK => ?_) AllReadyH.nil)
    refine hstep W _ M (.inr ⟨_, rfl⟩) _ _ (fun v W' hv hk => ?_)
    refine hK.out _ _ (hJ v W' hv) (fun _ => ?_)
    have := (hnext v W' hv).2 g hb (hk g hg)
    rw [Array.setIfInBounds_comm _ _ hiA, Array.setIfInBounds_comm _ _ hd] at this
    exact this
  refine ⟨?_, fun g hb hg => hA2 w g Mods.refl hb hg⟩
  refine wpAnyH_ready t1 (by simp) (AllReadyH.cons hi (fun K hK => ?_) (AllReadyH.cons hA (fun K hK => ?_) AllReadyH.nil))
  · refine hstep w _ Mods.refl (.inl rfl) _ _ (fun v W' hv hk => ?_)
    exact hK.out _ _ (hJ v W' hv) (fun _ => (hnext v W' hv).1)
  · refine exec_allocV gA eA (rA _ _ rfl) ?_
    have M0 := (Mods.refl (S := []) (w := w)).alloc (.cells z T)
    refine hK.out _ _ (hS _ M0) (fun _ => ?_)
    exact hA2 _ _ M0 hBw (heap_alloc_new w _)
theorem bothV_last {oA : Oper} (hA : ops[iA]? = some oA) (gA : oA.guard = none) (eA : oA.dst = some dA)
    (rA : ∀ (a : Act) w, a.tmps = t → (execOp a.eval oA).run P w = .ok (.value (vA w.heap.size)) (w.alloc (.cells z T)))
    (hBw : B ≤ w.heap.size) (t1 : Region.ready md ops lst = [iA]) (hS : ∀ W, Mods [] w W → S W)
    (h : ∀ W (g : Nat), Mods [] w W → B ≤ g → W.heap[g]? = some (.cells z T (0, 0)) → wpAnyH P md ops Q S fuel (lst.setIfInBounds iA true) ⟨t.setIfInBounds dA (vA g), df⟩ W) :
    BothV P md ops Q S T z vA B iA dA df fuel lst t w := by
  refine ⟨?_, fun g hb hg => h w g Mods.refl hb hg⟩
  refine wpAnyH_ready t1 (by simp) (AllReadyH.cons hA (fun K hK => ?_) AllReadyH.nil)
  refine exec_allocV gA eA (rA _ _ rfl) ?_
  have M0 := (Mods.refl (S := []) (w := w)).alloc (.cells z T)
  exact hK.out _ _ (hS _ M0) (fun _ => h _ _ M0 hBw (heap_alloc_new w _))
end
end Go.Proofs.Ytkdadnlleepkfaa
