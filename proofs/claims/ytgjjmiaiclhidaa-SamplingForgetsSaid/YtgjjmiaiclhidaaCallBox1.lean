/- A call and a new block in a region that draws its order: in either order. -/
import Derived.Test.YtgjjmiaiclhidaaBaseH
import Derived.Test.YtgjjmiaiclhidaaCallBoxes
import Derived.Test.YtgjjmiaiclhidaaBaseG
namespace Go.Proofs.Ytgjjmiaiclhidaa
open Go.RowKit

section
variable {P : Program} {ops : Array Oper} {Q : Exit → Act → World → Prop} {S : World → Prop} {md : Region.Mode} {T : TypeId}
theorem callBoxH {lst : Array Bool} {iC iA : Nat} {oC oA : Oper} {dC dA : Nat} {f : FuncId} {args z : Array Value} {a : Act} {w : World} {fuel : Nat} {R : Value → World → Prop}
    (hC : ops[iC]? = some oC) (hA : ops[iA]? = some oA) (gC : oC.guard = none) (gA : oA.guard = none) (eC : oC.dst = some dC) (eA : oA.dst = some dA) (hd : dC ≠ dA) (hi : iC ≠ iA)
    (rC0 : ∀ w, (execOp a.eval oC).run P w = .ok (.enter f args) w) (rC1 : ∀ (u : Value) w, (execOp ({ a with tmps := a.tmps.setIfInBounds dA u } : Act).eval oC).run P w = .ok (.enter f args) w)
    (rA : ∀ (a : Act) w, (execOp a.eval oA).run P w = .ok (.value (.pointer (some ⟨w.heap.size, 0, none⟩))) (w.alloc (.cells z T)))
    (t0 : Region.ready md ops lst = [iC, iA]) (t1 : Region.ready md ops (lst.setIfInBounds iC true) = [iA]) (t2 : Region.ready md ops (lst.setIfInBounds iA true) = [iC])
    (hS : ∀ W, Mods [] w W → S W) (hcall : ∀ W, Mods [] w W → Calls P f args W fun e W' => ∃ u, e = .returned u ∧ R u W' ∧ Mods [] W W') (hR : ∀ u W, R u W → R u (W.alloc (.cells z T)))
    (h : ∀ u g W', R u W' → Mods [] w W' → W'.heap[g]? = some (.cells z T (0, 0)) → w.heap.size ≤ g → wpAnyH P md ops Q S fuel ((lst.setIfInBounds iC true).setIfInBounds iA true) { a with tmps := (a.tmps.setIfInBounds dC u).setIfInBounds dA (.pointer (some ⟨g, 0, none⟩)) } W') :
    wpAnyH P md ops Q S (fuel + 2) lst a w := by
  refine wpAnyH_ready t0 (by simp) (AllReadyH.cons hC (fun K hK => ?_) (AllReadyH.cons hA (fun K hK => ?_) AllReadyH.nil))
  · refine exec_call gC eC (rC0 w) (R := fun u W' => R u W' ∧ Mods [] w W') ((hcall w Mods.refl).mono fun e W' ⟨u, he, hu, M⟩ => ⟨u, he, hu, M⟩) (fun u W' ⟨hu, M⟩ => ?_)
    refine hK.out _ _ (hS _ M) (fun _ => ?_)
    refine wpAnyH_ready t1 (by simp) (AllReadyH.cons hA (fun K' hK' => ?_) AllReadyH.nil)
    refine exec_alloc gA eA rA ?_
    exact hK'.out _ _ (hS _ (M.alloc _)) (fun _ => h u _ _ (hR u W' hu) (M.alloc _) (heap_alloc_new W' _) M.size)
  · refine exec_alloc gA eA rA ?_
    have M0 := (Mods.refl (S := []) (w := w)).alloc (.cells z T)
    refine hK.out _ _ (hS _ M0) (fun _ => ?_)
    refine wpAnyH_ready t2 (by simp) (AllReadyH.cons hC (fun K' hK' => ?_) AllReadyH.nil)
    refine exec_call gC eC (rC1 _ _) (R := fun u W' => R u W' ∧ Mods [] (w.alloc (.cells z T)) W') ((hcall _ M0).mono fun e W' ⟨u, he, hu, M⟩ => ⟨u, he, hu, M⟩) (fun u W' ⟨hu, M⟩ => ?_)
    refine hK'.out _ _ (hS _ (M0.trans M)) (fun _ => ?_)
    have := h u w.heap.size W' hu (M0.trans M) (M.heap (heap_alloc_new w _) (by simp)) (Nat.le_refl _)
    rw [Array.setIfInBounds_comm _ _ hi] at this
    rw [Array.setIfInBounds_comm _ _ hd] at this
    exact this
end
end Go.Proofs.Ytgjjmiaiclhidaa
