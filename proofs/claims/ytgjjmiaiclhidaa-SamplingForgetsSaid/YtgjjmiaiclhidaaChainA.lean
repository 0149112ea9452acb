/- A free allocation beside a chain of steps, in a region that draws its order; samples as a kind of element. -/
import Derived.Test.YtgjjmiaiclhidaaElem
import Derived.Test.YtgjjmiaiclhidaaCallBox1
import Derived.Test.YtgjjmiaiclhidaaTkRow
namespace Go.Proofs.Ytgjjmiaiclhidaa
open Go.RowKit

section
variable {P : Program} {ops : Array Oper} {Q : Exit → Act → World → Prop} {S : World → Prop} {md : Region.Mode} {T : TypeId} {z : Array Value} {B iA dA fuel : Nat} {df : List Deferred} {lst : Array Bool} {t : Array Value} {w : World}
/-- Whether the block was made already or not: the region goes through. -/
def Both (P : Program) (md : Region.Mode) (ops : Array Oper) (Q : Exit → Act → World → Prop) (S : World → Prop) (T : TypeId) (z : Array Value) (B iA dA : Nat) (df : List Deferred) (fuel : Nat) (lst : Array Bool) (t : Array Value) (w : World) : Prop :=
  wpAnyH P md ops Q S (fuel + 1) lst ⟨t, df⟩ w ∧
  ∀ g : Nat, B ≤ g → w.heap[g]? = some (.cells z T (0, 0)) → wpAnyH P md ops Q S fuel (lst.setIfInBounds iA true) ⟨t.setIfInBounds dA (.pointer (some ⟨g, 0, none⟩)), df⟩ w
theorem both_step {oA : Oper} (hA : ops[iA]? = some oA) (gA : oA.guard = none) (eA : oA.dst = some dA)
    (rA : ∀ (a : Act) w, (execOp a.eval oA).run P w = .ok (.value (.pointer (some ⟨w.heap.size, 0, none⟩))) (w.alloc (.cells z T)))
    (hBw : B ≤ w.heap.size) {i d : Nat} {o : Oper} (hi : ops[i]? = some o) (hd : d ≠ dA) (hiA : i ≠ iA)
    (t1 : Region.ready md ops lst = [i, iA]) (t2 : Region.ready md ops (lst.setIfInBounds iA true) = [i])
    (hS : ∀ W, Mods [] w W → S W) {J : Value → World → Prop} (hJ : ∀ v W, J v W → S W)
    (hstep : ∀ W t', Mods [] w W → (t' = t ∨ ∃ x, t' = t.setIfInBounds dA x) → ∀ (K : Act → World → Prop) (F : Prop), (∀ v W', J v W' → (∀ g : Nat, W.heap[g]? = some (.cells z T (0, 0)) → W'.heap[g]? = some (.cells z T (0, 0))) → K ⟨t'.setIfInBounds d v, df⟩ W') →
      if Region.wanted o (yielded ops t') = true then Oper.wp P o ⟨t', df⟩ W K Q else F)
    (hnext : ∀ v W', J v W' → Both P md ops Q S T z B iA dA df fuel (lst.setIfInBounds i true) (t.setIfInBounds d v) W') :
    Both P md ops Q S T z B iA dA df (fuel + 1) lst t w := by
  have hA2 : ∀ (W : World) (g : Nat), Mods [] w W → B ≤ g → W.heap[g]? = some (.cells z T (0, 0)) → wpAnyH P md ops Q S (fuel + 1) (lst.setIfInBounds iA true) ⟨t.setIfInBounds dA (.pointer (some ⟨g, 0, none⟩)), df⟩ W := by
    intro W g M hb hg
    refine wpAnyH_ready t2 (by simp) (AllReadyH.cons hi (fun K hK => ?_) AllReadyH.nil)
    refine hstep W _ M (.inr ⟨_, rfl⟩) _ _ (fun v W' hv hk => ?_)
    refine hK.out _ _ (hJ v W' hv) (fun _ => ?_)
    have := (hnext v W' hv).2 g hb (hk g hg)
    rw [Array.setIfInBounds_comm _ _ hiA, Array.setIfInBounds_comm _ _ hd] at this
    exact this
  refine ⟨?_, fun g hb hg => hA2 w g Mods.refl hb hg⟩
  refine wpAnyH_ready t1 (by simp) (AllReadyH.cons hi (fun K hK => ?_) (AllReadyH.cons hA (fun K hK => ?_) AllReadyH.nil))
  · refine hstep w _ Mods.refl (.inl rfl) _ _ (fun v W' hv hk => ?_)
    exact hK.out _ _ (hJ v W' hv) (fun _ => (hnext v W' hv).1)
  · refine exec_alloc gA eA rA ?_
    have M0 := (Mods.refl (S := []) (w := w)).alloc (.cells z T)
    refine hK.out _ _ (hS _ M0) (fun _ => ?_)
    exact hA2 _ _ M0 hBw (heap_alloc_new w _)
/-- A region cut off: what it leaves. -/
def cutQ (R : Act → World → Prop) : Exit → Act → World → Prop
  | .normal, a, w => R a w
  | _, _, _ => False
theorem wp_cutT {c : Code} {a : Act} {w : World} (R : Array Value → Act → World → Prop) (h : c.wp P (cutQ (R a.tmps)) a w) (h2 : ∀ a' w', R a.tmps a' w' → Q .normal a' w') : c.wp P Q a w :=
  Code.wp_mono (fun e a' w' hr => by
    cases e with
    | normal => exact h2 a' w' hr
    | _ => exact hr.elim) h
end
/-- Samples as a kind of element. -/
def tkE : Elt Tk := ⟨103, 99, 2, fun c => [.int .u8 (c.raw : Nat), .bool c.miss], default⟩
theorem tkE_ok : tkE.Ok Try.prog := by
  refine ⟨fun _ => rfl, fun a v hv => ?_, by decide, Try.underlying99, ?_⟩
  · simp [tkE] at hv
    rcases hv with rfl | rfl <;> rfl
  · obtain ⟨i0, hi, hz0, hz1, hz2⟩ := info_parts Try.infoTk
    exact ⟨i0, _, hi, hz0, hz1, by rw [hz2]; decide, rfl⟩
theorem RdE.tk {w : World} {v : Value} {l : List Tk} (h : RdE tkE w v l) : RdTk w v l := by
  obtain ⟨ad, cap, rfl, h1, h2, hc⟩ := h
  refine ⟨ad, cap, rfl, h1, h2, fun i hi => ?_⟩
  obtain ⟨b, off, rfl, hb⟩ := hc i hi
  exact ⟨b, off, rfl, (hb 0 (by decide)).trans rfl, (hb 1 (by decide)).trans rfl⟩
theorem RdTk.e {w : World} {v : Value} {l : List Tk} (h : RdTk w v l) : RdE tkE w v l := by
  obtain ⟨ad, cap, rfl, h1, h2, hc⟩ := h
  refine ⟨ad, cap, rfl, h1, h2, fun i hi => ?_⟩
  obtain ⟨b, off, rfl, c0, c1⟩ := hc i hi
  refine ⟨b, off, rfl, fun j hj => ?_⟩
  match j, hj with
  | 0, _ => exact c0
  | 1, _ => exact c1
end Go.Proofs.Ytgjjmiaiclhidaa
