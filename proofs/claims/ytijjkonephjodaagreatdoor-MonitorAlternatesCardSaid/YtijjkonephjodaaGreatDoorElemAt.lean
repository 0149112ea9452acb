/- append of structs, and where the new slice lies. -/
import Derived.Test.YtijjkonephjodaaGreatDoorJoAI
import Derived.Deep.AppendLies
namespace Go.Proofs.YtijjkonephjodaaGreatDoor
open Go.RowKit
section
variable {α : Type} {P : Program} {E : Elt α} {ops : Array Oper} {Q : Exit → Act → World → Prop}
theorem step_appAt (hk : E.Ok P) {o : Oper} {a : Act} {w : World} {K : Act → World → Prop} {F : Prop} (hw : Region.wanted o (yielded ops a.tmps) = true) (d : Nat) (hd : o.dst = some d) (s x : Operand)
    (ho : o.op = .call { callee := .builtin .append, args := #[s, x], argTypes := #[E.sl, E.sl] })
    {B : Nat} {v : Value} {A : List α} (hs : a.eval s = v) (hown : OwnE E w B v A) {vx : Value} {X : List α} (hx : a.eval x = vx) (hX : RdE E w vx X) (h0 : 0 < X.length)
    (hn : A.length + X.length ≤ 1000000) (hB : B ≤ w.heap.size)
    (h : ∀ v' w', OwnE E w' B v' (A ++ X) → Mods v.ownBlock.toList w w' → (∀ y, v'.ownBlock = some y → v.ownBlock = some y ∨ y = w.heap.size) → K { a with tmps := a.tmps.setIfInBounds d v' } w') :
    if Region.wanted o (yielded ops a.tmps) = true then Oper.wp P o a w K Q else F := by
  rw [if_pos hw]
  obtain ⟨i0, z, hi, hz0, hz1, hz2, hz3⟩ := hk.info
  have hX' := hX
  obtain ⟨ad, cap, rfl, hc1, hc2, hc⟩ := hX
  obtain ⟨bb, off, rfl, _⟩ := hc 0 h0
  refine wp_append_lies w s x _ ho B E.ty i0 z E.k i0.bytes hk.und hi hz0 hz1 rfl hz3 hk.pos v _ (cellsE E A) hs hown ⟨bb, off, none⟩ X.length cap (cellsE E X) hx (cellsE_length hk.len X) (hX'.news hk) ?_ h0 (by unfold maxLen; omega) ?_ hB _ rfl ?_
  · intro u hu
    unfold cellsE at hu
    obtain ⟨c, _, hc'⟩ := List.mem_flatMap.1 hu
    exact hk.one c u hc'
  · have : (A.length + X.length) * i0.bytes ≤ 1000000 * 1000 := Nat.mul_le_mul hn hz2
    omega
  · intro g cap' w' h1 h2 h3 _
    unfold Act.put
    rw [hd]
    refine h _ w' ?_ (Mods.of_grown h2) ?_
    · unfold OwnE
      rw [cellsE_append, List.length_append]
      exact h1
    · intro y hy
      have : g = y := by simpa [Value.ownBlock] using hy
      subst this
      exact h3
end
end Go.Proofs.YtijjkonephjodaaGreatDoor
