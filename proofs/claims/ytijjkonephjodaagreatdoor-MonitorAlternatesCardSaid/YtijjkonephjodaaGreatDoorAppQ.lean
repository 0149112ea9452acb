/- append of structs whatever the second slice is, and where the new slice lies. -/
import Derived.Test.YtijjkonephjodaaGreatDoorElemAt
namespace Go.Proofs.YtijjkonephjodaaGreatDoor
open Go.RowKit
section
variable {α : Type} {P : Program} {E : Elt α} {ops : Array Oper} {Q : Exit → Act → World → Prop}
theorem step_appQ (hk : E.Ok P) {o : Oper} {a : Act} {w : World} {K : Act → World → Prop} {F : Prop} (hw : Region.wanted o (yielded ops a.tmps) = true) (d : Nat) (hd : o.dst = some d) (s x : Operand)
    (ho : o.op = .call { callee := .builtin .append, args := #[s, x], argTypes := #[E.sl, E.sl] })
    {B : Nat} {v : Value} {A : List α} (hs : a.eval s = v) (hown : OwnE E w B v A) {vx : Value} {X : List α} (hx : a.eval x = vx) (hX : RdE E w vx X)
    (hn : A.length + X.length ≤ 1000000) (hB : B ≤ w.heap.size)
    (h : ∀ v' w', OwnE E w' B v' (A ++ X) → Mods v.ownBlock.toList w w' → (∀ y, v'.ownBlock = some y → v.ownBlock = some y ∨ w.heap.size ≤ y) → K { a with tmps := a.tmps.setIfInBounds d v' } w') :
    if Region.wanted o (yielded ops a.tmps) = true then Oper.wp P o a w K Q else F := by
  rcases Nat.eq_zero_or_pos X.length with h0 | h0
  · have hX0 : X = [] := List.eq_nil_of_length_eq_zero h0
    subst hX0
    rw [if_pos hw]
    obtain ⟨i0, z, hi, hz0, hz1, hz2, hz3⟩ := hk.info
    obtain ⟨ad, cap, rfl, hc1, hc2, hc⟩ := hX
    have hrun : ∀ ty, (Builtin.append_ #[E.sl, E.sl] ty #[v, .slice ad 0 cap]).run P w = .ok v w := by
      intro ty
      rcases hown.2 with ⟨rfl, _⟩ | ⟨g, cp, cur, rfl, _, _, hnc, _⟩
      · cases ad <;> simp [Builtin.append_, run_underlying hk.und, sizeOf, typeInfo, hi, Builtin.lenOf, Builtin.firstCells, loadCells, loadCellsFrom]
      · cases ad <;> simp [Builtin.append_, run_underlying hk.und, sizeOf, typeInfo, hi, Builtin.lenOf, Builtin.firstCells, hnc, storeCells, loadCells, loadCellsFrom]
    unfold Oper.wp
    simp [execOp, ho, resolve, invoke, builtin, hs, hx, hrun, Result.andThen]
    rw [Oper.upon_value]
    unfold Act.put
    rw [hd]
    exact h v w (by rw [List.append_nil]; exact hown) Mods.refl (fun y hy => .inl hy)
  · exact step_appAt hk hw d hd s x ho hs hown hx hX h0 hn hB fun v' w' h1 h2 h3 => h v' w' h1 h2 fun y hy => (h3 y hy).imp id (fun e => Nat.le_of_eq e.symm)
theorem wpList_appQ (hk : E.Ok P) {rest : List Oper} {o : Oper} {a : Act} {w : World} (hw : Region.wanted o (yielded ops a.tmps) = true) (d : Nat) (hd : o.dst = some d) (s x : Operand)
    (ho : o.op = .call { callee := .builtin .append, args := #[s, x], argTypes := #[E.sl, E.sl] })
    {B : Nat} {v : Value} {A : List α} (hs : a.eval s = v) (hown : OwnE E w B v A) {vx : Value} {X : List α} (hx : a.eval x = vx) (hX : RdE E w vx X)
    (hn : A.length + X.length ≤ 1000000) (hB : B ≤ w.heap.size)
    (h : ∀ v' w', OwnE E w' B v' (A ++ X) → Mods v.ownBlock.toList w w' → (∀ y, v'.ownBlock = some y → v.ownBlock = some y ∨ w.heap.size ≤ y) → wpList P ops Q rest { a with tmps := a.tmps.setIfInBounds d v' } w') : wpList P ops Q (o :: rest) a w :=
  wpList_step fun _ hK => step_appQ hk hw d hd s x ho hs hown hx hX hn hB fun v' w' h1 h2 h3 => hK _ _ (h v' w' h1 h2 h3)
end
end Go.Proofs.YtijjkonephjodaaGreatDoor
