/- A slice of ints of the call's own; append of one int in a region that draws its order. -/
import Derived.Test.YtgjjmiaiclhidaaBaseI
namespace Go.Proofs.Ytgjjmiaiclhidaa
open Go.RowKit

theorem Try.infoI3 : (Try.prog.info? 3).map (fun i => (i.zero, i.size, i.bytes)) = some (some (.int .i64 0), 1, 8) := by kernel_rfl
def OwnI (w : World) (B : Nat) (v : Value) (A : List Int) : Prop := w.ownsRow B 3 1 v A.length (i64s A)
theorem OwnI.nil (w : World) (B : Nat) : OwnI w B (.slice none 0 0) [] := World.ownsRow_nil _ _ _ _
theorem OwnI.rd {w : World} {B : Nat} {v : Value} {A : List Int} (h : OwnI w B v A) : Rd w v (i64s A) := Rd.own (by unfold OwnI at h; exact h)
theorem OwnI.lt {w : World} {B : Nat} {v : Value} {A : List Int} (h : OwnI w B v A) : ∀ k, v.ownBlock = some k → B ≤ k ∧ k < w.heap.size := fun k hk => World.ownsRow.lt h k hk
theorem OwnI.mods {w W : World} {B : Nat} {v : Value} {A : List Int} {S : List Nat} (h : OwnI w B v A) (M : Mods S w W) (hS : ∀ k, v.ownBlock = some k → k ∉ S) : OwnI W B v A := M.owns h hS
theorem OwnI.mods0 {w W : World} {B : Nat} {v : Value} {A : List Int} (h : OwnI w B v A) (M : Mods [] w W) : OwnI W B v A := h.mods M (by simp)
section
variable {ops : Array Oper} {Q : Exit → Act → World → Prop}
theorem step_appI1 {o : Oper} {a : Act} {w : World} {K : Act → World → Prop} {E : Prop} (hgd : o.guard = none) (d : Nat) (hd : o.dst = some d) (s x : Operand)
    (ho : o.op = .call { callee := .builtin .append, args := #[s, x], argTypes := #[34, 34] })
    {B : Nat} {v : Value} {A : List Int} (hs : a.eval s = v) (hown : OwnI w B v A) {g : Nat} {y : Int} {T : TypeId} {fr : Nat × Nat} (hg : w.heap[g]? = some (.cells #[.int .i64 y] T fr)) (hx : a.eval x = .slice (some ⟨g, 0, none⟩) 1 1)
    (hn : A.length ≤ 1000000) (hB : B ≤ w.heap.size)
    (h : ∀ g' cap w', OwnI w' B (.slice (some ⟨g', 0, none⟩) (A.length + 1) cap) (A ++ [y]) → Mods v.ownBlock.toList w w' → K { a with tmps := a.tmps.setIfInBounds d (.slice (some ⟨g', 0, none⟩) (A.length + 1) cap) } w') :
    if Region.wanted o (yielded ops a.tmps) = true then Oper.wp Try.prog o a w K Q else E := by
  obtain ⟨i0, hi, hz0, hz1, hz2⟩ := info_parts Try.infoI3
  refine step_append_lies w hgd s x _ ho B 3 i0 _ 1 8 Try.underlying34 hi hz0 hz1 hz2 rfl (by decide) v A.length (i64s A) hs hown ⟨g, 0, none⟩ 1 1 [.int .i64 y] hx rfl ?_ (by intro u hu; simp at hu; subst hu; rfl) (by decide) (by unfold maxLen; omega) (by omega) hB w.heap.size rfl ?_
  · intro j u hj
    exact World.news_of_block (cs := #[.int .i64 y]) (t := T) (fr := fr) hg j u hj
  · intro g' cap w' h1 h2 _ _
    have h := h g' cap w' ?_ (Mods.of_grown h2)
    · unfold Act.put; rw [hd]; exact h
    · unfold OwnI
      rw [List.length_append]
      exact own_i64 h1
end
end Go.Proofs.Ytgjjmiaiclhidaa
