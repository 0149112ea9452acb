/- A sensor of the dice that lies in its variable's block (the part of sen's Ready that needs no threshold). -/
import Derived.Test.YtijjkonephjodaaMadeSen
namespace Go.Proofs.Ytijjkonephjodaa
open Go.RowKit

/-- The sensor lies in block g; neither it nor its points lie in the dice's block b. -/
structure Sn (w : World) (b g : Nat) (S : Sen) (P : List Pt) : Prop where
  box : SenBox w g S
  sen : IsSen w S P
  gb : g ≠ b
  far : ∀ q, S.conv.pts.ownBlock = some q → q ≠ b ∧ q ≠ g
theorem Sn.mods0 {w w' : World} {b g : Nat} {S : Sen} {P : List Pt} (h : Sn w b g S P) (M : Mods [] w w') : Sn w' b g S P := ⟨h.box.mods0 M, h.sen.mods0 M, h.gb, h.far⟩
theorem Sn.dice {w w' : World} {b g : Nat} {S : Sen} {P : List Pt} (h : Sn w b g S P) (M : Mods [b] w w') : Sn w' b g S P := ⟨h.box.mods M (by simpa using h.gb), h.sen.mods M (fun _ q hq => by simpa using (h.far q hq).1), h.gb, h.far⟩
theorem fresh {w w' : World} {o : Obj} (M : Mods [w.heap.size] (w.alloc o) w') : Mods [] w w' := (Mods.refl.alloc o).comp M fun k hk => by simp at hk; subst hk; exact .inr (Nat.le_refl _)
/-- A sensor made, stored into a new block. -/
theorem Sn.made {w1 w2 w4 : World} {b n : Nat} {v : Value} {L : List Int} {S : Sen} {P : List Pt} {o : Obj} (hb : b < w1.heap.size) (IS : IsSen w2 S P) (OP : OwnPts w2 w1.heap.size S.conv.pts P) (D2 : IsDice w2 b v L n)
    (R4 : w4.heap[w2.heap.size]? = some (.cells S.cells 32 (0, 0))) (M4 : Mods [w2.heap.size] (w2.alloc o) w4) : Sn w4 b w2.heap.size S P ∧ IsDice w4 b v L n ∧ Mods [] w2 w4 := by
  have M := fresh M4
  have := D2.lt
  exact ⟨⟨⟨R4⟩, IS.mods0 M, by omega, fun q hq => by have := OP.own q hq; constructor <;> omega⟩, D2.mods0 M, M⟩
end Go.Proofs.Ytijjkonephjodaa
