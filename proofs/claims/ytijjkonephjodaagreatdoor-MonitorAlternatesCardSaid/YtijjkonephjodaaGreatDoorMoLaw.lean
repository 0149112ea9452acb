/- A monitor within a law: what every scan leaves. -/
import Derived.Test.YtijjkonephjodaaGreatDoorMoAw
import Derived.Test.YtijjkonephjodaaGreatDoorMoSam
namespace Go.Proofs.YtijjkonephjodaaGreatDoor
open Go.RowKit
set_option linter.unusedVariables false
set_option linter.unusedSimpArgs false
section
variable {w w' : World} {mb fb sb : Nat} {vs va : Value} {l : List SenX} {A : List Asc} {F : List FltX} {st : List Nat} {ab : List Ent} {host : Bool} {X : List Smp}
/-- Whatever a scan answers, the monitor stays one. -/
theorem ScanPost.any {e : Ending} (hp : ScanPost w mb fb sb vs va l A F st ab host X e w') (h : MonAt w mb fb sb vs va l A F st) :
    ∃ vo c F' st', e = .returned (.tuple #[vo, .int .i64 c]) ∧ MonAt w' mb fb sb vs va l A F' st' ∧ Mods [fb, sb] w w' ∧ ∀ j q, (F'.getD j default).win.ownBlock = some q → w.heap.size ≤ q ∨ (F.getD j default).win.ownBlock = some q := by
  unfold ScanPost at hp
  split at hp
  · obtain ⟨vo, F', st', he, hS⟩ := hp
    exact ⟨vo, 0, F', st', he, hS.mon, hS.M, hS.win⟩
  · exact ⟨_, _, F, st, hp.1, h.mods0 hp.2, hp.2.nil, fun j q hq => .inr hq⟩
theorem zFlt_win (n j q : Nat) (h : ((List.replicate n zFlt).getD j default).win.ownBlock = some q) : False := by
  rw [List.getD_eq_getElem?_getD, List.getElem?_replicate] at h
  split at h <;> cases h
end
end Go.Proofs.YtijjkonephjodaaGreatDoor
