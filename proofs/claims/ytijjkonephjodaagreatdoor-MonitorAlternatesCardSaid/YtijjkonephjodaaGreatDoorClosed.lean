/- Facts of the program that every law's closing wants, proved once. -/
import Derived.Test.YtijjkonephjodaaGreatDoorRows
import Derived.Test.YtijjkonephjodaaGreatDoorJoAG
import Derived.WalkKit
import Derived.ProofKit
namespace Go.Proofs.YtijjkonephjodaaGreatDoor
theorem mayEnters : Tryz.pinned.checked.prog.mayEnter = true := by kernel_rfl
theorem liftsIs : Tryz.pinned.checked.prog.liftsFinal = Rows.monitorWorstRow.lifted := by kernel_rfl
theorem makeIs : Tryz.pinned.checked.prog.make = some Rows.monitorWorstRow.make := by kernel_rfl
end Go.Proofs.YtijjkonephjodaaGreatDoor
