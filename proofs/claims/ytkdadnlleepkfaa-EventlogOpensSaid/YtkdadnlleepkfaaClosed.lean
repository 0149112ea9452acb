/- Facts of the program that every law's closing wants, proved once. -/
import Derived.Test.YtkdadnlleepkfaaRows
import Derived.Test.YtkdadnlleepkfaaLawBase
import Derived.WalkKit
import Derived.ProofKit
namespace Go.Proofs.Ytkdadnlleepkfaa
theorem mayEnters : Try.pinned.checked.prog.mayEnter = true := by kernel_rfl
theorem liftsIs : Try.pinned.checked.prog.liftsFinal = Rows.eventlogRefusesRow.lifted := by kernel_rfl
theorem makeIs : Try.pinned.checked.prog.make = some Rows.eventlogRefusesRow.make := by kernel_rfl
end Go.Proofs.Ytkdadnlleepkfaa
