/- Facts of the program that every law's closing wants, proved once. -/
import Derived.Test.YtijjkonephjodaaRows
import Derived.Test.YtijjkonephjodaaLawBase
import Derived.WalkKit
import Derived.ProofKit
namespace Go.Proofs.Ytijjkonephjodaa
theorem mayEnters : Try.pinned.checked.prog.mayEnter = true := by kernel_rfl
theorem liftsIs : Try.pinned.checked.prog.liftsFinal = Rows.sensorBytesRow.lifted := by kernel_rfl
theorem makeIs : Try.pinned.checked.prog.make = some Rows.sensorBytesRow.make := by kernel_rfl
end Go.Proofs.Ytijjkonephjodaa
