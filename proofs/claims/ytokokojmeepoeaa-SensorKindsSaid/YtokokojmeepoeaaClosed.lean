/- Facts of the program that every law's closing wants, proved once. -/
import Derived.Test.YtokokojmeepoeaaRows
import Derived.Test.YtokokojmeepoeaaLawBase
import Derived.WalkKit
import Derived.ProofKit
namespace Go.Proofs.Ytokokojmeepoeaa
theorem mayEnters : Try.pinned.checked.prog.mayEnter = true := by kernel_rfl
theorem liftsIs : Try.pinned.checked.prog.liftsFinal = Rows.thresholdSeverityRow.lifted := by kernel_rfl
theorem makeIs : Try.pinned.checked.prog.make = some Rows.thresholdSeverityRow.make := by kernel_rfl
end Go.Proofs.Ytokokojmeepoeaa
