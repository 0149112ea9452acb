/-
  No cell of these rows narrows 'for every input' (looked for: loops, veiled, ifaces, maps, wideKeys, modest, calm, conditions, laid).
  DERIVED. THE GIVEN ROWS OF THIS SEAT. 17 by the template 'for every input the law returns true; each argument reads behind the call as it read before'; 0 by the template 'total and deterministic' (their statements: YtgjjmiaiclhidaaTotals.lean).
  GIVEN WITH THE SEED: the statements are not yours to turn. If you find one false, say at which input.
  Laid BY PROGRAM, IN A SANDBOX (cutbox-rows.mjs): the forced cells as the released guide's own fill.sh prints them over the translation f986860acea8cb4d… (all of the seat's roots in one cut). By AI agents, Wed Nov 11 2026. No macro, syntax, notation, axiom, sorry.
-/
import Derived.Test.YtgjjmiaiclhidaaChecked
import GoSem.Claim
import GoSem.ClaimJoined
import GoSem.ClaimMapViews
import Derived.JoinedTies
import Derived.KernelRfl
namespace Go.Proofs.Ytgjjmiaiclhidaa
/- THE CELL 'sum', in the pinned program and in every row, IS THE sha256 OF THE DUMP (.gsa) THAT YtgjjmiaiclhidaaProg.lean LOADS. Nothing in Lean hashes anything: it is a label: what it is worth is what the hold of that sum in a sandbox is worth. -/
noncomputable def Try.pinned : Pinned := { name := "ytgjjmiaiclhidaa", sum := "f986860acea8cb4dddf1d96db627bbb64dd4c7fb3e535373b42271e7c1ec6eec", checked := Try.checked }
namespace Rows
def none {H : Type} : Left H := { results := [], args := [] }

/-- 'baseboardlaw10.SensorBytes': WHATEVER THE INPUT: true; the input reads as it did. -/
def sensorBytesSpec : ChangeSpec := { name := "sensorBytes", fn := fun _ => fun
  | [d1, d2, d3] => { results := [.lit (.bool true)], args := [d1, d2, d3] }
  | _ => none }
def sensorBytesRow : OpenClaim := { program := "ytgjjmiaiclhidaa", sum := "f986860acea8cb4dddf1d96db627bbb64dd4c7fb3e535373b42271e7c1ec6eec", func := "baseboard/baseboardlaw10.SensorBytes", spec := "sensorBytes", unfollowed := true, recurses := true, apart := false }
def SensorBytesSaid : Prop := sensorBytesRow.holds Try.pinned (OpenSpec.ofChange sensorBytesSpec)

/-- ITS FALSE NEIGHBOUR: 'it returns false'. Refute it at one input. -/
def sensorBytesWrong : ChangeSpec := { name := "sensorBytes", fn := fun _ => fun
  | [d1, d2, d3] => { results := [.lit (.bool false)], args := [d1, d2, d3] }
  | _ => none }
def SensorBytesWrongFalsely : Prop := sensorBytesRow.holds Try.pinned (OpenSpec.ofChange sensorBytesWrong)

/-- 'baseboardlaw10.SensorReturns': WHATEVER THE INPUT: true; the input reads as it did. -/
def sensorReturnsSpec : ChangeSpec := { name := "sensorReturns", fn := fun _ => fun
  | [d1, d2, d3, d4] => { results := [.lit (.bool true)], args := [d1, d2, d3, d4] }
  | _ => none }
def sensorReturnsRow : OpenClaim := { program := "ytgjjmiaiclhidaa", sum := "f986860acea8cb4dddf1d96db627bbb64dd4c7fb3e535373b42271e7c1ec6eec", func := "baseboard/baseboardlaw10.SensorReturns", spec := "sensorReturns", unfollowed := true, recurses := true, apart := false }
def SensorReturnsSaid : Prop := sensorReturnsRow.holds Try.pinned (OpenSpec.ofChange sensorReturnsSpec)

/-- ITS FALSE NEIGHBOUR: 'it returns false'. Refute it at one input. -/
def sensorReturnsWrong : ChangeSpec := { name := "sensorReturns", fn := fun _ => fun
  | [d1, d2, d3, d4] => { results := [.lit (.bool false)], args := [d1, d2, d3, d4] }
  | _ => none }
def SensorReturnsWrongFalsely : Prop := sensorReturnsRow.holds Try.pinned (OpenSpec.ofChange sensorReturnsWrong)

/-- 'baseboardlaw10.SensorDecoded': WHATEVER THE INPUT: true; the input reads as it did. -/
def sensorDecodedSpec : ChangeSpec := { name := "sensorDecoded", fn := fun _ => fun
  | [d1, d2] => { results := [.lit (.bool true)], args := [d1, d2] }
  | _ => none }
def sensorDecodedRow : OpenClaim := { program := "ytgjjmiaiclhidaa", sum := "f986860acea8cb4dddf1d96db627bbb64dd4c7fb3e535373b42271e7c1ec6eec", func := "baseboard/baseboardlaw10.SensorDecoded", spec := "sensorDecoded", unfollowed := true, recurses := true, apart := false }
def SensorDecodedSaid : Prop := sensorDecodedRow.holds Try.pinned (OpenSpec.ofChange sensorDecodedSpec)

/-- ITS FALSE NEIGHBOUR: 'it returns false'. Refute it at one input. -/
def sensorDecodedWrong : ChangeSpec := { name := "sensorDecoded", fn := fun _ => fun
  | [d1, d2] => { results := [.lit (.bool false)], args := [d1, d2] }
  | _ => none }
def SensorDecodedWrongFalsely : Prop := sensorDecodedRow.holds Try.pinned (OpenSpec.ofChange sensorDecodedWrong)

/-- 'baseboardlaw04.ConvertValues': WHATEVER THE INPUT: true; the input reads as it did. -/
def convertValuesSpec : ChangeSpec := { name := "convertValues", fn := fun _ => fun
  | [d1, d2, d3] => { results := [.lit (.bool true)], args := [d1, d2, d3] }
  | _ => none }
def convertValuesRow : OpenClaim := { program := "ytgjjmiaiclhidaa", sum := "f986860acea8cb4dddf1d96db627bbb64dd4c7fb3e535373b42271e7c1ec6eec", func := "baseboard/baseboardlaw04.ConvertValues", spec := "convertValues", inPlace := ["math.sqrt"], unfollowed := true, recurses := true, named := ["math/bits.divideError", "math/bits.overflowError"], apart := false }
def ConvertValuesSaid : Prop := convertValuesRow.holds Try.pinned (OpenSpec.ofChange convertValuesSpec)

/-- ITS FALSE NEIGHBOUR: 'it returns false'. Refute it at one input. -/
def convertValuesWrong : ChangeSpec := { name := "convertValues", fn := fun _ => fun
  | [d1, d2, d3] => { results := [.lit (.bool false)], args := [d1, d2, d3] }
  | _ => none }
def ConvertValuesWrongFalsely : Prop := convertValuesRow.holds Try.pinned (OpenSpec.ofChange convertValuesWrong)

/-- 'baseboardlaw04.ConvertSteps': WHATEVER THE INPUT: true; the input reads as it did. -/
def convertStepsSpec : ChangeSpec := { name := "convertSteps", fn := fun _ => fun
  | [d1, d2] => { results := [.lit (.bool true)], args := [d1, d2] }
  | _ => none }
def convertStepsRow : OpenClaim := { program := "ytgjjmiaiclhidaa", sum := "f986860acea8cb4dddf1d96db627bbb64dd4c7fb3e535373b42271e7c1ec6eec", func := "baseboard/baseboardlaw04.ConvertSteps", spec := "convertSteps", inPlace := ["math.sqrt"], unfollowed := true, recurses := true, named := ["math/bits.divideError", "math/bits.overflowError"], apart := false }
def ConvertStepsSaid : Prop := convertStepsRow.holds Try.pinned (OpenSpec.ofChange convertStepsSpec)

/-- ITS FALSE NEIGHBOUR: 'it returns false'. Refute it at one input. -/
def convertStepsWrong : ChangeSpec := { name := "convertSteps", fn := fun _ => fun
  | [d1, d2] => { results := [.lit (.bool false)], args := [d1, d2] }
  | _ => none }
def ConvertStepsWrongFalsely : Prop := convertStepsRow.holds Try.pinned (OpenSpec.ofChange convertStepsWrong)

/-- 'baseboardlaw04.ConvertBetween': WHATEVER THE INPUT: true; the input reads as it did. -/
def convertBetweenSpec : ChangeSpec := { name := "convertBetween", fn := fun _ => fun
  | [d1, d2, d3] => { results := [.lit (.bool true)], args := [d1, d2, d3] }
  | _ => none }
def convertBetweenRow : OpenClaim := { program := "ytgjjmiaiclhidaa", sum := "f986860acea8cb4dddf1d96db627bbb64dd4c7fb3e535373b42271e7c1ec6eec", func := "baseboard/baseboardlaw04.ConvertBetween", spec := "convertBetween", inPlace := ["math.sqrt"], unfollowed := true, recurses := true, named := ["math/bits.divideError", "math/bits.overflowError"], apart := false }
def ConvertBetweenSaid : Prop := convertBetweenRow.holds Try.pinned (OpenSpec.ofChange convertBetweenSpec)

/-- ITS FALSE NEIGHBOUR: 'it returns false'. Refute it at one input. -/
def convertBetweenWrong : ChangeSpec := { name := "convertBetween", fn := fun _ => fun
  | [d1, d2, d3] => { results := [.lit (.bool false)], args := [d1, d2, d3] }
  | _ => none }
def ConvertBetweenWrongFalsely : Prop := convertBetweenRow.holds Try.pinned (OpenSpec.ofChange convertBetweenWrong)

/-- 'baseboardlaw04.ConvertForms': WHATEVER THE INPUT: true; the input reads as it did. -/
def convertFormsSpec : ChangeSpec := { name := "convertForms", fn := fun _ => fun
  | [d1, d2] => { results := [.lit (.bool true)], args := [d1, d2] }
  | _ => none }
def convertFormsRow : OpenClaim := { program := "ytgjjmiaiclhidaa", sum := "f986860acea8cb4dddf1d96db627bbb64dd4c7fb3e535373b42271e7c1ec6eec", func := "baseboard/baseboardlaw04.ConvertForms", spec := "convertForms", inPlace := ["math.sqrt"], unfollowed := true, recurses := true, named := ["math/bits.divideError", "math/bits.overflowError"], apart := false }
def ConvertFormsSaid : Prop := convertFormsRow.holds Try.pinned (OpenSpec.ofChange convertFormsSpec)

/-- ITS FALSE NEIGHBOUR: 'it returns false'. Refute it at one input. -/
def convertFormsWrong : ChangeSpec := { name := "convertForms", fn := fun _ => fun
  | [d1, d2] => { results := [.lit (.bool false)], args := [d1, d2] }
  | _ => none }
def ConvertFormsWrongFalsely : Prop := convertFormsRow.holds Try.pinned (OpenSpec.ofChange convertFormsWrong)

/-- 'baseboardlaw04.ConvertNearest': WHATEVER THE INPUT: true; the input reads as it did. -/
def convertNearestSpec : ChangeSpec := { name := "convertNearest", fn := fun _ => fun
  | [d1, d2] => { results := [.lit (.bool true)], args := [d1, d2] }
  | _ => none }
def convertNearestRow : OpenClaim := { program := "ytgjjmiaiclhidaa", sum := "f986860acea8cb4dddf1d96db627bbb64dd4c7fb3e535373b42271e7c1ec6eec", func := "baseboard/baseboardlaw04.ConvertNearest", spec := "convertNearest", inPlace := ["math.sqrt"], unfollowed := true, recurses := true, named := ["math/bits.divideError", "math/bits.overflowError"], apart := false }
def ConvertNearestSaid : Prop := convertNearestRow.holds Try.pinned (OpenSpec.ofChange convertNearestSpec)

/-- ITS FALSE NEIGHBOUR: 'it returns false'. Refute it at one input. -/
def convertNearestWrong : ChangeSpec := { name := "convertNearest", fn := fun _ => fun
  | [d1, d2] => { results := [.lit (.bool false)], args := [d1, d2] }
  | _ => none }
def ConvertNearestWrongFalsely : Prop := convertNearestRow.holds Try.pinned (OpenSpec.ofChange convertNearestWrong)

/-- 'baseboardlaw04.ConvertDirections': WHATEVER THE INPUT: true; the input reads as it did. -/
def convertDirectionsSpec : ChangeSpec := { name := "convertDirections", fn := fun _ => fun
  | [d] => { results := [.lit (.bool true)], args := [d] }
  | _ => none }
def convertDirectionsRow : OpenClaim := { program := "ytgjjmiaiclhidaa", sum := "f986860acea8cb4dddf1d96db627bbb64dd4c7fb3e535373b42271e7c1ec6eec", func := "baseboard/baseboardlaw04.ConvertDirections", spec := "convertDirections", inPlace := ["math.sqrt"], unfollowed := true, recurses := true, named := ["math/bits.divideError", "math/bits.overflowError"], apart := false }
def ConvertDirectionsSaid : Prop := convertDirectionsRow.holds Try.pinned (OpenSpec.ofChange convertDirectionsSpec)

/-- ITS FALSE NEIGHBOUR: 'it returns false'. Refute it at one input. -/
def convertDirectionsWrong : ChangeSpec := { name := "convertDirections", fn := fun _ => fun
  | [d] => { results := [.lit (.bool false)], args := [d] }
  | _ => none }
def ConvertDirectionsWrongFalsely : Prop := convertDirectionsRow.holds Try.pinned (OpenSpec.ofChange convertDirectionsWrong)

/-- 'baseboardlaw04.ConvertNear': WHATEVER THE INPUT: true; the input reads as it did. -/
def convertNearSpec : ChangeSpec := { name := "convertNear", fn := fun _ => fun
  | [d1, d2, d3] => { results := [.lit (.bool true)], args := [d1, d2, d3] }
  | _ => none }
def convertNearRow : OpenClaim := { program := "ytgjjmiaiclhidaa", sum := "f986860acea8cb4dddf1d96db627bbb64dd4c7fb3e535373b42271e7c1ec6eec", func := "baseboard/baseboardlaw04.ConvertNear", spec := "convertNear", inPlace := ["math.sqrt"], unfollowed := true, recurses := true, named := ["math/bits.divideError", "math/bits.overflowError"], apart := false }
def ConvertNearSaid : Prop := convertNearRow.holds Try.pinned (OpenSpec.ofChange convertNearSpec)

/-- ITS FALSE NEIGHBOUR: 'it returns false'. Refute it at one input. -/
def convertNearWrong : ChangeSpec := { name := "convertNear", fn := fun _ => fun
  | [d1, d2, d3] => { results := [.lit (.bool false)], args := [d1, d2, d3] }
  | _ => none }
def ConvertNearWrongFalsely : Prop := convertNearRow.holds Try.pinned (OpenSpec.ofChange convertNearWrong)

/-- 'baseboardlaw04.ConvertMonotone': WHATEVER THE INPUT: true; the input reads as it did. -/
def convertMonotoneSpec : ChangeSpec := { name := "convertMonotone", fn := fun _ => fun
  | [d1, d2, d3] => { results := [.lit (.bool true)], args := [d1, d2, d3] }
  | _ => none }
def convertMonotoneRow : OpenClaim := { program := "ytgjjmiaiclhidaa", sum := "f986860acea8cb4dddf1d96db627bbb64dd4c7fb3e535373b42271e7c1ec6eec", func := "baseboard/baseboardlaw04.ConvertMonotone", spec := "convertMonotone", inPlace := ["math.sqrt"], unfollowed := true, recurses := true, named := ["math/bits.divideError", "math/bits.overflowError"], apart := false }
def ConvertMonotoneSaid : Prop := convertMonotoneRow.holds Try.pinned (OpenSpec.ofChange convertMonotoneSpec)

/-- ITS FALSE NEIGHBOUR: 'it returns false'. Refute it at one input. -/
def convertMonotoneWrong : ChangeSpec := { name := "convertMonotone", fn := fun _ => fun
  | [d1, d2, d3] => { results := [.lit (.bool false)], args := [d1, d2, d3] }
  | _ => none }
def ConvertMonotoneWrongFalsely : Prop := convertMonotoneRow.holds Try.pinned (OpenSpec.ofChange convertMonotoneWrong)

/-- 'baseboardlaw04.ConvertBytes': WHATEVER THE INPUT: true; the input reads as it did. -/
def convertBytesSpec : ChangeSpec := { name := "convertBytes", fn := fun _ => fun
  | [d1, d2, d3, d4] => { results := [.lit (.bool true)], args := [d1, d2, d3, d4] }
  | _ => none }
def convertBytesRow : OpenClaim := { program := "ytgjjmiaiclhidaa", sum := "f986860acea8cb4dddf1d96db627bbb64dd4c7fb3e535373b42271e7c1ec6eec", func := "baseboard/baseboardlaw04.ConvertBytes", spec := "convertBytes", inPlace := ["math.sqrt"], unfollowed := true, recurses := true, named := ["math/bits.divideError", "math/bits.overflowError"], apart := false }
def ConvertBytesSaid : Prop := convertBytesRow.holds Try.pinned (OpenSpec.ofChange convertBytesSpec)

/-- ITS FALSE NEIGHBOUR: 'it returns false'. Refute it at one input. -/
def convertBytesWrong : ChangeSpec := { name := "convertBytes", fn := fun _ => fun
  | [d1, d2, d3, d4] => { results := [.lit (.bool false)], args := [d1, d2, d3, d4] }
  | _ => none }
def ConvertBytesWrongFalsely : Prop := convertBytesRow.holds Try.pinned (OpenSpec.ofChange convertBytesWrong)

/-- 'baseboardlaw04.ConvertReturns': WHATEVER THE INPUT: true; the input reads as it did. -/
def convertReturnsSpec : ChangeSpec := { name := "convertReturns", fn := fun _ => fun
  | [d1, d2, d3] => { results := [.lit (.bool true)], args := [d1, d2, d3] }
  | _ => none }
def convertReturnsRow : OpenClaim := { program := "ytgjjmiaiclhidaa", sum := "f986860acea8cb4dddf1d96db627bbb64dd4c7fb3e535373b42271e7c1ec6eec", func := "baseboard/baseboardlaw04.ConvertReturns", spec := "convertReturns", inPlace := ["math.sqrt"], unfollowed := true, recurses := true, named := ["math/bits.divideError", "math/bits.overflowError"], apart := false }
def ConvertReturnsSaid : Prop := convertReturnsRow.holds Try.pinned (OpenSpec.ofChange convertReturnsSpec)

/-- ITS FALSE NEIGHBOUR: 'it returns false'. Refute it at one input. -/
def convertReturnsWrong : ChangeSpec := { name := "convertReturns", fn := fun _ => fun
  | [d1, d2, d3] => { results := [.lit (.bool false)], args := [d1, d2, d3] }
  | _ => none }
def ConvertReturnsWrongFalsely : Prop := convertReturnsRow.holds Try.pinned (OpenSpec.ofChange convertReturnsWrong)

/-- 'baseboardlaw14.SamplingSteps': WHATEVER THE INPUT: true; the input reads as it did. -/
def samplingStepsSpec : ChangeSpec := { name := "samplingSteps", fn := fun _ => fun
  | [d1, d2, d3, d4, d5] => { results := [.lit (.bool true)], args := [d1, d2, d3, d4, d5] }
  | _ => none }
def samplingStepsRow : OpenClaim := { program := "ytgjjmiaiclhidaa", sum := "f986860acea8cb4dddf1d96db627bbb64dd4c7fb3e535373b42271e7c1ec6eec", func := "baseboard/baseboardlaw14.SamplingSteps", spec := "samplingSteps", unfollowed := true, recurses := true, apart := false }
def SamplingStepsSaid : Prop := samplingStepsRow.holds Try.pinned (OpenSpec.ofChange samplingStepsSpec)

/-- ITS FALSE NEIGHBOUR: 'it returns false'. Refute it at one input. -/
def samplingStepsWrong : ChangeSpec := { name := "samplingSteps", fn := fun _ => fun
  | [d1, d2, d3, d4, d5] => { results := [.lit (.bool false)], args := [d1, d2, d3, d4, d5] }
  | _ => none }
def SamplingStepsWrongFalsely : Prop := samplingStepsRow.holds Try.pinned (OpenSpec.ofChange samplingStepsWrong)

/-- 'baseboardlaw14.SamplingMedian': WHATEVER THE INPUT: true; the input reads as it did. -/
def samplingMedianSpec : ChangeSpec := { name := "samplingMedian", fn := fun _ => fun
  | [d1, d2] => { results := [.lit (.bool true)], args := [d1, d2] }
  | _ => none }
def samplingMedianRow : OpenClaim := { program := "ytgjjmiaiclhidaa", sum := "f986860acea8cb4dddf1d96db627bbb64dd4c7fb3e535373b42271e7c1ec6eec", func := "baseboard/baseboardlaw14.SamplingMedian", spec := "samplingMedian", unfollowed := true, recurses := true, apart := false }
def SamplingMedianSaid : Prop := samplingMedianRow.holds Try.pinned (OpenSpec.ofChange samplingMedianSpec)

/-- ITS FALSE NEIGHBOUR: 'it returns false'. Refute it at one input. -/
def samplingMedianWrong : ChangeSpec := { name := "samplingMedian", fn := fun _ => fun
  | [d1, d2] => { results := [.lit (.bool false)], args := [d1, d2] }
  | _ => none }
def SamplingMedianWrongFalsely : Prop := samplingMedianRow.holds Try.pinned (OpenSpec.ofChange samplingMedianWrong)

/-- 'baseboardlaw14.SamplingOutliers': WHATEVER THE INPUT: true; the input reads as it did. -/
def samplingOutliersSpec : ChangeSpec := { name := "samplingOutliers", fn := fun _ => fun
  | [d1, d2, d3] => { results := [.lit (.bool true)], args := [d1, d2, d3] }
  | _ => none }
def samplingOutliersRow : OpenClaim := { program := "ytgjjmiaiclhidaa", sum := "f986860acea8cb4dddf1d96db627bbb64dd4c7fb3e535373b42271e7c1ec6eec", func := "baseboard/baseboardlaw14.SamplingOutliers", spec := "samplingOutliers", unfollowed := true, recurses := true, apart := false }
def SamplingOutliersSaid : Prop := samplingOutliersRow.holds Try.pinned (OpenSpec.ofChange samplingOutliersSpec)

/-- ITS FALSE NEIGHBOUR: 'it returns false'. Refute it at one input. -/
def samplingOutliersWrong : ChangeSpec := { name := "samplingOutliers", fn := fun _ => fun
  | [d1, d2, d3] => { results := [.lit (.bool false)], args := [d1, d2, d3] }
  | _ => none }
def SamplingOutliersWrongFalsely : Prop := samplingOutliersRow.holds Try.pinned (OpenSpec.ofChange samplingOutliersWrong)

/-- 'baseboardlaw14.SamplingForgets': WHATEVER THE INPUT: true; the input reads as it did. -/
def samplingForgetsSpec : ChangeSpec := { name := "samplingForgets", fn := fun _ => fun
  | [d1, d2, d3, d4] => { results := [.lit (.bool true)], args := [d1, d2, d3, d4] }
  | _ => none }
def samplingForgetsRow : OpenClaim := { program := "ytgjjmiaiclhidaa", sum := "f986860acea8cb4dddf1d96db627bbb64dd4c7fb3e535373b42271e7c1ec6eec", func := "baseboard/baseboardlaw14.SamplingForgets", spec := "samplingForgets", unfollowed := true, recurses := true, apart := false }
def SamplingForgetsSaid : Prop := samplingForgetsRow.holds Try.pinned (OpenSpec.ofChange samplingForgetsSpec)

/-- ITS FALSE NEIGHBOUR: 'it returns false'. Refute it at one input. -/
def samplingForgetsWrong : ChangeSpec := { name := "samplingForgets", fn := fun _ => fun
  | [d1, d2, d3, d4] => { results := [.lit (.bool false)], args := [d1, d2, d3, d4] }
  | _ => none }
def SamplingForgetsWrongFalsely : Prop := samplingForgetsRow.holds Try.pinned (OpenSpec.ofChange samplingForgetsWrong)

/- THE SECOND FORM. 'bulk': how many values and letters a reading holds, each counted each time it is reached (what is shared counts as often as it is met; a slice's spare places count too). A statement '..UptoSaid' is the law's where the arguments, and the package variables that the reading takes, are together of bulk at most 1048576: NARROWER than '..Said'. Prove '..Said' where nothing that the law and all that it calls make is longer than what came in: it says more and counts as full. Else prove '..UptoSaid'. A law counts once. -/
mutual
def uptoBulk {H : Type} : DataW H → Nat
  | .lit (.string bytes) => bytes.length + 1
  | .lit _ => 1
  | .nil => 1
  | .ptr d => uptoBulk d + 1
  | .slice elems spare => uptoBulkAll elems + uptoBulkAll spare + 1
  | .agg parts => uptoBulkAll parts + 1
  | .iface _ d => uptoBulk d + 1
  | .map entries => uptoBulkEntries entries + 1
  | .held _ => 1
def uptoBulkAll {H : Type} : List (DataW H) → Nat
  | [] => 0
  | d :: r => uptoBulk d + uptoBulkAll r
def uptoBulkEntries {H : Type} : List (Lit × DataW H) → Nat
  | [] => 0
  | x :: r => uptoBulkEntry x + uptoBulkEntries r
def uptoBulkEntry {H : Type} : Lit × DataW H → Nat
  | (.string bytes, d) => bytes.length + uptoBulk d + 1
  | (_, d) => uptoBulk d + 1
 end
def uptoSmall : (H : Type) → List (DataW H) → Bool := fun _ ds => decide (uptoBulkAll ds ≤ 1048576)
def OpenSpec.upto (s : _root_.Go.ChangeSpec) : _root_.Go.OpenSpec := { _root_.Go.OpenSpec.ofChange s with cond := some uptoSmall }

/-- 'baseboardlaw10.SensorBytes', WHERE WHAT IT READS IS OF BULK AT MOST 1048576: true; the input reads as it did. -/
def sensorBytesUptoRow : OpenClaim := { program := "ytgjjmiaiclhidaa", sum := "f986860acea8cb4dddf1d96db627bbb64dd4c7fb3e535373b42271e7c1ec6eec", func := "baseboard/baseboardlaw10.SensorBytes", spec := "sensorBytes", unfollowed := true, recurses := true, apart := false, narrowed := true }
def SensorBytesUptoSaid : Prop := sensorBytesUptoRow.holds Try.pinned (OpenSpec.upto sensorBytesSpec)

/-- 'baseboardlaw10.SensorReturns', WHERE WHAT IT READS IS OF BULK AT MOST 1048576: true; the input reads as it did. -/
def sensorReturnsUptoRow : OpenClaim := { program := "ytgjjmiaiclhidaa", sum := "f986860acea8cb4dddf1d96db627bbb64dd4c7fb3e535373b42271e7c1ec6eec", func := "baseboard/baseboardlaw10.SensorReturns", spec := "sensorReturns", unfollowed := true, recurses := true, apart := false, narrowed := true }
def SensorReturnsUptoSaid : Prop := sensorReturnsUptoRow.holds Try.pinned (OpenSpec.upto sensorReturnsSpec)

/-- 'baseboardlaw10.SensorDecoded', WHERE WHAT IT READS IS OF BULK AT MOST 1048576: true; the input reads as it did. -/
def sensorDecodedUptoRow : OpenClaim := { program := "ytgjjmiaiclhidaa", sum := "f986860acea8cb4dddf1d96db627bbb64dd4c7fb3e535373b42271e7c1ec6eec", func := "baseboard/baseboardlaw10.SensorDecoded", spec := "sensorDecoded", unfollowed := true, recurses := true, apart := false, narrowed := true }
def SensorDecodedUptoSaid : Prop := sensorDecodedUptoRow.holds Try.pinned (OpenSpec.upto sensorDecodedSpec)

/-- 'baseboardlaw04.ConvertValues', WHERE WHAT IT READS IS OF BULK AT MOST 1048576: true; the input reads as it did. -/
def convertValuesUptoRow : OpenClaim := { program := "ytgjjmiaiclhidaa", sum := "f986860acea8cb4dddf1d96db627bbb64dd4c7fb3e535373b42271e7c1ec6eec", func := "baseboard/baseboardlaw04.ConvertValues", spec := "convertValues", inPlace := ["math.sqrt"], unfollowed := true, recurses := true, named := ["math/bits.divideError", "math/bits.overflowError"], apart := false, narrowed := true }
def ConvertValuesUptoSaid : Prop := convertValuesUptoRow.holds Try.pinned (OpenSpec.upto convertValuesSpec)

/-- 'baseboardlaw04.ConvertSteps', WHERE WHAT IT READS IS OF BULK AT MOST 1048576: true; the input reads as it did. -/
def convertStepsUptoRow : OpenClaim := { program := "ytgjjmiaiclhidaa", sum := "f986860acea8cb4dddf1d96db627bbb64dd4c7fb3e535373b42271e7c1ec6eec", func := "baseboard/baseboardlaw04.ConvertSteps", spec := "convertSteps", inPlace := ["math.sqrt"], unfollowed := true, recurses := true, named := ["math/bits.divideError", "math/bits.overflowError"], apart := false, narrowed := true }
def ConvertStepsUptoSaid : Prop := convertStepsUptoRow.holds Try.pinned (OpenSpec.upto convertStepsSpec)

/-- 'baseboardlaw04.ConvertBetween', WHERE WHAT IT READS IS OF BULK AT MOST 1048576: true; the input reads as it did. -/
def convertBetweenUptoRow : OpenClaim := { program := "ytgjjmiaiclhidaa", sum := "f986860acea8cb4dddf1d96db627bbb64dd4c7fb3e535373b42271e7c1ec6eec", func := "baseboard/baseboardlaw04.ConvertBetween", spec := "convertBetween", inPlace := ["math.sqrt"], unfollowed := true, recurses := true, named := ["math/bits.divideError", "math/bits.overflowError"], apart := false, narrowed := true }
def ConvertBetweenUptoSaid : Prop := convertBetweenUptoRow.holds Try.pinned (OpenSpec.upto convertBetweenSpec)

/-- 'baseboardlaw04.ConvertForms', WHERE WHAT IT READS IS OF BULK AT MOST 1048576: true; the input reads as it did. -/
def convertFormsUptoRow : OpenClaim := { program := "ytgjjmiaiclhidaa", sum := "f986860acea8cb4dddf1d96db627bbb64dd4c7fb3e535373b42271e7c1ec6eec", func := "baseboard/baseboardlaw04.ConvertForms", spec := "convertForms", inPlace := ["math.sqrt"], unfollowed := true, recurses := true, named := ["math/bits.divideError", "math/bits.overflowError"], apart := false, narrowed := true }
def ConvertFormsUptoSaid : Prop := convertFormsUptoRow.holds Try.pinned (OpenSpec.upto convertFormsSpec)

/-- 'baseboardlaw04.ConvertNearest', WHERE WHAT IT READS IS OF BULK AT MOST 1048576: true; the input reads as it did. -/
def convertNearestUptoRow : OpenClaim := { program := "ytgjjmiaiclhidaa", sum := "f986860acea8cb4dddf1d96db627bbb64dd4c7fb3e535373b42271e7c1ec6eec", func := "baseboard/baseboardlaw04.ConvertNearest", spec := "convertNearest", inPlace := ["math.sqrt"], unfollowed := true, recurses := true, named := ["math/bits.divideError", "math/bits.overflowError"], apart := false, narrowed := true }
def ConvertNearestUptoSaid : Prop := convertNearestUptoRow.holds Try.pinned (OpenSpec.upto convertNearestSpec)

/-- 'baseboardlaw04.ConvertDirections', WHERE WHAT IT READS IS OF BULK AT MOST 1048576: true; the input reads as it did. -/
def convertDirectionsUptoRow : OpenClaim := { program := "ytgjjmiaiclhidaa", sum := "f986860acea8cb4dddf1d96db627bbb64dd4c7fb3e535373b42271e7c1ec6eec", func := "baseboard/baseboardlaw04.ConvertDirections", spec := "convertDirections", inPlace := ["math.sqrt"], unfollowed := true, recurses := true, named := ["math/bits.divideError", "math/bits.overflowError"], apart := false, narrowed := true }
def ConvertDirectionsUptoSaid : Prop := convertDirectionsUptoRow.holds Try.pinned (OpenSpec.upto convertDirectionsSpec)

/-- 'baseboardlaw04.ConvertNear', WHERE WHAT IT READS IS OF BULK AT MOST 1048576: true; the input reads as it did. -/
def convertNearUptoRow : OpenClaim := { program := "ytgjjmiaiclhidaa", sum := "f986860acea8cb4dddf1d96db627bbb64dd4c7fb3e535373b42271e7c1ec6eec", func := "baseboard/baseboardlaw04.ConvertNear", spec := "convertNear", inPlace := ["math.sqrt"], unfollowed := true, recurses := true, named := ["math/bits.divideError", "math/bits.overflowError"], apart := false, narrowed := true }
def ConvertNearUptoSaid : Prop := convertNearUptoRow.holds Try.pinned (OpenSpec.upto convertNearSpec)

/-- 'baseboardlaw04.ConvertMonotone', WHERE WHAT IT READS IS OF BULK AT MOST 1048576: true; the input reads as it did. -/
def convertMonotoneUptoRow : OpenClaim := { program := "ytgjjmiaiclhidaa", sum := "f986860acea8cb4dddf1d96db627bbb64dd4c7fb3e535373b42271e7c1ec6eec", func := "baseboard/baseboardlaw04.ConvertMonotone", spec := "convertMonotone", inPlace := ["math.sqrt"], unfollowed := true, recurses := true, named := ["math/bits.divideError", "math/bits.overflowError"], apart := false, narrowed := true }
def ConvertMonotoneUptoSaid : Prop := convertMonotoneUptoRow.holds Try.pinned (OpenSpec.upto convertMonotoneSpec)

/-- 'baseboardlaw04.ConvertBytes', WHERE WHAT IT READS IS OF BULK AT MOST 1048576: true; the input reads as it did. -/
def convertBytesUptoRow : OpenClaim := { program := "ytgjjmiaiclhidaa", sum := "f986860acea8cb4dddf1d96db627bbb64dd4c7fb3e535373b42271e7c1ec6eec", func := "baseboard/baseboardlaw04.ConvertBytes", spec := "convertBytes", inPlace := ["math.sqrt"], unfollowed := true, recurses := true, named := ["math/bits.divideError", "math/bits.overflowError"], apart := false, narrowed := true }
def ConvertBytesUptoSaid : Prop := convertBytesUptoRow.holds Try.pinned (OpenSpec.upto convertBytesSpec)

/-- 'baseboardlaw04.ConvertReturns', WHERE WHAT IT READS IS OF BULK AT MOST 1048576: true; the input reads as it did. -/
def convertReturnsUptoRow : OpenClaim := { program := "ytgjjmiaiclhidaa", sum := "f986860acea8cb4dddf1d96db627bbb64dd4c7fb3e535373b42271e7c1ec6eec", func := "baseboard/baseboardlaw04.ConvertReturns", spec := "convertReturns", inPlace := ["math.sqrt"], unfollowed := true, recurses := true, named := ["math/bits.divideError", "math/bits.overflowError"], apart := false, narrowed := true }
def ConvertReturnsUptoSaid : Prop := convertReturnsUptoRow.holds Try.pinned (OpenSpec.upto convertReturnsSpec)

/-- 'baseboardlaw14.SamplingSteps', WHERE WHAT IT READS IS OF BULK AT MOST 1048576: true; the input reads as it did. -/
def samplingStepsUptoRow : OpenClaim := { program := "ytgjjmiaiclhidaa", sum := "f986860acea8cb4dddf1d96db627bbb64dd4c7fb3e535373b42271e7c1ec6eec", func := "baseboard/baseboardlaw14.SamplingSteps", spec := "samplingSteps", unfollowed := true, recurses := true, apart := false, narrowed := true }
def SamplingStepsUptoSaid : Prop := samplingStepsUptoRow.holds Try.pinned (OpenSpec.upto samplingStepsSpec)

/-- 'baseboardlaw14.SamplingMedian', WHERE WHAT IT READS IS OF BULK AT MOST 1048576: true; the input reads as it did. -/
def samplingMedianUptoRow : OpenClaim := { program := "ytgjjmiaiclhidaa", sum := "f986860acea8cb4dddf1d96db627bbb64dd4c7fb3e535373b42271e7c1ec6eec", func := "baseboard/baseboardlaw14.SamplingMedian", spec := "samplingMedian", unfollowed := true, recurses := true, apart := false, narrowed := true }
def SamplingMedianUptoSaid : Prop := samplingMedianUptoRow.holds Try.pinned (OpenSpec.upto samplingMedianSpec)

/-- 'baseboardlaw14.SamplingOutliers', WHERE WHAT IT READS IS OF BULK AT MOST 1048576: true; the input reads as it did. -/
def samplingOutliersUptoRow : OpenClaim := { program := "ytgjjmiaiclhidaa", sum := "f986860acea8cb4dddf1d96db627bbb64dd4c7fb3e535373b42271e7c1ec6eec", func := "baseboard/baseboardlaw14.SamplingOutliers", spec := "samplingOutliers", unfollowed := true, recurses := true, apart := false, narrowed := true }
def SamplingOutliersUptoSaid : Prop := samplingOutliersUptoRow.holds Try.pinned (OpenSpec.upto samplingOutliersSpec)

/-- 'baseboardlaw14.SamplingForgets', WHERE WHAT IT READS IS OF BULK AT MOST 1048576: true; the input reads as it did. -/
def samplingForgetsUptoRow : OpenClaim := { program := "ytgjjmiaiclhidaa", sum := "f986860acea8cb4dddf1d96db627bbb64dd4c7fb3e535373b42271e7c1ec6eec", func := "baseboard/baseboardlaw14.SamplingForgets", spec := "samplingForgets", unfollowed := true, recurses := true, apart := false, narrowed := true }
def SamplingForgetsUptoSaid : Prop := samplingForgetsUptoRow.holds Try.pinned (OpenSpec.upto samplingForgetsSpec)

end Rows
end Go.Proofs.Ytgjjmiaiclhidaa
