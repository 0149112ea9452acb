/-
  NARROWER THAN 'FOR EVERY INPUT', by the rows' own cells (each row's printed sentence says how): MonitorSleeps: laid · MonitorAlternates: laid · MonitorRefuses: laid · MonitorRecovers: laid · MonitorTells: laid · MonitorWorst: laid · MonitorPlays: laid.
  DERIVED. THE GIVEN ROWS OF THIS SEAT. 7 by the template 'for every input the law returns true; each argument reads behind the call as it read before'; 0 by the template 'total and deterministic' (their statements: YtijjkonephjodaaGreatDoorTotals.lean).
  GIVEN WITH THE SEED: the statements are not yours to turn. If you find one false, say at which input.
  Laid BY PROGRAM, IN A SANDBOX (cutbox-rows.mjs): the forced cells as the released guide's own fill.sh prints them over the translation 69bebe70b1d43ed1… (all of the seat's roots in one cut). By AI agents, Wed Nov 11 2026. No macro, syntax, notation, axiom, sorry.
-/
import Derived.Test.YtijjkonephjodaaGreatDoorChecked
import GoSem.Claim
import GoSem.ClaimJoined
import GoSem.ClaimMapViews
import Derived.JoinedTies
import Derived.KernelRfl
namespace Go.Proofs.YtijjkonephjodaaGreatDoor
/- THE CELL 'sum', in the pinned program and in every row, IS THE sha256 OF THE DUMP (.gsa) THAT YtijjkonephjodaaGreatDoorProg.lean LOADS. Nothing in Lean hashes anything: it is a label: what it is worth is what the hold of that sum in a sandbox is worth. -/
noncomputable def Tryz.pinned : Pinned := { name := "ytijjkonephjodaagreatdoor", sum := "69bebe70b1d43ed1f1c7ee5ff5544e3b78d74912ae129a4737433a8737b539f2", checked := Tryz.checked }
namespace Rows
def none {H : Type} : Left H := { results := [], args := [] }

/- WHAT THE LISTED PACKAGE-LEVEL VARIABLES READ AS WHEN THE CALL BEGINS. Each datum BY PROGRAM (the guide's laid-datum.mjs) off the statement by which the dump's own 'gosem.cut.vars' lays the variable. In a bare row this is a premise. The card (YtijjkonephjodaaGreatDoorCards.lean) ties it to the program's text. -/
def laid_baseboard_event_offsets {H : Type} : DataW H := .agg [.lit (.int .u8 0), .lit (.int .u8 2), .lit (.int .u8 4), .lit (.int .u8 7), .lit (.int .u8 9), .lit (.int .u8 11)]

/-- 'baseboardlaw16.MonitorSleeps': WHATEVER THE INPUT: true; the input reads as it did. -/
def monitorSleepsSpec : ChangeSpec := { name := "monitorSleeps", fn := fun _ => fun
  | [d1, d2, d3, d4] => { results := [.lit (.bool true)], args := [d1, d2, d3, d4] }
  | _ => none }
def monitorSleepsRow : OpenClaim := { program := "ytijjkonephjodaagreatdoor", sum := "69bebe70b1d43ed1f1c7ee5ff5544e3b78d74912ae129a4737433a8737b539f2", func := "baseboard/baseboardlaw16.MonitorSleeps", spec := "monitorSleeps", unfollowed := true, recurses := true, named := ["baseboard/event.offsets"], plainKeys := false, apart := false, laid := [("baseboard/event.offsets", laid_baseboard_event_offsets)] }
def MonitorSleepsSaid : Prop := monitorSleepsRow.holds Tryz.pinned (OpenSpec.ofChange monitorSleepsSpec)

/-- ITS FALSE NEIGHBOUR: 'it returns false'. Refute it at one input. -/
def monitorSleepsWrong : ChangeSpec := { name := "monitorSleeps", fn := fun _ => fun
  | [d1, d2, d3, d4] => { results := [.lit (.bool false)], args := [d1, d2, d3, d4] }
  | _ => none }
def MonitorSleepsWrongFalsely : Prop := monitorSleepsRow.holds Tryz.pinned (OpenSpec.ofChange monitorSleepsWrong)

/-- 'baseboardlaw16.MonitorAlternates': WHATEVER THE INPUT: true; the input reads as it did. -/
def monitorAlternatesSpec : ChangeSpec := { name := "monitorAlternates", fn := fun _ => fun
  | [d1, d2] => { results := [.lit (.bool true)], args := [d1, d2] }
  | _ => none }
def monitorAlternatesRow : OpenClaim := { program := "ytijjkonephjodaagreatdoor", sum := "69bebe70b1d43ed1f1c7ee5ff5544e3b78d74912ae129a4737433a8737b539f2", func := "baseboard/baseboardlaw16.MonitorAlternates", spec := "monitorAlternates", unfollowed := true, recurses := true, named := ["baseboard/event.offsets"], plainKeys := false, apart := false, laid := [("baseboard/event.offsets", laid_baseboard_event_offsets)] }
def MonitorAlternatesSaid : Prop := monitorAlternatesRow.holds Tryz.pinned (OpenSpec.ofChange monitorAlternatesSpec)

/-- ITS FALSE NEIGHBOUR: 'it returns false'. Refute it at one input. -/
def monitorAlternatesWrong : ChangeSpec := { name := "monitorAlternates", fn := fun _ => fun
  | [d1, d2] => { results := [.lit (.bool false)], args := [d1, d2] }
  | _ => none }
def MonitorAlternatesWrongFalsely : Prop := monitorAlternatesRow.holds Tryz.pinned (OpenSpec.ofChange monitorAlternatesWrong)

/-- 'baseboardlaw16.MonitorRefuses': WHATEVER THE INPUT: true; the input reads as it did. -/
def monitorRefusesSpec : ChangeSpec := { name := "monitorRefuses", fn := fun _ => fun
  | [d1, d2, d3, d4] => { results := [.lit (.bool true)], args := [d1, d2, d3, d4] }
  | _ => none }
def monitorRefusesRow : OpenClaim := { program := "ytijjkonephjodaagreatdoor", sum := "69bebe70b1d43ed1f1c7ee5ff5544e3b78d74912ae129a4737433a8737b539f2", func := "baseboard/baseboardlaw16.MonitorRefuses", spec := "monitorRefuses", unfollowed := true, recurses := true, named := ["baseboard/event.offsets"], plainKeys := false, apart := false, laid := [("baseboard/event.offsets", laid_baseboard_event_offsets)] }
def MonitorRefusesSaid : Prop := monitorRefusesRow.holds Tryz.pinned (OpenSpec.ofChange monitorRefusesSpec)

/-- ITS FALSE NEIGHBOUR: 'it returns false'. Refute it at one input. -/
def monitorRefusesWrong : ChangeSpec := { name := "monitorRefuses", fn := fun _ => fun
  | [d1, d2, d3, d4] => { results := [.lit (.bool false)], args := [d1, d2, d3, d4] }
  | _ => none }
def MonitorRefusesWrongFalsely : Prop := monitorRefusesRow.holds Tryz.pinned (OpenSpec.ofChange monitorRefusesWrong)

/-- 'baseboardlaw16.MonitorRecovers': WHATEVER THE INPUT: true; the input reads as it did. -/
def monitorRecoversSpec : ChangeSpec := { name := "monitorRecovers", fn := fun _ => fun
  | [d1, d2] => { results := [.lit (.bool true)], args := [d1, d2] }
  | _ => none }
def monitorRecoversRow : OpenClaim := { program := "ytijjkonephjodaagreatdoor", sum := "69bebe70b1d43ed1f1c7ee5ff5544e3b78d74912ae129a4737433a8737b539f2", func := "baseboard/baseboardlaw16.MonitorRecovers", spec := "monitorRecovers", unfollowed := true, recurses := true, named := ["baseboard/event.offsets"], plainKeys := false, apart := false, laid := [("baseboard/event.offsets", laid_baseboard_event_offsets)] }
def MonitorRecoversSaid : Prop := monitorRecoversRow.holds Tryz.pinned (OpenSpec.ofChange monitorRecoversSpec)

/-- ITS FALSE NEIGHBOUR: 'it returns false'. Refute it at one input. -/
def monitorRecoversWrong : ChangeSpec := { name := "monitorRecovers", fn := fun _ => fun
  | [d1, d2] => { results := [.lit (.bool false)], args := [d1, d2] }
  | _ => none }
def MonitorRecoversWrongFalsely : Prop := monitorRecoversRow.holds Tryz.pinned (OpenSpec.ofChange monitorRecoversWrong)

/-- 'baseboardlaw16.MonitorTells': WHATEVER THE INPUT: true; the input reads as it did. -/
def monitorTellsSpec : ChangeSpec := { name := "monitorTells", fn := fun _ => fun
  | [d1, d2, d3, d4] => { results := [.lit (.bool true)], args := [d1, d2, d3, d4] }
  | _ => none }
def monitorTellsRow : OpenClaim := { program := "ytijjkonephjodaagreatdoor", sum := "69bebe70b1d43ed1f1c7ee5ff5544e3b78d74912ae129a4737433a8737b539f2", func := "baseboard/baseboardlaw16.MonitorTells", spec := "monitorTells", unfollowed := true, recurses := true, named := ["baseboard/event.offsets"], plainKeys := false, apart := false, laid := [("baseboard/event.offsets", laid_baseboard_event_offsets)] }
def MonitorTellsSaid : Prop := monitorTellsRow.holds Tryz.pinned (OpenSpec.ofChange monitorTellsSpec)

/-- ITS FALSE NEIGHBOUR: 'it returns false'. Refute it at one input. -/
def monitorTellsWrong : ChangeSpec := { name := "monitorTells", fn := fun _ => fun
  | [d1, d2, d3, d4] => { results := [.lit (.bool false)], args := [d1, d2, d3, d4] }
  | _ => none }
def MonitorTellsWrongFalsely : Prop := monitorTellsRow.holds Tryz.pinned (OpenSpec.ofChange monitorTellsWrong)

/-- 'baseboardlaw16.MonitorWorst': WHATEVER THE INPUT: true; the input reads as it did. -/
def monitorWorstSpec : ChangeSpec := { name := "monitorWorst", fn := fun _ => fun
  | [d1, d2, d3] => { results := [.lit (.bool true)], args := [d1, d2, d3] }
  | _ => none }
def monitorWorstRow : OpenClaim := { program := "ytijjkonephjodaagreatdoor", sum := "69bebe70b1d43ed1f1c7ee5ff5544e3b78d74912ae129a4737433a8737b539f2", func := "baseboard/baseboardlaw16.MonitorWorst", spec := "monitorWorst", unfollowed := true, recurses := true, named := ["baseboard/event.offsets"], plainKeys := false, apart := false, laid := [("baseboard/event.offsets", laid_baseboard_event_offsets)] }
def MonitorWorstSaid : Prop := monitorWorstRow.holds Tryz.pinned (OpenSpec.ofChange monitorWorstSpec)

/-- ITS FALSE NEIGHBOUR: 'it returns false'. Refute it at one input. -/
def monitorWorstWrong : ChangeSpec := { name := "monitorWorst", fn := fun _ => fun
  | [d1, d2, d3] => { results := [.lit (.bool false)], args := [d1, d2, d3] }
  | _ => none }
def MonitorWorstWrongFalsely : Prop := monitorWorstRow.holds Tryz.pinned (OpenSpec.ofChange monitorWorstWrong)

/-- 'baseboardlaw16.MonitorPlays': WHATEVER THE INPUT: true; the input reads as it did. -/
def monitorPlaysSpec : ChangeSpec := { name := "monitorPlays", fn := fun _ => fun
  | [d1, d2] => { results := [.lit (.bool true)], args := [d1, d2] }
  | _ => none }
def monitorPlaysRow : OpenClaim := { program := "ytijjkonephjodaagreatdoor", sum := "69bebe70b1d43ed1f1c7ee5ff5544e3b78d74912ae129a4737433a8737b539f2", func := "baseboard/baseboardlaw16.MonitorPlays", spec := "monitorPlays", unfollowed := true, recurses := true, named := ["baseboard/event.offsets"], plainKeys := false, apart := false, laid := [("baseboard/event.offsets", laid_baseboard_event_offsets)] }
def MonitorPlaysSaid : Prop := monitorPlaysRow.holds Tryz.pinned (OpenSpec.ofChange monitorPlaysSpec)

/-- ITS FALSE NEIGHBOUR: 'it returns false'. Refute it at one input. -/
def monitorPlaysWrong : ChangeSpec := { name := "monitorPlays", fn := fun _ => fun
  | [d1, d2] => { results := [.lit (.bool false)], args := [d1, d2] }
  | _ => none }
def MonitorPlaysWrongFalsely : Prop := monitorPlaysRow.holds Tryz.pinned (OpenSpec.ofChange monitorPlaysWrong)

/- THE SECOND FORM. 'bulk': how many values and letters a reading holds, each counted each time it is reached (what is shared counts as often as it is met; a slice's spare places count too). A statement '..UptoSaid' is the law's where the arguments, and the package variables that the reading takes, are together of bulk at most 1048576: NARROWER than '..Said'. Prove '..Said' where nothing that the law and all that it calls make is longer than what came in: it says more and counts as full. Else prove '..UptoSaid'. A law counts once. -/
mutual
def uptoBulk {H : Type} : DataW H → Nat
  | .lit (.string bytes) => bytes.length + 1
  | .lit _ => 1
  | .nil => 1
  | .ptr d => uptoBulk d + 1
  | .slice elems spare => uptoBulkAll elems + uptoBulkAll spare + 1
  | .agg parts => uptoBulkAll parts + 1
  | .iface _ d => uptoBulk d + 1
  | .map entries => uptoBulkEntries entries + 1
  | .held _ => 1
def uptoBulkAll {H : Type} : List (DataW H) → Nat
  | [] => 0
  | d :: r => uptoBulk d + uptoBulkAll r
def uptoBulkEntries {H : Type} : List (Lit × DataW H) → Nat
  | [] => 0
  | x :: r => uptoBulkEntry x + uptoBulkEntries r
def uptoBulkEntry {H : Type} : Lit × DataW H → Nat
  | (.string bytes, d) => bytes.length + uptoBulk d + 1
  | (_, d) => uptoBulk d + 1
 end
def uptoSmall : (H : Type) → List (DataW H) → Bool := fun _ ds => decide (uptoBulkAll ds ≤ 1048576)
def OpenSpec.upto (s : _root_.Go.ChangeSpec) : _root_.Go.OpenSpec := { _root_.Go.OpenSpec.ofChange s with cond := some uptoSmall }

/-- 'baseboardlaw16.MonitorSleeps', WHERE WHAT IT READS IS OF BULK AT MOST 1048576: true; the input reads as it did. -/
def monitorSleepsUptoRow : OpenClaim := { program := "ytijjkonephjodaagreatdoor", sum := "69bebe70b1d43ed1f1c7ee5ff5544e3b78d74912ae129a4737433a8737b539f2", func := "baseboard/baseboardlaw16.MonitorSleeps", spec := "monitorSleeps", unfollowed := true, recurses := true, named := ["baseboard/event.offsets"], plainKeys := false, apart := false, laid := [("baseboard/event.offsets", laid_baseboard_event_offsets)], narrowed := true }
def MonitorSleepsUptoSaid : Prop := monitorSleepsUptoRow.holds Tryz.pinned (OpenSpec.upto monitorSleepsSpec)

/-- 'baseboardlaw16.MonitorAlternates', WHERE WHAT IT READS IS OF BULK AT MOST 1048576: true; the input reads as it did. -/
def monitorAlternatesUptoRow : OpenClaim := { program := "ytijjkonephjodaagreatdoor", sum := "69bebe70b1d43ed1f1c7ee5ff5544e3b78d74912ae129a4737433a8737b539f2", func := "baseboard/baseboardlaw16.MonitorAlternates", spec := "monitorAlternates", unfollowed := true, recurses := true, named := ["baseboard/event.offsets"], plainKeys := false, apart := false, laid := [("baseboard/event.offsets", laid_baseboard_event_offsets)], narrowed := true }
def MonitorAlternatesUptoSaid : Prop := monitorAlternatesUptoRow.holds Tryz.pinned (OpenSpec.upto monitorAlternatesSpec)

/-- 'baseboardlaw16.MonitorRefuses', WHERE WHAT IT READS IS OF BULK AT MOST 1048576: true; the input reads as it did. -/
def monitorRefusesUptoRow : OpenClaim := { program := "ytijjkonephjodaagreatdoor", sum := "69bebe70b1d43ed1f1c7ee5ff5544e3b78d74912ae129a4737433a8737b539f2", func := "baseboard/baseboardlaw16.MonitorRefuses", spec := "monitorRefuses", unfollowed := true, recurses := true, named := ["baseboard/event.offsets"], plainKeys := false, apart := false, laid := [("baseboard/event.offsets", laid_baseboard_event_offsets)], narrowed := true }
def MonitorRefusesUptoSaid : Prop := monitorRefusesUptoRow.holds Tryz.pinned (OpenSpec.upto monitorRefusesSpec)

/-- 'baseboardlaw16.MonitorRecovers', WHERE WHAT IT READS IS OF BULK AT MOST 1048576: true; the input reads as it did. -/
def monitorRecoversUptoRow : OpenClaim := { program := "ytijjkonephjodaagreatdoor", sum := "69bebe70b1d43ed1f1c7ee5ff5544e3b78d74912ae129a4737433a8737b539f2", func := "baseboard/baseboardlaw16.MonitorRecovers", spec := "monitorRecovers", unfollowed := true, recurses := true, named := ["baseboard/event.offsets"], plainKeys := false, apart := false, laid := [("baseboard/event.offsets", laid_baseboard_event_offsets)], narrowed := true }
def MonitorRecoversUptoSaid : Prop := monitorRecoversUptoRow.holds Tryz.pinned (OpenSpec.upto monitorRecoversSpec)

/-- 'baseboardlaw16.MonitorTells', WHERE WHAT IT READS IS OF BULK AT MOST 1048576: true; the input reads as it did. -/
def monitorTellsUptoRow : OpenClaim := { program := "ytijjkonephjodaagreatdoor", sum := "69bebe70b1d43ed1f1c7ee5ff5544e3b78d74912ae129a4737433a8737b539f2", func := "baseboard/baseboardlaw16.MonitorTells", spec := "monitorTells", unfollowed := true, recurses := true, named := ["baseboard/event.offsets"], plainKeys := false, apart := false, laid := [("baseboard/event.offsets", laid_baseboard_event_offsets)], narrowed := true }
def MonitorTellsUptoSaid : Prop := monitorTellsUptoRow.holds Tryz.pinned (OpenSpec.upto monitorTellsSpec)

/-- 'baseboardlaw16.MonitorWorst', WHERE WHAT IT READS IS OF BULK AT MOST 1048576: true; the input reads as it did. -/
def monitorWorstUptoRow : OpenClaim := { program := "ytijjkonephjodaagreatdoor", sum := "69bebe70b1d43ed1f1c7ee5ff5544e3b78d74912ae129a4737433a8737b539f2", func := "baseboard/baseboardlaw16.MonitorWorst", spec := "monitorWorst", unfollowed := true, recurses := true, named := ["baseboard/event.offsets"], plainKeys := false, apart := false, laid := [("baseboard/event.offsets", laid_baseboard_event_offsets)], narrowed := true }
def MonitorWorstUptoSaid : Prop := monitorWorstUptoRow.holds Tryz.pinned (OpenSpec.upto monitorWorstSpec)

/-- 'baseboardlaw16.MonitorPlays', WHERE WHAT IT READS IS OF BULK AT MOST 1048576: true; the input reads as it did. -/
def monitorPlaysUptoRow : OpenClaim := { program := "ytijjkonephjodaagreatdoor", sum := "69bebe70b1d43ed1f1c7ee5ff5544e3b78d74912ae129a4737433a8737b539f2", func := "baseboard/baseboardlaw16.MonitorPlays", spec := "monitorPlays", unfollowed := true, recurses := true, named := ["baseboard/event.offsets"], plainKeys := false, apart := false, laid := [("baseboard/event.offsets", laid_baseboard_event_offsets)], narrowed := true }
def MonitorPlaysUptoSaid : Prop := monitorPlaysUptoRow.holds Tryz.pinned (OpenSpec.upto monitorPlaysSpec)

end Rows
end Go.Proofs.YtijjkonephjodaaGreatDoor
