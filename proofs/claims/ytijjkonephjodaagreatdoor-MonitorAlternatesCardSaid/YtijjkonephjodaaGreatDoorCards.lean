/-
  DERIVED. GIVEN WITH THE SEED: THE CARDS: each row of YtijjkonephjodaaGreatDoorRows.lean that lists a variable, with what it lists TIED to the program's text (the seventh form; the later family's looks); each row that meets fmt, with fmt's text TOLD by the authors' own Lean function (tested against real Go, not proved from fmt's source: count such statements apart). THE CARD IS WHAT COUNTS. Prove the row's statement (the work); the ties are given (YtijjkonephjodaaGreatDoorTie.lean); close each card by the builder's one call (the guide's Derived/Test/ToyasCard.lean, 'card_holds'). Laid BY PROGRAM, IN A SANDBOX (cutbox-door.mjs). By AI agents, Wed Nov 11 2026. No macro, syntax, notation, axiom, sorry.
-/
import Derived.Test.YtijjkonephjodaaGreatDoorRows
import GoSem.ClaimSeven
namespace Go.Proofs.YtijjkonephjodaaGreatDoor
namespace Rows

/-- THE TIED CARD OF 'baseboardlaw16.MonitorSleeps'. -/
def monitorSleepsCard : Claim7 := { stood := { row := monitorSleepsRow, standIns := [], harness := (true, "e957839529e7b444fca17cd342e5900b0d3b6ebdfa6d790aaf05b2f38214754c"), looks := false }, kinds := [], alts := [], laidByText := true, laidKinds := [.widerDeep], laidTests := true, laidLooks := .later }
def MonitorSleepsCardSaid : Prop := Claim7.holds Tryz.pinned (.plain (OpenSpec.ofChange monitorSleepsSpec)) monitorSleepsCard

/-- THE TIED CARD OF 'baseboardlaw16.MonitorAlternates'. -/
def monitorAlternatesCard : Claim7 := { stood := { row := monitorAlternatesRow, standIns := [], harness := (true, "e957839529e7b444fca17cd342e5900b0d3b6ebdfa6d790aaf05b2f38214754c"), looks := false }, kinds := [], alts := [], laidByText := true, laidKinds := [.widerDeep], laidTests := true, laidLooks := .later }
def MonitorAlternatesCardSaid : Prop := Claim7.holds Tryz.pinned (.plain (OpenSpec.ofChange monitorAlternatesSpec)) monitorAlternatesCard

/-- THE TIED CARD OF 'baseboardlaw16.MonitorRefuses'. -/
def monitorRefusesCard : Claim7 := { stood := { row := monitorRefusesRow, standIns := [], harness := (true, "e957839529e7b444fca17cd342e5900b0d3b6ebdfa6d790aaf05b2f38214754c"), looks := false }, kinds := [], alts := [], laidByText := true, laidKinds := [.widerDeep], laidTests := true, laidLooks := .later }
def MonitorRefusesCardSaid : Prop := Claim7.holds Tryz.pinned (.plain (OpenSpec.ofChange monitorRefusesSpec)) monitorRefusesCard

/-- THE TIED CARD OF 'baseboardlaw16.MonitorRecovers'. -/
def monitorRecoversCard : Claim7 := { stood := { row := monitorRecoversRow, standIns := [], harness := (true, "e957839529e7b444fca17cd342e5900b0d3b6ebdfa6d790aaf05b2f38214754c"), looks := false }, kinds := [], alts := [], laidByText := true, laidKinds := [.widerDeep], laidTests := true, laidLooks := .later }
def MonitorRecoversCardSaid : Prop := Claim7.holds Tryz.pinned (.plain (OpenSpec.ofChange monitorRecoversSpec)) monitorRecoversCard

/-- THE TIED CARD OF 'baseboardlaw16.MonitorTells'. -/
def monitorTellsCard : Claim7 := { stood := { row := monitorTellsRow, standIns := [], harness := (true, "e957839529e7b444fca17cd342e5900b0d3b6ebdfa6d790aaf05b2f38214754c"), looks := false }, kinds := [], alts := [], laidByText := true, laidKinds := [.widerDeep], laidTests := true, laidLooks := .later }
def MonitorTellsCardSaid : Prop := Claim7.holds Tryz.pinned (.plain (OpenSpec.ofChange monitorTellsSpec)) monitorTellsCard

/-- THE TIED CARD OF 'baseboardlaw16.MonitorWorst'. -/
def monitorWorstCard : Claim7 := { stood := { row := monitorWorstRow, standIns := [], harness := (true, "e957839529e7b444fca17cd342e5900b0d3b6ebdfa6d790aaf05b2f38214754c"), looks := false }, kinds := [], alts := [], laidByText := true, laidKinds := [.widerDeep], laidTests := true, laidLooks := .later }
def MonitorWorstCardSaid : Prop := Claim7.holds Tryz.pinned (.plain (OpenSpec.ofChange monitorWorstSpec)) monitorWorstCard

/-- THE TIED CARD OF 'baseboardlaw16.MonitorPlays'. -/
def monitorPlaysCard : Claim7 := { stood := { row := monitorPlaysRow, standIns := [], harness := (true, "e957839529e7b444fca17cd342e5900b0d3b6ebdfa6d790aaf05b2f38214754c"), looks := false }, kinds := [], alts := [], laidByText := true, laidKinds := [.widerDeep], laidTests := true, laidLooks := .later }
def MonitorPlaysCardSaid : Prop := Claim7.holds Tryz.pinned (.plain (OpenSpec.ofChange monitorPlaysSpec)) monitorPlaysCard

/-- THE SECOND FORM's CARD OF 'baseboardlaw16.MonitorSleeps'. -/
def monitorSleepsUptoCard : Claim7 := { stood := { row := monitorSleepsUptoRow, standIns := [], harness := (true, "e957839529e7b444fca17cd342e5900b0d3b6ebdfa6d790aaf05b2f38214754c"), looks := false }, kinds := [], alts := [], laidByText := true, laidKinds := [.widerDeep], laidTests := true, laidLooks := .later }
def MonitorSleepsUptoCardSaid : Prop := Claim7.holds Tryz.pinned (.plain (OpenSpec.upto monitorSleepsSpec)) monitorSleepsUptoCard

/-- THE SECOND FORM's CARD OF 'baseboardlaw16.MonitorAlternates'. -/
def monitorAlternatesUptoCard : Claim7 := { stood := { row := monitorAlternatesUptoRow, standIns := [], harness := (true, "e957839529e7b444fca17cd342e5900b0d3b6ebdfa6d790aaf05b2f38214754c"), looks := false }, kinds := [], alts := [], laidByText := true, laidKinds := [.widerDeep], laidTests := true, laidLooks := .later }
def MonitorAlternatesUptoCardSaid : Prop := Claim7.holds Tryz.pinned (.plain (OpenSpec.upto monitorAlternatesSpec)) monitorAlternatesUptoCard

/-- THE SECOND FORM's CARD OF 'baseboardlaw16.MonitorRefuses'. -/
def monitorRefusesUptoCard : Claim7 := { stood := { row := monitorRefusesUptoRow, standIns := [], harness := (true, "e957839529e7b444fca17cd342e5900b0d3b6ebdfa6d790aaf05b2f38214754c"), looks := false }, kinds := [], alts := [], laidByText := true, laidKinds := [.widerDeep], laidTests := true, laidLooks := .later }
def MonitorRefusesUptoCardSaid : Prop := Claim7.holds Tryz.pinned (.plain (OpenSpec.upto monitorRefusesSpec)) monitorRefusesUptoCard

/-- THE SECOND FORM's CARD OF 'baseboardlaw16.MonitorRecovers'. -/
def monitorRecoversUptoCard : Claim7 := { stood := { row := monitorRecoversUptoRow, standIns := [], harness := (true, "e957839529e7b444fca17cd342e5900b0d3b6ebdfa6d790aaf05b2f38214754c"), looks := false }, kinds := [], alts := [], laidByText := true, laidKinds := [.widerDeep], laidTests := true, laidLooks := .later }
def MonitorRecoversUptoCardSaid : Prop := Claim7.holds Tryz.pinned (.plain (OpenSpec.upto monitorRecoversSpec)) monitorRecoversUptoCard

/-- THE SECOND FORM's CARD OF 'baseboardlaw16.MonitorTells'. -/
def monitorTellsUptoCard : Claim7 := { stood := { row := monitorTellsUptoRow, standIns := [], harness := (true, "e957839529e7b444fca17cd342e5900b0d3b6ebdfa6d790aaf05b2f38214754c"), looks := false }, kinds := [], alts := [], laidByText := true, laidKinds := [.widerDeep], laidTests := true, laidLooks := .later }
def MonitorTellsUptoCardSaid : Prop := Claim7.holds Tryz.pinned (.plain (OpenSpec.upto monitorTellsSpec)) monitorTellsUptoCard

/-- THE SECOND FORM's CARD OF 'baseboardlaw16.MonitorWorst'. -/
def monitorWorstUptoCard : Claim7 := { stood := { row := monitorWorstUptoRow, standIns := [], harness := (true, "e957839529e7b444fca17cd342e5900b0d3b6ebdfa6d790aaf05b2f38214754c"), looks := false }, kinds := [], alts := [], laidByText := true, laidKinds := [.widerDeep], laidTests := true, laidLooks := .later }
def MonitorWorstUptoCardSaid : Prop := Claim7.holds Tryz.pinned (.plain (OpenSpec.upto monitorWorstSpec)) monitorWorstUptoCard

/-- THE SECOND FORM's CARD OF 'baseboardlaw16.MonitorPlays'. -/
def monitorPlaysUptoCard : Claim7 := { stood := { row := monitorPlaysUptoRow, standIns := [], harness := (true, "e957839529e7b444fca17cd342e5900b0d3b6ebdfa6d790aaf05b2f38214754c"), looks := false }, kinds := [], alts := [], laidByText := true, laidKinds := [.widerDeep], laidTests := true, laidLooks := .later }
def MonitorPlaysUptoCardSaid : Prop := Claim7.holds Tryz.pinned (.plain (OpenSpec.upto monitorPlaysSpec)) monitorPlaysUptoCard
end Rows
end Go.Proofs.YtijjkonephjodaaGreatDoor
