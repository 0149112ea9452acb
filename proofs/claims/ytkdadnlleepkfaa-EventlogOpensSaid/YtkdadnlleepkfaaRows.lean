/-
  No cell of these rows narrows 'for every input' (looked for: loops, veiled, ifaces, maps, wideKeys, modest, calm, conditions, laid).
  DERIVED. THE GIVEN ROWS OF THIS SEAT. 8 by the template 'for every input the law returns true; each argument reads behind the call as it read before'; 0 by the template 'total and deterministic' (their statements: YtkdadnlleepkfaaTotals.lean).
  GIVEN WITH THE SEED: the statements are not yours to turn. If you find one false, say at which input.
  Laid BY PROGRAM, IN A SANDBOX (cutbox-rows.mjs): the forced cells as the released guide's own fill.sh prints them over the translation 9a8f426498523ae8… (all of the seat's roots in one cut). By AI agents, Wed Nov 11 2026. No macro, syntax, notation, axiom, sorry.
-/
import Derived.Test.YtkdadnlleepkfaaChecked
import GoSem.Claim
import GoSem.ClaimJoined
import GoSem.ClaimMapViews
import Derived.JoinedTies
import Derived.KernelRfl
namespace Go.Proofs.Ytkdadnlleepkfaa
/- THE CELL 'sum', in the pinned program and in every row, IS THE sha256 OF THE DUMP (.gsa) THAT YtkdadnlleepkfaaProg.lean LOADS. Nothing in Lean hashes anything: it is a label: what it is worth is what the hold of that sum in a sandbox is worth. -/
noncomputable def Try.pinned : Pinned := { name := "ytkdadnlleepkfaa", sum := "9a8f426498523ae8e094c26e0bdb7f8fed65b20b5c3a89f5eb9dc867c028b1e2", checked := Try.checked }
namespace Rows
def none {H : Type} : Left H := { results := [], args := [] }

/-- 'baseboardlaw09.EventlogRefuses': WHATEVER THE INPUT: true; the input reads as it did. -/
def eventlogRefusesSpec : ChangeSpec := { name := "eventlogRefuses", fn := fun _ => fun
  | [d1, d2, d3, d4, d5] => { results := [.lit (.bool true)], args := [d1, d2, d3, d4, d5] }
  | _ => none }
def eventlogRefusesRow : OpenClaim := { program := "ytkdadnlleepkfaa", sum := "9a8f426498523ae8e094c26e0bdb7f8fed65b20b5c3a89f5eb9dc867c028b1e2", func := "baseboard/baseboardlaw09.EventlogRefuses", spec := "eventlogRefuses", unfollowed := true, recurses := true, apart := false }
def EventlogRefusesSaid : Prop := eventlogRefusesRow.holds Try.pinned (OpenSpec.ofChange eventlogRefusesSpec)

/-- ITS FALSE NEIGHBOUR: 'it returns false'. Refute it at one input. -/
def eventlogRefusesWrong : ChangeSpec := { name := "eventlogRefuses", fn := fun _ => fun
  | [d1, d2, d3, d4, d5] => { results := [.lit (.bool false)], args := [d1, d2, d3, d4, d5] }
  | _ => none }
def EventlogRefusesWrongFalsely : Prop := eventlogRefusesRow.holds Try.pinned (OpenSpec.ofChange eventlogRefusesWrong)

/-- 'baseboardlaw09.EventlogOrder': WHATEVER THE INPUT: true; the input reads as it did. -/
def eventlogOrderSpec : ChangeSpec := { name := "eventlogOrder", fn := fun _ => fun
  | [d1, d2, d3, d4, d5] => { results := [.lit (.bool true)], args := [d1, d2, d3, d4, d5] }
  | _ => none }
def eventlogOrderRow : OpenClaim := { program := "ytkdadnlleepkfaa", sum := "9a8f426498523ae8e094c26e0bdb7f8fed65b20b5c3a89f5eb9dc867c028b1e2", func := "baseboard/baseboardlaw09.EventlogOrder", spec := "eventlogOrder", unfollowed := true, recurses := true, apart := false }
def EventlogOrderSaid : Prop := eventlogOrderRow.holds Try.pinned (OpenSpec.ofChange eventlogOrderSpec)

/-- ITS FALSE NEIGHBOUR: 'it returns false'. Refute it at one input. -/
def eventlogOrderWrong : ChangeSpec := { name := "eventlogOrder", fn := fun _ => fun
  | [d1, d2, d3, d4, d5] => { results := [.lit (.bool false)], args := [d1, d2, d3, d4, d5] }
  | _ => none }
def EventlogOrderWrongFalsely : Prop := eventlogOrderRow.holds Try.pinned (OpenSpec.ofChange eventlogOrderWrong)

/-- 'baseboardlaw09.EventlogAtomic': WHATEVER THE INPUT: true; the input reads as it did. -/
def eventlogAtomicSpec : ChangeSpec := { name := "eventlogAtomic", fn := fun _ => fun
  | [d1, d2, d3, d4, d5, d6, d7] => { results := [.lit (.bool true)], args := [d1, d2, d3, d4, d5, d6, d7] }
  | _ => none }
def eventlogAtomicRow : OpenClaim := { program := "ytkdadnlleepkfaa", sum := "9a8f426498523ae8e094c26e0bdb7f8fed65b20b5c3a89f5eb9dc867c028b1e2", func := "baseboard/baseboardlaw09.EventlogAtomic", spec := "eventlogAtomic", unfollowed := true, recurses := true, apart := false }
def EventlogAtomicSaid : Prop := eventlogAtomicRow.holds Try.pinned (OpenSpec.ofChange eventlogAtomicSpec)

/-- ITS FALSE NEIGHBOUR: 'it returns false'. Refute it at one input. -/
def eventlogAtomicWrong : ChangeSpec := { name := "eventlogAtomic", fn := fun _ => fun
  | [d1, d2, d3, d4, d5, d6, d7] => { results := [.lit (.bool false)], args := [d1, d2, d3, d4, d5, d6, d7] }
  | _ => none }
def EventlogAtomicWrongFalsely : Prop := eventlogAtomicRow.holds Try.pinned (OpenSpec.ofChange eventlogAtomicWrong)

/-- 'baseboardlaw09.EventlogWalks': WHATEVER THE INPUT: true; the input reads as it did. -/
def eventlogWalksSpec : ChangeSpec := { name := "eventlogWalks", fn := fun _ => fun
  | [d1, d2, d3, d4, d5, d6] => { results := [.lit (.bool true)], args := [d1, d2, d3, d4, d5, d6] }
  | _ => none }
def eventlogWalksRow : OpenClaim := { program := "ytkdadnlleepkfaa", sum := "9a8f426498523ae8e094c26e0bdb7f8fed65b20b5c3a89f5eb9dc867c028b1e2", func := "baseboard/baseboardlaw09.EventlogWalks", spec := "eventlogWalks", unfollowed := true, recurses := true, apart := false }
def EventlogWalksSaid : Prop := eventlogWalksRow.holds Try.pinned (OpenSpec.ofChange eventlogWalksSpec)

/-- ITS FALSE NEIGHBOUR: 'it returns false'. Refute it at one input. -/
def eventlogWalksWrong : ChangeSpec := { name := "eventlogWalks", fn := fun _ => fun
  | [d1, d2, d3, d4, d5, d6] => { results := [.lit (.bool false)], args := [d1, d2, d3, d4, d5, d6] }
  | _ => none }
def EventlogWalksWrongFalsely : Prop := eventlogWalksRow.holds Try.pinned (OpenSpec.ofChange eventlogWalksWrong)

/-- 'baseboardlaw09.EventlogOpens': WHATEVER THE INPUT: true; the input reads as it did. -/
def eventlogOpensSpec : ChangeSpec := { name := "eventlogOpens", fn := fun _ => fun
  | [d1, d2, d3, d4, d5, d6] => { results := [.lit (.bool true)], args := [d1, d2, d3, d4, d5, d6] }
  | _ => none }
def eventlogOpensRow : OpenClaim := { program := "ytkdadnlleepkfaa", sum := "9a8f426498523ae8e094c26e0bdb7f8fed65b20b5c3a89f5eb9dc867c028b1e2", func := "baseboard/baseboardlaw09.EventlogOpens", spec := "eventlogOpens", unfollowed := true, recurses := true, apart := false }
def EventlogOpensSaid : Prop := eventlogOpensRow.holds Try.pinned (OpenSpec.ofChange eventlogOpensSpec)

/-- ITS FALSE NEIGHBOUR: 'it returns false'. Refute it at one input. -/
def eventlogOpensWrong : ChangeSpec := { name := "eventlogOpens", fn := fun _ => fun
  | [d1, d2, d3, d4, d5, d6] => { results := [.lit (.bool false)], args := [d1, d2, d3, d4, d5, d6] }
  | _ => none }
def EventlogOpensWrongFalsely : Prop := eventlogOpensRow.holds Try.pinned (OpenSpec.ofChange eventlogOpensWrong)

/-- 'baseboardlaw09.EventlogClears': WHATEVER THE INPUT: true; the input reads as it did. -/
def eventlogClearsSpec : ChangeSpec := { name := "eventlogClears", fn := fun _ => fun
  | [d1, d2, d3, d4, d5, d6, d7, d8] => { results := [.lit (.bool true)], args := [d1, d2, d3, d4, d5, d6, d7, d8] }
  | _ => none }
def eventlogClearsRow : OpenClaim := { program := "ytkdadnlleepkfaa", sum := "9a8f426498523ae8e094c26e0bdb7f8fed65b20b5c3a89f5eb9dc867c028b1e2", func := "baseboard/baseboardlaw09.EventlogClears", spec := "eventlogClears", unfollowed := true, recurses := true, apart := false }
def EventlogClearsSaid : Prop := eventlogClearsRow.holds Try.pinned (OpenSpec.ofChange eventlogClearsSpec)

/-- ITS FALSE NEIGHBOUR: 'it returns false'. Refute it at one input. -/
def eventlogClearsWrong : ChangeSpec := { name := "eventlogClears", fn := fun _ => fun
  | [d1, d2, d3, d4, d5, d6, d7, d8] => { results := [.lit (.bool false)], args := [d1, d2, d3, d4, d5, d6, d7, d8] }
  | _ => none }
def EventlogClearsWrongFalsely : Prop := eventlogClearsRow.holds Try.pinned (OpenSpec.ofChange eventlogClearsWrong)

/-- 'baseboardlaw09.EventlogEnds': WHATEVER THE INPUT: true; the input reads as it did. -/
def eventlogEndsSpec : ChangeSpec := { name := "eventlogEnds", fn := fun _ => fun
  | [d1, d2, d3, d4, d5, d6] => { results := [.lit (.bool true)], args := [d1, d2, d3, d4, d5, d6] }
  | _ => none }
def eventlogEndsRow : OpenClaim := { program := "ytkdadnlleepkfaa", sum := "9a8f426498523ae8e094c26e0bdb7f8fed65b20b5c3a89f5eb9dc867c028b1e2", func := "baseboard/baseboardlaw09.EventlogEnds", spec := "eventlogEnds", unfollowed := true, recurses := true, apart := false }
def EventlogEndsSaid : Prop := eventlogEndsRow.holds Try.pinned (OpenSpec.ofChange eventlogEndsSpec)

/-- ITS FALSE NEIGHBOUR: 'it returns false'. Refute it at one input. -/
def eventlogEndsWrong : ChangeSpec := { name := "eventlogEnds", fn := fun _ => fun
  | [d1, d2, d3, d4, d5, d6] => { results := [.lit (.bool false)], args := [d1, d2, d3, d4, d5, d6] }
  | _ => none }
def EventlogEndsWrongFalsely : Prop := eventlogEndsRow.holds Try.pinned (OpenSpec.ofChange eventlogEndsWrong)

/-- 'baseboardlaw09.EventlogPlays': WHATEVER THE INPUT: true; the input reads as it did. -/
def eventlogPlaysSpec : ChangeSpec := { name := "eventlogPlays", fn := fun _ => fun
  | [d1, d2, d3, d4] => { results := [.lit (.bool true)], args := [d1, d2, d3, d4] }
  | _ => none }
def eventlogPlaysRow : OpenClaim := { program := "ytkdadnlleepkfaa", sum := "9a8f426498523ae8e094c26e0bdb7f8fed65b20b5c3a89f5eb9dc867c028b1e2", func := "baseboard/baseboardlaw09.EventlogPlays", spec := "eventlogPlays", unfollowed := true, recurses := true, apart := false }
def EventlogPlaysSaid : Prop := eventlogPlaysRow.holds Try.pinned (OpenSpec.ofChange eventlogPlaysSpec)

/-- ITS FALSE NEIGHBOUR: 'it returns false'. Refute it at one input. -/
def eventlogPlaysWrong : ChangeSpec := { name := "eventlogPlays", fn := fun _ => fun
  | [d1, d2, d3, d4] => { results := [.lit (.bool false)], args := [d1, d2, d3, d4] }
  | _ => none }
def EventlogPlaysWrongFalsely : Prop := eventlogPlaysRow.holds Try.pinned (OpenSpec.ofChange eventlogPlaysWrong)

/- THE SECOND FORM. 'bulk': how many values and letters a reading holds, each counted each time it is reached (what is shared counts as often as it is met; a slice's spare places count too). A statement '..UptoSaid' is the law's where the arguments, and the package variables that the reading takes, are together of bulk at most 1048576: NARROWER than '..Said'. Prove '..Said' where nothing that the law and all that it calls make is longer than what came in: it says more and counts as full. Else prove '..UptoSaid'. A law counts once. -/
mutual
def uptoBulk {H : Type} : DataW H → Nat
  | .lit (.string bytes) => bytes.length + 1
  | .lit _ => 1
  | .nil => 1
  | .ptr d => uptoBulk d + 1
  | .slice elems spare => uptoBulkAll elems + uptoBulkAll spare + 1
  | .agg parts => uptoBulkAll parts + 1
  | .iface _ d => uptoBulk d + 1
  | .map entries => uptoBulkEntries entries + 1
  | .held _ => 1
def uptoBulkAll {H : Type} : List (DataW H) → Nat
  | [] => 0
  | d :: r => uptoBulk d + uptoBulkAll r
def uptoBulkEntries {H : Type} : List (Lit × DataW H) → Nat
  | [] => 0
  | x :: r => uptoBulkEntry x + uptoBulkEntries r
def uptoBulkEntry {H : Type} : Lit × DataW H → Nat
  | (.string bytes, d) => bytes.length + uptoBulk d + 1
  | (_, d) => uptoBulk d + 1
 end
def uptoSmall : (H : Type) → List (DataW H) → Bool := fun _ ds => decide (uptoBulkAll ds ≤ 1048576)
def OpenSpec.upto (s : _root_.Go.ChangeSpec) : _root_.Go.OpenSpec := { _root_.Go.OpenSpec.ofChange s with cond := some uptoSmall }

/-- 'baseboardlaw09.EventlogRefuses', WHERE WHAT IT READS IS OF BULK AT MOST 1048576: true; the input reads as it did. -/
def eventlogRefusesUptoRow : OpenClaim := { program := "ytkdadnlleepkfaa", sum := "9a8f426498523ae8e094c26e0bdb7f8fed65b20b5c3a89f5eb9dc867c028b1e2", func := "baseboard/baseboardlaw09.EventlogRefuses", spec := "eventlogRefuses", unfollowed := true, recurses := true, apart := false, narrowed := true }
def EventlogRefusesUptoSaid : Prop := eventlogRefusesUptoRow.holds Try.pinned (OpenSpec.upto eventlogRefusesSpec)

/-- 'baseboardlaw09.EventlogOrder', WHERE WHAT IT READS IS OF BULK AT MOST 1048576: true; the input reads as it did. -/
def eventlogOrderUptoRow : OpenClaim := { program := "ytkdadnlleepkfaa", sum := "9a8f426498523ae8e094c26e0bdb7f8fed65b20b5c3a89f5eb9dc867c028b1e2", func := "baseboard/baseboardlaw09.EventlogOrder", spec := "eventlogOrder", unfollowed := true, recurses := true, apart := false, narrowed := true }
def EventlogOrderUptoSaid : Prop := eventlogOrderUptoRow.holds Try.pinned (OpenSpec.upto eventlogOrderSpec)

/-- 'baseboardlaw09.EventlogAtomic', WHERE WHAT IT READS IS OF BULK AT MOST 1048576: true; the input reads as it did. -/
def eventlogAtomicUptoRow : OpenClaim := { program := "ytkdadnlleepkfaa", sum := "9a8f426498523ae8e094c26e0bdb7f8fed65b20b5c3a89f5eb9dc867c028b1e2", func := "baseboard/baseboardlaw09.EventlogAtomic", spec := "eventlogAtomic", unfollowed := true, recurses := true, apart := false, narrowed := true }
def EventlogAtomicUptoSaid : Prop := eventlogAtomicUptoRow.holds Try.pinned (OpenSpec.upto eventlogAtomicSpec)

/-- 'baseboardlaw09.EventlogWalks', WHERE WHAT IT READS IS OF BULK AT MOST 1048576: true; the input reads as it did. -/
def eventlogWalksUptoRow : OpenClaim := { program := "ytkdadnlleepkfaa", sum := "9a8f426498523ae8e094c26e0bdb7f8fed65b20b5c3a89f5eb9dc867c028b1e2", func := "baseboard/baseboardlaw09.EventlogWalks", spec := "eventlogWalks", unfollowed := true, recurses := true, apart := false, narrowed := true }
def EventlogWalksUptoSaid : Prop := eventlogWalksUptoRow.holds Try.pinned (OpenSpec.upto eventlogWalksSpec)

/-- 'baseboardlaw09.EventlogOpens', WHERE WHAT IT READS IS OF BULK AT MOST 1048576: true; the input reads as it did. -/
def eventlogOpensUptoRow : OpenClaim := { program := "ytkdadnlleepkfaa", sum := "9a8f426498523ae8e094c26e0bdb7f8fed65b20b5c3a89f5eb9dc867c028b1e2", func := "baseboard/baseboardlaw09.EventlogOpens", spec := "eventlogOpens", unfollowed := true, recurses := true, apart := false, narrowed := true }
def EventlogOpensUptoSaid : Prop := eventlogOpensUptoRow.holds Try.pinned (OpenSpec.upto eventlogOpensSpec)

/-- 'baseboardlaw09.EventlogClears', WHERE WHAT IT READS IS OF BULK AT MOST 1048576: true; the input reads as it did. -/
def eventlogClearsUptoRow : OpenClaim := { program := "ytkdadnlleepkfaa", sum := "9a8f426498523ae8e094c26e0bdb7f8fed65b20b5c3a89f5eb9dc867c028b1e2", func := "baseboard/baseboardlaw09.EventlogClears", spec := "eventlogClears", unfollowed := true, recurses := true, apart := false, narrowed := true }
def EventlogClearsUptoSaid : Prop := eventlogClearsUptoRow.holds Try.pinned (OpenSpec.upto eventlogClearsSpec)

/-- 'baseboardlaw09.EventlogEnds', WHERE WHAT IT READS IS OF BULK AT MOST 1048576: true; the input reads as it did. -/
def eventlogEndsUptoRow : OpenClaim := { program := "ytkdadnlleepkfaa", sum := "9a8f426498523ae8e094c26e0bdb7f8fed65b20b5c3a89f5eb9dc867c028b1e2", func := "baseboard/baseboardlaw09.EventlogEnds", spec := "eventlogEnds", unfollowed := true, recurses := true, apart := false, narrowed := true }
def EventlogEndsUptoSaid : Prop := eventlogEndsUptoRow.holds Try.pinned (OpenSpec.upto eventlogEndsSpec)

/-- 'baseboardlaw09.EventlogPlays', WHERE WHAT IT READS IS OF BULK AT MOST 1048576: true; the input reads as it did. -/
def eventlogPlaysUptoRow : OpenClaim := { program := "ytkdadnlleepkfaa", sum := "9a8f426498523ae8e094c26e0bdb7f8fed65b20b5c3a89f5eb9dc867c028b1e2", func := "baseboard/baseboardlaw09.EventlogPlays", spec := "eventlogPlays", unfollowed := true, recurses := true, apart := false, narrowed := true }
def EventlogPlaysUptoSaid : Prop := eventlogPlaysUptoRow.holds Try.pinned (OpenSpec.upto eventlogPlaysSpec)

end Rows
end Go.Proofs.Ytkdadnlleepkfaa
