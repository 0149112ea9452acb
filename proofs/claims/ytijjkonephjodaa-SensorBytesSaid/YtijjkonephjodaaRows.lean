/-
  No cell of these rows narrows 'for every input' (looked for: loops, veiled, ifaces, maps, wideKeys, modest, calm, conditions, laid).
  DERIVED. THE GIVEN ROWS OF THIS SEAT. 6 by the template 'for every input the law returns true; each argument reads behind the call as it read before'; 0 by the template 'total and deterministic' (their statements: YtijjkonephjodaaTotals.lean).
  GIVEN WITH THE SEED: the statements are not yours to turn. If you find one false, say at which input.
  Laid BY PROGRAM, IN A SANDBOX (cutbox-rows.mjs): the forced cells as the released guide's own fill.sh prints them over the translation d29c6785969a2ce9… (all of the seat's roots in one cut). By AI agents, Wed Nov 11 2026. No macro, syntax, notation, axiom, sorry.
-/
import Derived.Test.YtijjkonephjodaaChecked
import GoSem.Claim
import GoSem.ClaimJoined
import GoSem.ClaimMapViews
import Derived.JoinedTies
import Derived.KernelRfl
namespace Go.Proofs.Ytijjkonephjodaa
/- THE CELL 'sum', in the pinned program and in every row, IS THE sha256 OF THE DUMP (.gsa) THAT YtijjkonephjodaaProg.lean LOADS. Nothing in Lean hashes anything: it is a label: what it is worth is what the hold of that sum in a sandbox is worth. -/
noncomputable def Try.pinned : Pinned := { name := "ytijjkonephjodaa", sum := "d29c6785969a2ce997098440d3b1cb6ff87a32b139b3b4d34faaa45986f9c869", checked := Try.checked }
namespace Rows
def none {H : Type} : Left H := { results := [], args := [] }

/-- 'baseboardlaw10.SensorBytes': WHATEVER THE INPUT: true; the input reads as it did. -/
def sensorBytesSpec : ChangeSpec := { name := "sensorBytes", fn := fun _ => fun
  | [d1, d2, d3] => { results := [.lit (.bool true)], args := [d1, d2, d3] }
  | _ => none }
def sensorBytesRow : OpenClaim := { program := "ytijjkonephjodaa", sum := "d29c6785969a2ce997098440d3b1cb6ff87a32b139b3b4d34faaa45986f9c869", func := "baseboard/baseboardlaw10.SensorBytes", spec := "sensorBytes", unfollowed := true, recurses := true, plainKeys := false, apart := false }
def SensorBytesSaid : Prop := sensorBytesRow.holds Try.pinned (OpenSpec.ofChange sensorBytesSpec)

/-- ITS FALSE NEIGHBOUR: 'it returns false'. Refute it at one input. -/
def sensorBytesWrong : ChangeSpec := { name := "sensorBytes", fn := fun _ => fun
  | [d1, d2, d3] => { results := [.lit (.bool false)], args := [d1, d2, d3] }
  | _ => none }
def SensorBytesWrongFalsely : Prop := sensorBytesRow.holds Try.pinned (OpenSpec.ofChange sensorBytesWrong)

/-- 'baseboardlaw15.EntityChecks': WHATEVER THE INPUT: true; the input reads as it did. -/
def entityChecksSpec : ChangeSpec := { name := "entityChecks", fn := fun _ => fun
  | [d1, d2, d3, d4] => { results := [.lit (.bool true)], args := [d1, d2, d3, d4] }
  | _ => none }
def entityChecksRow : OpenClaim := { program := "ytijjkonephjodaa", sum := "d29c6785969a2ce997098440d3b1cb6ff87a32b139b3b4d34faaa45986f9c869", func := "baseboard/baseboardlaw15.EntityChecks", spec := "entityChecks", unfollowed := true, recurses := true, plainKeys := false, apart := false }
def EntityChecksSaid : Prop := entityChecksRow.holds Try.pinned (OpenSpec.ofChange entityChecksSpec)

/-- ITS FALSE NEIGHBOUR: 'it returns false'. Refute it at one input. -/
def entityChecksWrong : ChangeSpec := { name := "entityChecks", fn := fun _ => fun
  | [d1, d2, d3, d4] => { results := [.lit (.bool false)], args := [d1, d2, d3, d4] }
  | _ => none }
def EntityChecksWrongFalsely : Prop := entityChecksRow.holds Try.pinned (OpenSpec.ofChange entityChecksWrong)

/-- 'baseboardlaw15.EntityTrees': WHATEVER THE INPUT: true; the input reads as it did. -/
def entityTreesSpec : ChangeSpec := { name := "entityTrees", fn := fun _ => fun
  | [d1, d2, d3] => { results := [.lit (.bool true)], args := [d1, d2, d3] }
  | _ => none }
def entityTreesRow : OpenClaim := { program := "ytijjkonephjodaa", sum := "d29c6785969a2ce997098440d3b1cb6ff87a32b139b3b4d34faaa45986f9c869", func := "baseboard/baseboardlaw15.EntityTrees", spec := "entityTrees", unfollowed := true, recurses := true, plainKeys := false, apart := false }
def EntityTreesSaid : Prop := entityTreesRow.holds Try.pinned (OpenSpec.ofChange entityTreesSpec)

/-- ITS FALSE NEIGHBOUR: 'it returns false'. Refute it at one input. -/
def entityTreesWrong : ChangeSpec := { name := "entityTrees", fn := fun _ => fun
  | [d1, d2, d3] => { results := [.lit (.bool false)], args := [d1, d2, d3] }
  | _ => none }
def EntityTreesWrongFalsely : Prop := entityTreesRow.holds Try.pinned (OpenSpec.ofChange entityTreesWrong)

/-- 'baseboardlaw15.EntityRelations': WHATEVER THE INPUT: true; the input reads as it did. -/
def entityRelationsSpec : ChangeSpec := { name := "entityRelations", fn := fun _ => fun
  | [d1, d2, d3] => { results := [.lit (.bool true)], args := [d1, d2, d3] }
  | _ => none }
def entityRelationsRow : OpenClaim := { program := "ytijjkonephjodaa", sum := "d29c6785969a2ce997098440d3b1cb6ff87a32b139b3b4d34faaa45986f9c869", func := "baseboard/baseboardlaw15.EntityRelations", spec := "entityRelations", unfollowed := true, recurses := true, plainKeys := false, apart := false }
def EntityRelationsSaid : Prop := entityRelationsRow.holds Try.pinned (OpenSpec.ofChange entityRelationsSpec)

/-- ITS FALSE NEIGHBOUR: 'it returns false'. Refute it at one input. -/
def entityRelationsWrong : ChangeSpec := { name := "entityRelations", fn := fun _ => fun
  | [d1, d2, d3] => { results := [.lit (.bool false)], args := [d1, d2, d3] }
  | _ => none }
def EntityRelationsWrongFalsely : Prop := entityRelationsRow.holds Try.pinned (OpenSpec.ofChange entityRelationsWrong)

/-- 'baseboardlaw15.EntityAbsent': WHATEVER THE INPUT: true; the input reads as it did. -/
def entityAbsentSpec : ChangeSpec := { name := "entityAbsent", fn := fun _ => fun
  | [d] => { results := [.lit (.bool true)], args := [d] }
  | _ => none }
def entityAbsentRow : OpenClaim := { program := "ytijjkonephjodaa", sum := "d29c6785969a2ce997098440d3b1cb6ff87a32b139b3b4d34faaa45986f9c869", func := "baseboard/baseboardlaw15.EntityAbsent", spec := "entityAbsent", unfollowed := true, recurses := true, plainKeys := false, apart := false }
def EntityAbsentSaid : Prop := entityAbsentRow.holds Try.pinned (OpenSpec.ofChange entityAbsentSpec)

/-- ITS FALSE NEIGHBOUR: 'it returns false'. Refute it at one input. -/
def entityAbsentWrong : ChangeSpec := { name := "entityAbsent", fn := fun _ => fun
  | [d] => { results := [.lit (.bool false)], args := [d] }
  | _ => none }
def EntityAbsentWrongFalsely : Prop := entityAbsentRow.holds Try.pinned (OpenSpec.ofChange entityAbsentWrong)

/-- 'baseboardlaw15.EntityHealth': WHATEVER THE INPUT: true; the input reads as it did. -/
def entityHealthSpec : ChangeSpec := { name := "entityHealth", fn := fun _ => fun
  | [d1, d2] => { results := [.lit (.bool true)], args := [d1, d2] }
  | _ => none }
def entityHealthRow : OpenClaim := { program := "ytijjkonephjodaa", sum := "d29c6785969a2ce997098440d3b1cb6ff87a32b139b3b4d34faaa45986f9c869", func := "baseboard/baseboardlaw15.EntityHealth", spec := "entityHealth", unfollowed := true, recurses := true, plainKeys := false, apart := false }
def EntityHealthSaid : Prop := entityHealthRow.holds Try.pinned (OpenSpec.ofChange entityHealthSpec)

/-- ITS FALSE NEIGHBOUR: 'it returns false'. Refute it at one input. -/
def entityHealthWrong : ChangeSpec := { name := "entityHealth", fn := fun _ => fun
  | [d1, d2] => { results := [.lit (.bool false)], args := [d1, d2] }
  | _ => none }
def EntityHealthWrongFalsely : Prop := entityHealthRow.holds Try.pinned (OpenSpec.ofChange entityHealthWrong)

/- THE SECOND FORM. 'bulk': how many values and letters a reading holds, each counted each time it is reached (what is shared counts as often as it is met; a slice's spare places count too). A statement '..UptoSaid' is the law's where the arguments, and the package variables that the reading takes, are together of bulk at most 1048576: NARROWER than '..Said'. Prove '..Said' where nothing that the law and all that it calls make is longer than what came in: it says more and counts as full. Else prove '..UptoSaid'. A law counts once. -/
mutual
def uptoBulk {H : Type} : DataW H → Nat
  | .lit (.string bytes) => bytes.length + 1
  | .lit _ => 1
  | .nil => 1
  | .ptr d => uptoBulk d + 1
  | .slice elems spare => uptoBulkAll elems + uptoBulkAll spare + 1
  | .agg parts => uptoBulkAll parts + 1
  | .iface _ d => uptoBulk d + 1
  | .map entries => uptoBulkEntries entries + 1
  | .held _ => 1
def uptoBulkAll {H : Type} : List (DataW H) → Nat
  | [] => 0
  | d :: r => uptoBulk d + uptoBulkAll r
def uptoBulkEntries {H : Type} : List (Lit × DataW H) → Nat
  | [] => 0
  | x :: r => uptoBulkEntry x + uptoBulkEntries r
def uptoBulkEntry {H : Type} : Lit × DataW H → Nat
  | (.string bytes, d) => bytes.length + uptoBulk d + 1
  | (_, d) => uptoBulk d + 1
 end
def uptoSmall : (H : Type) → List (DataW H) → Bool := fun _ ds => decide (uptoBulkAll ds ≤ 1048576)
def OpenSpec.upto (s : _root_.Go.ChangeSpec) : _root_.Go.OpenSpec := { _root_.Go.OpenSpec.ofChange s with cond := some uptoSmall }

/-- 'baseboardlaw10.SensorBytes', WHERE WHAT IT READS IS OF BULK AT MOST 1048576: true; the input reads as it did. -/
def sensorBytesUptoRow : OpenClaim := { program := "ytijjkonephjodaa", sum := "d29c6785969a2ce997098440d3b1cb6ff87a32b139b3b4d34faaa45986f9c869", func := "baseboard/baseboardlaw10.SensorBytes", spec := "sensorBytes", unfollowed := true, recurses := true, plainKeys := false, apart := false, narrowed := true }
def SensorBytesUptoSaid : Prop := sensorBytesUptoRow.holds Try.pinned (OpenSpec.upto sensorBytesSpec)

/-- 'baseboardlaw15.EntityChecks', WHERE WHAT IT READS IS OF BULK AT MOST 1048576: true; the input reads as it did. -/
def entityChecksUptoRow : OpenClaim := { program := "ytijjkonephjodaa", sum := "d29c6785969a2ce997098440d3b1cb6ff87a32b139b3b4d34faaa45986f9c869", func := "baseboard/baseboardlaw15.EntityChecks", spec := "entityChecks", unfollowed := true, recurses := true, plainKeys := false, apart := false, narrowed := true }
def EntityChecksUptoSaid : Prop := entityChecksUptoRow.holds Try.pinned (OpenSpec.upto entityChecksSpec)

/-- 'baseboardlaw15.EntityTrees', WHERE WHAT IT READS IS OF BULK AT MOST 1048576: true; the input reads as it did. -/
def entityTreesUptoRow : OpenClaim := { program := "ytijjkonephjodaa", sum := "d29c6785969a2ce997098440d3b1cb6ff87a32b139b3b4d34faaa45986f9c869", func := "baseboard/baseboardlaw15.EntityTrees", spec := "entityTrees", unfollowed := true, recurses := true, plainKeys := false, apart := false, narrowed := true }
def EntityTreesUptoSaid : Prop := entityTreesUptoRow.holds Try.pinned (OpenSpec.upto entityTreesSpec)

/-- 'baseboardlaw15.EntityRelations', WHERE WHAT IT READS IS OF BULK AT MOST 1048576: true; the input reads as it did. -/
def entityRelationsUptoRow : OpenClaim := { program := "ytijjkonephjodaa", sum := "d29c6785969a2ce997098440d3b1cb6ff87a32b139b3b4d34faaa45986f9c869", func := "baseboard/baseboardlaw15.EntityRelations", spec := "entityRelations", unfollowed := true, recurses := true, plainKeys := false, apart := false, narrowed := true }
def EntityRelationsUptoSaid : Prop := entityRelationsUptoRow.holds Try.pinned (OpenSpec.upto entityRelationsSpec)

/-- 'baseboardlaw15.EntityAbsent', WHERE WHAT IT READS IS OF BULK AT MOST 1048576: true; the input reads as it did. -/
def entityAbsentUptoRow : OpenClaim := { program := "ytijjkonephjodaa", sum := "d29c6785969a2ce997098440d3b1cb6ff87a32b139b3b4d34faaa45986f9c869", func := "baseboard/baseboardlaw15.EntityAbsent", spec := "entityAbsent", unfollowed := true, recurses := true, plainKeys := false, apart := false, narrowed := true }
def EntityAbsentUptoSaid : Prop := entityAbsentUptoRow.holds Try.pinned (OpenSpec.upto entityAbsentSpec)

/-- 'baseboardlaw15.EntityHealth', WHERE WHAT IT READS IS OF BULK AT MOST 1048576: true; the input reads as it did. -/
def entityHealthUptoRow : OpenClaim := { program := "ytijjkonephjodaa", sum := "d29c6785969a2ce997098440d3b1cb6ff87a32b139b3b4d34faaa45986f9c869", func := "baseboard/baseboardlaw15.EntityHealth", spec := "entityHealth", unfollowed := true, recurses := true, plainKeys := false, apart := false, narrowed := true }
def EntityHealthUptoSaid : Prop := entityHealthUptoRow.holds Try.pinned (OpenSpec.upto entityHealthSpec)

end Rows
end Go.Proofs.Ytijjkonephjodaa
