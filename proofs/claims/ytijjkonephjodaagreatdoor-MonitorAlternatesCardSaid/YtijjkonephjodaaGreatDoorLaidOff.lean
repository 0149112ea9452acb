/- What the listed variable gives the walks: event.offsets lies in block 0; the door's own heap meets the condition. -/
import Derived.Test.YtijjkonephjodaaGreatDoorRows
import Derived.Test.YtijjkonephjodaaGreatDoorMoEv
import Derived.WalkKit
import Derived.ProofKit
import Derived.LaidMore
import Derived.OpenShut
import Derived.Stop.Joined
namespace Go.Proofs.YtijjkonephjodaaGreatDoor
open Go.ChangeShapes Go.WideShapes Go.ChangeAt Go.RowKit
set_option linter.unusedVariables false
set_option linter.unusedSimpArgs false
abbrev laidOff : List (String × DataW Unit) := [("baseboard/event.offsets", Rows.laid_baseboard_event_offsets)]
theorem gOff : Tryz.prog.globalNamed "baseboard/event.offsets" = some 0 := by kernel_rfl
theorem tOff : (Tryz.prog.globals[0]?).map (·.type) = some 35 := by kernel_rfl
set_option maxRecDepth 100000 in
theorem off_of_laid {W : World} (h : laidMetH Tryz.prog laidOff W) : OffAt W := by
  rw [MakeChecks.laidMetH_plain _ _ _ (by kernel_rfl)] at h
  obtain ⟨ps, ⟨g0, t0, cs0, f0, p0, q0, hg0, ht0, hv0, hd0, _⟩, _⟩ := h
  obtain rfl := Option.some.inj (gOff.symm.trans hg0)
  obtain rfl := Option.some.inj (tOff.symm.trans ht0)
  obtain ⟨xs, m1, rfl, hx1, hlen, hn, hel⟩ := DataW.trod_array Tryz.underlying35 hd0
  have c1 : Tryz.prog.cellsOf 5 = 1 := by kernel_rfl
  have hx2 := congrArg (fun x : DataW Unit × List MemPlace => x.1) hx1
  simp only at hx2
  unfold Rows.laid_baseboard_event_offsets at hx2
  injection hx2 with hx3
  intro j hj
  rw [World.var?_cell hg0 hv0 j]
  have h0 := hel j hj
  rw [c1, Nat.mul_one] at h0
  have hj2 : j < xs.length := by omega
  rw [List.getElem?_eq_getElem hj2] at h0
  obtain ⟨k, e1, e2, _⟩ := DataW.trod_int Tryz.underlying5 h0
  have e3 : (xs.map (·.1))[j]? = some (.lit (.int .u8 k)) := by
    rw [List.getElem?_map, List.getElem?_eq_getElem hj2, e2]
    rfl
  rw [← hx3] at e3
  have hk : k = offI.getD j 0 := by
    match j, hj, e3 with
    | 0, _, e3 | 1, _, e3 | 2, _, e3 | 3, _, e3 | 4, _, e3 | 5, _, e3 =>
      simp at e3
      rw [← e3]
      rfl
  rw [← hk]
  have e4 : (cs0.toList.drop j)[0]? = some (.int .u8 k) := by
    have h5 := congrArg (fun l : List Value => l[0]?) e1
    simp only [List.getElem?_take, List.getElem?_cons_zero] at h5
    simpa using h5
  rw [List.getElem?_drop, Nat.add_zero] at e4
  rw [← Array.getElem?_toList]
  exact e4
set_option maxRecDepth 100000 in
theorem door_met (os : Os) (args : Array Value) : laidMetH Tryz.prog laidOff ((World.doorLaid Tryz.prog 400 os).forCall (fun _ _ => 0) ⟨#[], args, []⟩).memory :=
  laidMetH_of_parts3 (fuel := 8) (laidMet_of_run' 8 (by kernel_rfl) (by kernel_rfl)) (by kernel_rfl) (by kernel_rfl)
end Go.Proofs.YtijjkonephjodaaGreatDoor
