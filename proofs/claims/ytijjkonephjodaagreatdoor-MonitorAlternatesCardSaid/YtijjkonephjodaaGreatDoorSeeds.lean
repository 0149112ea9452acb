/- Slices of slices of ints: how they read, and that came in. -/
import Derived.Test.YtijjkonephjodaaGreatDoorJoAL
import Derived.Test.YtijjkonephjodaaGreatDoorJoAG
import Derived.OpenShut
namespace Go.Proofs.YtijjkonephjodaaGreatDoor
open Go.RowKit Go.ChangeShapes Go.WideShapes Go.Deep
set_option linter.unusedVariables false
set_option linter.unusedSimpArgs false
/-- A slice as an element. -/
structure SlV where
  ad : Option Addr
  n : Nat
  cap : Nat
def SlV.val (s : SlV) : Value := .slice s.ad s.n s.cap
def slE : Elt SlV := ⟨22, 57, 1, fun s => [s.val], ⟨none, 0, 0⟩⟩
theorem Tryz.infoSI : (Tryz.prog.info? 22).map (fun i => (i.zero, i.size, i.bytes)) = some (some (.slice none 0 0), 1, 24) := by kernel_rfl
theorem Tryz.ceSI : Tryz.prog.cellsOf 22 = 1 := by kernel_rfl
theorem slOk : slE.Ok Tryz.prog := by
  refine ⟨fun _ => rfl, fun a v hv => ?_, by decide, Tryz.underlying57, ?_⟩
  · simp [slE, SlV.val] at hv; subst hv; rfl
  · obtain ⟨i0, hi, hz0, hz1, hz2⟩ := info_parts Tryz.infoSI
    exact ⟨i0, _, hi, hz0, hz1, by rw [hz2]; decide, rfl⟩
/-- An element reads as a row of ints. -/
def SeedOk (w : World) (s : SlV) : Prop := ∃ L : List Int, Rd w s.val (i64s L) ∧ L.length = s.n ∧ ∀ i, -9223372036854775808 ≤ L.getD i 0 ∧ L.getD i 0 ≤ 9223372036854775807
/-- The slice v reads as rows of ints. -/
def RdSeeds (w : World) (v : Value) (l : List SlV) : Prop := RdE slE w v l ∧ ∀ i, i < l.length → SeedOk w (l.getD i slE.dflt)
theorem SeedOk.mods0 {w w' : World} {s : SlV} (h : SeedOk w s) (M : Mods [] w w') : SeedOk w' s := by
  obtain ⟨L, h1, h2, h3⟩ := h
  exact ⟨L, h1.mods0 M, h2, h3⟩
theorem RdSeeds.mods0 {w w' : World} {v : Value} {l : List SlV} (h : RdSeeds w v l) (M : Mods [] w w') : RdSeeds w' v l := ⟨h.1.mods0 slOk M, fun i hi => (h.2 i hi).mods0 M⟩
section
variable {H : Type} {enc : TypeId × Value → H} {w : World} {base : Nat} {held : Bool} {fuel : Nat} {x : DataW H × List MemPlace}
theorem seed_cells {cs : List Value} (h : DataW.trod enc Tryz.prog w base (fun _ => true) held fuel 22 cs = some x) : ∃ s : SlV, cs = [s.val] ∧ SeedOk w s := by
  rcases open_ints Tryz.underlying22 Tryz.underlying3 (by kernel_rfl) h with ⟨rfl, _⟩ | ⟨a, l, c, zs, rfl, _, hl, hm, hz, _, hcell, hwz⟩
  · exact ⟨⟨none, 0, 0⟩, rfl, [], Rd.nil w, rfl, fun i => by simp⟩
  · have hr : IsRow .i64 w (some a) l c zs := .inr ⟨_, rfl, hl, hm, by simpa using hz, hcell, hwz⟩
    exact ⟨⟨some a, l, c⟩, rfl, zs.take l, hr.rd.1, hr.rd.2, hr.i64⟩
theorem seeds_in {v : Value} (h : DataW.trod enc Tryz.prog w base (fun _ => true) held fuel 57 [v] = some x) : ∃ l, RdSeeds w v l := by
  obtain ⟨l, h1, h2⟩ := elt_in (E := slE) slOk Tryz.ceSI (SeedOk w) (fun n cs x hx => seed_cells hx) h
  exact ⟨l, h1, h2⟩
end
end Go.Proofs.YtijjkonephjodaaGreatDoor
