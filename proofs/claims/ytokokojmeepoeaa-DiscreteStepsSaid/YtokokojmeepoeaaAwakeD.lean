/- The sanity check of the statements about discrete sensors: contract. -/
import Derived.Test.YtokokojmeepoeaaDApply
import Derived.Test.YtokokojmeepoeaaBld
namespace Go.Proofs.Ytokokojmeepoeaa
open Go.RowKit

/-- The sensor of the example. -/
def exD : Sen := ⟨0, 0, 0, ⟨#[100]⟩, 0, 0, true, ⟨0, false, 0, 0, 0, 0, .slice none 0 0⟩, 0, 0, 0, 0, 0, 0, 0, 0, 0, 7, 0, 0, false, 1⟩
theorem exD_is (w : World) : IsSen w exD [] where
  conv := ⟨RdPts.nil w, ⟨by simp, fun i => by simp [default], fun i => by simp [default, I64]⟩, by constructor <;> decide, by constructor <;> decide, by constructor <;> decide, by constructor <;> decide, by constructor <;> decide⟩
  number := by decide
  type := by decide
  unit := by decide
  name := by decide
  eid := by decide
  einst := by decide
  mask := by decide
  raw := fun i => by
    rcases Nat.lt_or_ge i 6 with h | h
    · match i, h with
      | 0, _ | 1, _ | 2, _ | 3, _ | 4, _ | 5, _ => decide
    · unfold Sen.raw; rw [List.getD_eq_getElem?_getD, List.getElem?_eq_none (by simpa using h)]; decide
  hl := by decide
  hu := by decide
  states := by decide
  asrt := by decide
  deas := by decide
  samples := by constructor <;> decide
theorem exD_one : exD.cells.all (·.oneCell') = true := by simp [exD, Sen.cells, Value.oneCell']
theorem exD_step : dstepN exD [] 5 6 = (6, [⟨0, false⟩, ⟨1, true⟩], 0) := by decide +kernel
set_option maxRecDepth 100000 in
set_option maxHeartbeats 1000000 in
theorem awakeD_ok (w : World) :
    Calls Try.prog 21 #[] w fun e w' => e = .returned (.bool true) ∧ Mods [] w w' := by
  have HS := Lib.hid exD_step
  go_enter Try.func21, Try.ntmps21
  go_wp2_with (first
    | (refine wpList_load_sen rfl (.tmp 1) rfl HB.out (by rfl) ?_)
    | (refine wpList_store_row (cs := exD.cells) rfl 32 (.tmp 1) (.tmp 5) rfl (heap_alloc_new w _) (by rfl) (by rfl) rfl exD.infoS exD_one ?_; intro w2 R2 M2; have HB := Lib.hid (show SenBox w2 w.heap.size exD from ⟨R2⟩)))
  refine (dstep_ok w2 exD [] (exD_is _) 5 6 (by omega) (by omega)).mono ?_
  rw [HS.out]
  rintro e w3 ⟨v, rfl, O, M3⟩
  have MM := Lib.hid (((Mods.refl.alloc _).comp M2 fun k hk => by simp at hk; subst hk; exact .inr (Nat.le_refl _)).trans M3)
  obtain ⟨ad, cap, rfl, hc1, hc2, hc⟩ := O.rd
  obtain ⟨b1, o1, rfl, x0, x1⟩ := hc 0 (by simp)
  obtain ⟨b2, o2, he, y0, y1⟩ := hc 1 (by simp)
  injection he with he1
  injection he1 with he2 he3
  subst he2 he3
  simp at x0 x1 y0 y1
  clear hc
  go_wp2
  go_ret
  exact ⟨rfl, MM.out⟩
end Go.Proofs.Ytokokojmeepoeaa
