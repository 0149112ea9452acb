/- The sanity check of the statements about sensor records, and light: contracts. -/
import Derived.Test.YtokokojmeepoeaaEncodeD
import Derived.Test.YtokokojmeepoeaaBld
namespace Go.Proofs.Ytokokojmeepoeaa
open Go.RowKit

/-- The sensor of the example. -/
def exK : Sen := ⟨2, 37, 0, ⟨#[80]⟩, 0, 0, true, ⟨0, false, 0, 0, 0, 0, .slice none 0 0⟩, 0, 0, 0, 0, 0, 0, 0, 0, 0, 1, 1, 1, false, 1⟩
theorem exK_is (w : World) : IsSen w exK [] where
  conv := ⟨RdPts.nil w, ⟨by simp, fun i => by simp [default], fun i => by simp [default, I64]⟩, by constructor <;> decide, by constructor <;> decide, by constructor <;> decide, by constructor <;> decide, by constructor <;> decide⟩
  number := by decide
  type := by decide
  unit := by decide
  name := by decide
  eid := by decide
  einst := by decide
  mask := by decide
  raw := fun i => by
    rcases Nat.lt_or_ge i 6 with h | h
    · match i, h with
      | 0, _ | 1, _ | 2, _ | 3, _ | 4, _ | 5, _ => decide
    · unfold Sen.raw; rw [List.getD_eq_getElem?_getD, List.getElem?_eq_none (by simpa using h)]; decide
  hl := by decide
  hu := by decide
  states := by decide
  asrt := by decide
  deas := by decide
  samples := by constructor <;> decide
theorem exK_one : exK.cells.all (·.oneCell') = true := by simp [exK, Sen.cells, Value.oneCell']
theorem exK_valid : validB exK [] = true := by decide +kernel
theorem exK_bytes : seal8 (bodyD exK) = [1, 2, 37, 0, 0, 0, 5, 1, 80, 1, 0, 1, 0, 1, 0, 127] := by decide +kernel
set_option maxRecDepth 100000 in
set_option maxHeartbeats 1000000 in
theorem awakeS_ok (w : World) :
    Calls Try.prog 44 #[] w fun e w' => e = .returned (.bool true) ∧ Mods [] w w' := by
  have HV := Lib.hid exK_valid
  go_enter Try.func44, Try.ntmps44
  go_wp2_with (first
    | (refine wpList_load_sen rfl (.tmp 1) rfl HB.out (by rfl) ?_)
    | (refine wpList_store_row (cs := exK.cells) rfl 32 (.tmp 1) (.tmp 4) rfl (heap_alloc_new w _) (by rfl) (by rfl) rfl exK.infoS exK_one ?_; intro w2 R2 M2; have HB := Lib.hid (show SenBox w2 w.heap.size exK from ⟨R2⟩); have HM : Hid (Mods [] w w2) := Lib.hid ((Mods.refl.alloc _).comp M2 fun k hk => by simp at hk; subst hk; exact .inr (Nat.le_refl _)); clear M2 R2))
  refine (encodeD_ok w2 exK [] (exK_is _) rfl HV.out).mono ?_
  rw [exK_bytes]
  rintro e w3 ⟨v, rfl, O, M3⟩
  have HB3 := Lib.hid (HB.out.mods0 M3)
  have HM3 := Lib.hid (HM.out.trans M3)
  have HR := Lib.hid (Rd.own O)
  clear O M3
  go_wp2_with fail
  have MA := (Mods.refl (S := []) (w := w3)).alloc (.cells #[.int .u8 1, .int .u8 2, .int .u8 37, .int .u8 0, .int .u8 0, .int .u8 0, .int .u8 5, .int .u8 1, .int .u8 80, .int .u8 1, .int .u8 0, .int .u8 1, .int .u8 0, .int .u8 1, .int .u8 0, .int .u8 127] 5)
  have HLIT : Rd (w3.alloc (.cells #[.int .u8 1, .int .u8 2, .int .u8 37, .int .u8 0, .int .u8 0, .int .u8 0, .int .u8 5, .int .u8 1, .int .u8 80, .int .u8 1, .int .u8 0, .int .u8 1, .int .u8 0, .int .u8 1, .int .u8 0, .int .u8 127] 5)) (.slice (some ⟨w3.heap.size, 0, none⟩) 16 16) (u8s [1, 2, 37, 0, 0, 0, 5, 1, 80, 1, 0, 1, 0, 1, 0, 127]) := Rd.own (base := w3.heap.size) (World.ownsRow_lit w3 #[.int .u8 1, .int .u8 2, .int .u8 37, .int .u8 0, .int .u8 0, .int .u8 0, .int .u8 5, .int .u8 1, .int .u8 80, .int .u8 1, .int .u8 0, .int .u8 1, .int .u8 0, .int .u8 1, .int .u8 0, .int .u8 127] 16 (Nat.le_refl _) (by decide) rfl)
  refine (same_ok _ _ _ _ _ (HR.out.mods0 MA) HLIT).mono ?_
  rintro e w4 ⟨rfl, n4, rfl⟩
  have MB := MA.drewN n4
  have HB4 := Lib.hid (HB3.out.mods0 MB)
  have HM4 := Lib.hid (HM3.out.trans MB)
  generalize (w3.alloc (.cells #[.int .u8 1, .int .u8 2, .int .u8 37, .int .u8 0, .int .u8 0, .int .u8 0, .int .u8 5, .int .u8 1, .int .u8 80, .int .u8 1, .int .u8 0, .int .u8 1, .int .u8 0, .int .u8 1, .int .u8 0, .int .u8 127] 5)).drewN n4 = w4 at HB4 HM4 ⊢
  clear MA MB HLIT HR
  rw [show (([1, 2, 37, 0, 0, 0, 5, 1, 80, 1, 0, 1, 0, 1, 0, 127] : List Int) == [1, 2, 37, 0, 0, 0, 5, 1, 80, 1, 0, 1, 0, 1, 0, 127]) = true by decide]
  go_wp2_with (refine wpList_load_senG (by rfl) (.tmp 1) rfl HB4.out (by rfl) ?_)
  refine (valid_ok w4 exK [] (exK_is _)).mono ?_
  rw [HV.out]
  rintro e w5 ⟨rfl, M5⟩
  go_wp2
  go_ret
  exact ⟨rfl, HM4.out.trans M5⟩
end Go.Proofs.Ytokokojmeepoeaa
