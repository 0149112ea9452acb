/- law04.awake and light: contracts. -/
import Derived.Test.YtgjjmiaiclhidaaValueW
import Derived.Test.YtgjjmiaiclhidaaMadeConv
namespace Go.Proofs.Ytgjjmiaiclhidaa
open Go.RowKit

def exL : Conv := ⟨1, false, 5, -10, 1, -2, .slice none 0 0⟩
def exT (g : Nat) : Conv := ⟨5, false, 0, 0, 0, 0, .slice (some ⟨g, 0, none⟩) 2 2⟩
def exP : List Pt := [⟨0, 0⟩, ⟨10, 1000000⟩]
theorem exP_ok : PtsOk exP := by
  refine ⟨by simp [exP], fun i => ?_, fun i => ?_⟩
  · match i with
    | 0 | 1 => decide
    | n + 2 => simp [exP, default]
  · match i with
    | 0 | 1 => constructor <;> decide
    | n + 2 => constructor <;> simp [exP, default]
theorem isLit {w : World} {C : Conv} {P : List Pt} (rd : RdPts w C.pts P) (pok : PtsOk P) (h : (-1000000 ≤ C.form ∧ C.form ≤ 1000000) ∧ (-1000000 ≤ C.m ∧ C.m ≤ 1000000) ∧ (-1000000 ≤ C.b ∧ C.b ≤ 1000000) ∧ (-1000000 ≤ C.k1 ∧ C.k1 ≤ 1000000) ∧ (-1000000 ≤ C.k2 ∧ C.k2 ≤ 1000000)) : IsConv w C P :=
  ⟨rd, pok, i64_small h.1, i64_small h.2.1, i64_small h.2.2.1, i64_small h.2.2.2.1, i64_small h.2.2.2.2⟩
theorem exL_val : valueI exL [] 100 = (4000000, 0) := by decide
theorem exT_val (g : Nat) : valueI (exT g) exP 3 = (300000, 0) := by
  have : valueI (exT g) exP 3 = valueI (exT 0) exP 3 := rfl
  rw [this]; decide
set_option maxRecDepth 100000 in
set_option maxHeartbeats 2000000 in
theorem awakeC_ok (w : World) : Calls Try.prog 40 #[] w fun e w' => e = .returned (.bool true) ∧ Mods [] w w' := by
  have HV1 := Lib.hid (fun W => value_ok W exL [] 100 (isLit (RdPts.nil W) PtsOk.nil (by decide)) (by decide))
  rw [exL_val] at HV1
  have HN := Lib.hid (fun W => number_ok true 255 (by decide) W)
  rw [show numI true 255 = -1 from rfl] at HN
  go_enter Try.func40, Try.ntmps40
  go_wp2_with fail
  refine (HV1.out _).mono ?_
  rintro e w1 ⟨rfl, M1⟩
  have HM1 := Lib.hid M1
  clear M1
  go_wp2_with fail
  have R2 := heap_alloc_new w1 (.cells #[.int .u8 0, .int .i64 0, .int .u8 10, .int .i64 1000000] 72)
  have M2 := HM1.out.trans ((Mods.refl (S := []) (w := w1)).alloc (.cells #[.int .u8 0, .int .i64 0, .int .u8 10, .int .i64 1000000] 72))
  generalize w1.alloc (.cells #[.int .u8 0, .int .i64 0, .int .u8 10, .int .i64 1000000] 72) = w2 at R2 M2 ⊢
  generalize w1.heap.size = g at R2 ⊢
  have RD : RdPts w2 (exT g).pts exP := ⟨_, 2, rfl, by decide, by decide, fun i hi => ⟨g, 0, rfl, by
    rw [Nat.zero_add, cell_blk R2]
    match i, hi with
    | 0, _ | 1, _ => rfl, by
    rw [Nat.zero_add, cell_blk R2]
    match i, hi with
    | 0, _ | 1, _ => rfl⟩⟩
  have HV2 := value_ok w2 (exT g) exP 3 (isLit RD exP_ok (by simp [exT])) (by decide)
  rw [exT_val] at HV2
  refine HV2.mono ?_
  rintro e w3 ⟨rfl, M3⟩
  have HM3 := Lib.hid (M2.trans M3)
  clear M3 M2 R2 RD HV2
  go_wp2_with fail
  refine (HN.out _).mono ?_
  rintro e w' ⟨rfl, rfl⟩
  go_wp2_with fail
  go_ret
  exact ⟨rfl, HM3.out⟩
set_option maxRecDepth 100000 in
theorem cLight_ok (w : World) (C : Conv) (P : List Pt) (hv : RdPts w C.pts P) :
    Calls Try.prog 39 #[.agg C.cells] w fun e w' => e = .returned (.bool (decide (P.length ≤ 30))) ∧ Mods [] w w' := by
  have M0 := Lib.hid ((Mods.refl (S := []) (w := w)).alloc (.cells C.cells 26))
  obtain ⟨ad, cap, hpts⟩ := hv.len
  have c6 : C.cells[6]? = some (.slice ad P.length cap) := by rw [← hpts]; rfl
  clear hpts hv
  go_enter Try.func39, Try.ntmps39
  go_wp2_with fail
  go_ret
  exact ⟨ret_bool (by simp; omega), M0.out⟩
end Go.Proofs.Ytgjjmiaiclhidaa
