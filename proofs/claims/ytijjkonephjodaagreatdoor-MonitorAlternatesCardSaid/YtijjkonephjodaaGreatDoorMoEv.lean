/- Events of changes: Threshold, State, Index, the program's and the reference's: contracts. -/
import Derived.Test.YtijjkonephjodaaGreatDoorJoAL
import Derived.Test.YtijjkonephjodaaGreatDoorJoAB
import Derived.Test.YtijjkonephjodaaGreatDoorJoAJ
import Derived.Test.YtijjkonephjodaaGreatDoorJoAH
import Derived.BigGuardPart
import Derived.Deep.DeepCutAuto
import Derived.Deep.CutBlock
namespace Go.Proofs.YtijjkonephjodaaGreatDoor
open Go.RowKit
set_option linter.unusedVariables false
set_option linter.unusedSimpArgs false
set_option maxRecDepth 100000
def offL : List Nat := [0, 2, 4, 7, 9, 11]
def offI : List Int := [0, 2, 4, 7, 9, 11]
/-- The package's table as it lies. -/
def OffAt (w : World) : Prop := ∀ j, j < 6 → w.cell? ⟨0, j, none⟩ = some (.int .u8 (offI.getD j 0))
theorem OffAt.mods {S : List Nat} {w w' : World} (h : OffAt w) (M : Mods S w w') (h0 : 0 ∉ S) : OffAt w' := fun j hj => M.cell (h j hj) h0
theorem OffAt.mods0 {w w' : World} (h : OffAt w) (M : Mods [] w w') : OffAt w' := h.mods M (by simp)
def thrE (st sn ix : Nat) (asr : Bool) (rd lim : Nat) : Evt := ⟨f16 0, f32 0, f16 32, f8 st, f8 sn, f8 1, !asr, f8 (80 + offL.getD ix 0), f8 rd, f8 lim⟩
def staE (st sn ix : Nat) (asr : Bool) : Evt := ⟨f16 0, f32 0, f16 32, f8 st, f8 sn, f8 111, !asr, f8 ix, f8 255, f8 255⟩
theorem f8v {x : Nat} (h : x < 256) : (((f8 x).val : Nat) : Int) = (x : Int) := by show (((x % 256 : Nat)) : Int) = _; rw [Nat.mod_eq_of_lt h]
theorem offL_le (i : Nat) : offL.getD i 0 ≤ 11 := by
  rcases Nat.lt_or_ge i 6 with h | h
  · match i, h with
    | 0, _ | 1, _ | 2, _ | 3, _ | 4, _ | 5, _ => simp [offL]
  · rw [List.getD_eq_getElem?_getD, List.getElem?_eq_none (by simpa [offL] using h)]; simp
theorem offI_L (i : Nat) : offI.getD i 0 = (offL.getD i 0 : Nat) := by
  rcases Nat.lt_or_ge i 6 with h | h
  · match i, h with
    | 0, _ | 1, _ | 2, _ | 3, _ | 4, _ | 5, _ => rfl
  · rw [List.getD_eq_getElem?_getD, List.getD_eq_getElem?_getD, List.getElem?_eq_none (by simpa [offI] using h), List.getElem?_eq_none (by simpa [offL] using h)]; rfl
theorem thrE_cells {st sn ix rd lim : Nat} {asr : Bool} (h1 : st < 256) (h2 : sn < 256) (h3 : rd < 256) (h4 : lim < 256) :
    (thrE st sn ix asr rd lim).cells.toArray = #[.int .u16 0, .int .u32 0, .int .u16 32, .int .u8 st, .int .u8 sn, .int .u8 1, .bool (!asr), .int .u8 ((80 + offL.getD ix 0 : Nat) : Int), .int .u8 rd, .int .u8 lim] := by
  have h5 : 80 + offL.getD ix 0 < 256 := by have := offL_le ix; omega
  simp only [thrE, Evt.cells, f8v h1, f8v h2, f8v h3, f8v h4, f8v h5]
  rfl
theorem staE_cells {st sn ix : Nat} {asr : Bool} (h1 : st < 256) (h2 : sn < 256) (h3 : ix < 256) :
    (staE st sn ix asr).cells.toArray = #[.int .u16 0, .int .u32 0, .int .u16 32, .int .u8 st, .int .u8 sn, .int .u8 111, .bool (!asr), .int .u8 ix, .int .u8 255, .int .u8 255] := by
  simp only [staE, Evt.cells, f8v h1, f8v h2, f8v h3]
  rfl
abbrev zEv : Array Value := #[.int .u16 0, .int .u32 0, .int .u16 0, .int .u8 0, .int .u8 0, .int .u8 0, .bool false, .int .u8 0, .int .u8 0, .int .u8 0]
set_option maxHeartbeats 2000000 in
theorem staE_ok (w : World) (st sn ix : Nat) (asr : Bool) (h1 : st < 256) (h2 : sn < 256) (h3 : ix ≤ 14) :
    Calls Tryz.prog 87 #[.int .u8 (st : Nat), .int .u8 (sn : Nat), .int .i64 (ix : Nat), .bool asr] w fun e w' => e = .returned (.tuple #[.agg (staE st sn ix asr).cells.toArray, .int .i64 0]) ∧ Mods [] w w' := by
  have HC := Lib.hid (staE_cells (asr := asr) h1 h2 (show ix < 256 by omega))
  rw [HC.out]
  have d0 : decide (((ix : Nat) : Int) < 0) = false := decide_eq_false (by omega)
  have d1 : decide ((14 : Int) < ((ix : Nat) : Int)) = false := decide_eq_false (by omega)
  have hw : IntKind.u8.wrap ((ix : Nat) : Int) = ((ix : Nat) : Int) := by rw [IntKind.wrap_u8]; omega
  clear h3 HC
  go_enter Tryz.func87, Tryz.ntmps87
  go_wp2_with (refine wpList_store_row (cs := #[.int .u16 0, .int .u32 0, .int .u16 32, .int .u8 st, .int .u8 sn, .int .u8 111, .bool (!asr), .int .u8 ix, .int .u8 255, .int .u8 255]) rfl 65 (.tmp 8) (.tmp 24) rfl (heap_alloc_new w _) (by rfl) (by rfl) (by rfl) Tryz.sizeEv (by simp [Value.oneCell']) ?_; intro w2 R2 M2; have HF2 := Lib.hid (freshA M2); have HR2 := Lib.hid R2; clear R2 M2)
  refine bodyPost_ret (results_cell_row2 rfl _ _ w.heap.size _ _ _ _ rfl HR2.out Tryz.underlying65 rfl Tryz.sizeEv) rfl ?_
  exact ⟨rfl, HF2.out⟩
set_option maxHeartbeats 2000000 in
theorem refStaE_ok (w : World) (st sn ix : Nat) (asr : Bool) (h1 : st < 256) (h2 : sn < 256) (h3 : ix ≤ 14) :
    Calls Tryz.prog 30 #[.int .u8 (st : Nat), .int .u8 (sn : Nat), .int .i64 (ix : Nat), .bool asr] w fun e w' => e = .returned (.tuple #[.agg (staE st sn ix asr).cells.toArray, .int .i64 0]) ∧ Mods [] w w' := by
  have HC := Lib.hid (staE_cells (asr := asr) h1 h2 (show ix < 256 by omega))
  rw [HC.out]
  have d0 : decide (((ix : Nat) : Int) < 0) = false := decide_eq_false (by omega)
  have d1 : decide ((14 : Int) < ((ix : Nat) : Int)) = false := decide_eq_false (by omega)
  have hw : IntKind.u8.wrap ((ix : Nat) : Int) = ((ix : Nat) : Int) := by rw [IntKind.wrap_u8]; omega
  clear h3 HC
  go_enter Tryz.func30, Tryz.ntmps30
  go_wp2_with (refine wpList_store_row (cs := #[.int .u16 0, .int .u32 0, .int .u16 32, .int .u8 st, .int .u8 sn, .int .u8 111, .bool (!asr), .int .u8 ix, .int .u8 255, .int .u8 255]) rfl 65 (.tmp 8) (.tmp 24) rfl (heap_alloc_new w _) (by rfl) (by rfl) (by rfl) Tryz.sizeEv (by simp [Value.oneCell']) ?_; intro w2 R2 M2; have HF2 := Lib.hid (freshA M2); have HR2 := Lib.hid R2; clear R2 M2)
  refine bodyPost_ret (results_cell_row2 rfl _ _ w.heap.size _ _ _ _ rfl HR2.out Tryz.underlying65 rfl Tryz.sizeEv) rfl ?_
  exact ⟨rfl, HF2.out⟩
set_option maxHeartbeats 2000000 in
theorem thrE_ok (w : World) (hO : OffAt w) (st sn ix : Nat) (asr : Bool) (rd lim : Nat) (h1 : st < 256) (h2 : sn < 256) (h3 : ix < 6) (h4 : rd < 256) (h5 : lim < 256) :
    Calls Tryz.prog 88 #[.int .u8 (st : Nat), .int .u8 (sn : Nat), .int .i64 (ix : Nat), .bool asr, .int .u8 (rd : Nat), .int .u8 (lim : Nat)] w fun e w' => e = .returned (.tuple #[.agg (thrE st sn ix asr rd lim).cells.toArray, .int .i64 0]) ∧ Mods [] w w' := by
  have HC := Lib.hid (thrE_cells (ix := ix) (asr := asr) h1 h2 h4 h5)
  rw [HC.out]
  have d0 : decide (((ix : Nat) : Int) < 0) = false := decide_eq_false (by omega)
  have d1 : decide ((6 : Int) ≤ ((ix : Nat) : Int)) = false := decide_eq_false (by omega)
  have i6 : ((ix : Nat) : Int) < 6 := by omega
  have i0 : (0 : Int) ≤ ((ix : Nat) : Int) := by omega
  have hol := offL_le ix
  have HO := Lib.hid (hO.mods0 ((Mods.refl (S := []) (w := w)).alloc (.cells zEv 65)))
  have c0 := HO.out ix h3
  rw [offI_L] at c0
  generalize offL.getD ix 0 = o at c0 hol ⊢
  have hw : IntKind.u8.wrap (80 + ((o : Nat) : Int)) = ((80 + o : Nat) : Int) := by rw [IntKind.wrap_u8]; omega
  clear h3 HC hO
  go_enter Tryz.func88, Tryz.ntmps88
  go_wp2_with (refine wpList_store_row (cs := #[.int .u16 0, .int .u32 0, .int .u16 32, .int .u8 st, .int .u8 sn, .int .u8 1, .bool (!asr), .int .u8 ((80 + o : Nat) : Int), .int .u8 rd, .int .u8 lim]) rfl 65 (.tmp 12) (.tmp 32) rfl (heap_alloc_new w _) (by rfl) (by rfl) (by rfl) Tryz.sizeEv (by simp [Value.oneCell']) ?_; intro w2 R2 M2; have HF2 := Lib.hid (freshA M2); have HR2 := Lib.hid R2; clear R2 M2)
  refine bodyPost_ret (results_cell_row2 rfl _ _ w.heap.size _ _ _ _ rfl HR2.out Tryz.underlying65 rfl Tryz.sizeEv) rfl ?_
  exact ⟨rfl, HF2.out⟩
theorem offset_ok (w : World) (ix : Nat) (h : ix < 6) : Calls Tryz.prog 71 #[.int .i64 (ix : Nat)] w fun e w' => e = .returned (.int .u8 (offL.getD ix 0 : Nat)) ∧ w = w' := by
  match ix, h with
  | 0, _ | 1, _ | 2, _ | 3, _ | 4, _ | 5, _ =>
    go_enter Tryz.func71, Tryz.ntmps71
    go_wp2_with fail
    go_ret
    exact ⟨rfl, rfl⟩
set_option maxHeartbeats 2000000 in
theorem refThrE_ok (w : World) (st sn ix : Nat) (asr : Bool) (rd lim : Nat) (h1 : st < 256) (h2 : sn < 256) (h3 : ix < 6) (h4 : rd < 256) (h5 : lim < 256) :
    Calls Tryz.prog 28 #[.int .u8 (st : Nat), .int .u8 (sn : Nat), .int .i64 (ix : Nat), .bool asr, .int .u8 (rd : Nat), .int .u8 (lim : Nat)] w fun e w' => e = .returned (.tuple #[.agg (thrE st sn ix asr rd lim).cells.toArray, .int .i64 0]) ∧ Mods [] w w' := by
  have HC := Lib.hid (thrE_cells (ix := ix) (asr := asr) h1 h2 h4 h5)
  rw [HC.out]
  have d0 : decide (((ix : Nat) : Int) < 0) = false := decide_eq_false (by omega)
  have d1 : decide ((5 : Int) < ((ix : Nat) : Int)) = false := decide_eq_false (by omega)
  have hol := offL_le ix
  have HOF := Lib.hid (fun W => offset_ok W ix h3)
  generalize offL.getD ix 0 = o at HOF hol ⊢
  have hw : IntKind.u8.wrap (80 + ((o : Nat) : Int)) = ((80 + o : Nat) : Int) := by rw [IntKind.wrap_u8]; omega
  clear h3 HC
  go_enter Tryz.func28, Tryz.ntmps28
  go_wp2_with fail
  refine (HOF.out _).mono ?_
  rintro e w' ⟨rfl, rfl⟩
  go_wp2_with (refine wpList_store_row (cs := #[.int .u16 0, .int .u32 0, .int .u16 32, .int .u8 st, .int .u8 sn, .int .u8 1, .bool (!asr), .int .u8 ((80 + o : Nat) : Int), .int .u8 rd, .int .u8 lim]) rfl 65 (.tmp 12) (.tmp 31) rfl (heap_alloc_new w _) (by rfl) (by rfl) (by rfl) Tryz.sizeEv (by simp [Value.oneCell']) ?_; intro w2 R2 M2; have HF2 := Lib.hid (freshA M2); have HR2 := Lib.hid R2; clear R2 M2)
  refine bodyPost_ret (results_cell_row2 rfl _ _ w.heap.size _ _ _ _ rfl HR2.out Tryz.underlying65 rfl Tryz.sizeEv) rfl ?_
  exact ⟨rfl, HF2.out⟩
end Go.Proofs.YtijjkonephjodaaGreatDoor
