/- Made []uint16 of zeros. -/
import Derived.Test.YtijjkonephjodaaGreatDoorMoRecP
namespace Go.Proofs.YtijjkonephjodaaGreatDoor
open Go.RowKit
set_option maxRecDepth 100000
theorem Tryz.info16 : (Tryz.prog.info? 38).map (fun i => (i.zero, i.size, i.bytes)) = some (some (.int .u16 0), 1, 2) := by kernel_rfl
theorem make16 (w : World) (n : Nat) (hn : n ≤ 1000) : (Instr.makeSlice 50 (.int .i64 (n : Nat)) (.int .i64 (n : Nat))).run Tryz.prog w = .ok (.slice (some ⟨w.heap.size, 0, none⟩) n n) (w.alloc (.cells (w16s (List.replicate n 0)).toArray 38)) := by
  obtain ⟨i0, hi, hz0, hz1, hz2⟩ := info_parts Tryz.info16
  have h := run_makeSlice (P := Tryz.prog) (w := w) 50 38 i0 _ Tryz.underlying50 hi hz0 .i64 .i64 (n : Nat) (n : Nat) (by omega) (Int.le_refl _) (by rw [hz1, Int.toNat_natCast]; omega) (by rw [hz2]; omega) (by omega)
  rw [Int.toNat_natCast, hz1, Nat.mul_one] at h
  rw [h]
  congr 4
  refine Array.ext' ?_
  rw [show (Value.int IntKind.u16 0).cells = #[.int .u16 0] from rfl, toList_madeCells_one]
  simp [w16s]
end Go.Proofs.YtijjkonephjodaaGreatDoor
