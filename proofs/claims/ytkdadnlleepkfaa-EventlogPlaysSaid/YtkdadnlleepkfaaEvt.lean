/- Events in memory: a kind of element, comparison. -/
import Derived.Test.YtkdadnlleepkfaaEvP
import Derived.Test.YtkdadnlleepkfaaElem
import Derived.ChangeKeysEq
namespace Go.Proofs.Ytkdadnlleepkfaa
open Go.RowKit

def Evt.cells (e : Evt) : List Value := [.int .u16 ((e.id.val : Nat) : Int), .int .u32 ((e.time.val : Nat) : Int), .int .u16 ((e.gen.val : Nat) : Int), .int .u8 ((e.st.val : Nat) : Int), .int .u8 ((e.sen.val : Nat) : Int), .int .u8 ((e.typ.val : Nat) : Int), .bool e.de, .int .u8 ((e.d0.val : Nat) : Int), .int .u8 ((e.d1.val : Nat) : Int), .int .u8 ((e.d2.val : Nat) : Int)]
def evE : Elt Evt := ⟨37, 44, 10, Evt.cells, default⟩
theorem Try.infoEv : (Try.prog.info? 37).map (fun i => (i.zero, i.size, i.bytes)) = some (some (.agg #[.int .u16 0, .int .u32 0, .int .u16 0, .int .u8 0, .int .u8 0, .int .u8 0, .bool false, .int .u8 0, .int .u8 0, .int .u8 0]), 10, 20) := by kernel_rfl
theorem Try.sizeEv : (Try.prog.info? 37).map (·.size) = some 10 := by kernel_rfl
theorem evOk : evE.Ok Try.prog := by
  refine ⟨fun _ => rfl, fun a v hv => ?_, by decide, Try.underlying44, ?_⟩
  · simp [evE, Evt.cells] at hv
    rcases hv with rfl | rfl | rfl | rfl | rfl | rfl | rfl | rfl | rfl | rfl <;> rfl
  · obtain ⟨i0, hi, hz0, hz1, hz2⟩ := info_parts Try.infoEv
    exact ⟨i0, _, hi, hz0, hz1, by rw [hz2]; decide, rfl⟩
theorem Evt.one (e : Evt) : e.cells.toArray.all (·.oneCell') = true := by simp [Evt.cells, Value.oneCell']
/-- An event lies in a block of its own. -/
def EvBox (w : World) (g : Nat) (e : Evt) : Prop := w.heap[g]? = some (.cells e.cells.toArray 37 (0, 0))
section
variable {w W : World} {g : Nat} {e : Evt} {S : List Nat}
theorem EvBox.mods (h : EvBox w g e) (M : Mods S w W) (hn : g ∉ S) : EvBox W g e := M.heap h hn
theorem EvBox.mods0 (h : EvBox w g e) (M : Mods [] w W) : EvBox W g e := M.heap h (by simp)
theorem EvBox.lt (h : EvBox w g e) : g < w.heap.size := lt_of_block h
theorem EvBox.new (w : World) (e : Evt) : EvBox (w.alloc (.cells e.cells.toArray 37)) w.heap.size e := heap_alloc_new w _
theorem EvBox.c (h : EvBox w g e) (i : Nat) : w.cell? ⟨g, i, none⟩ = e.cells.toArray[i]? := cell_blk h i
theorem EvBox.fr (h : EvBox w g e) (i : Nat) : w.frozen? ⟨g, i, none⟩ = false := froz_blk h i
theorem EvBox.cs (h : EvBox w g e) : w.cell? ⟨g, 0, none⟩ = some (.int .u16 ((e.id.val : Nat) : Int)) ∧ w.cell? ⟨g, 1, none⟩ = some (.int .u32 ((e.time.val : Nat) : Int)) ∧ w.cell? ⟨g, 2, none⟩ = some (.int .u16 ((e.gen.val : Nat) : Int)) ∧
    w.cell? ⟨g, 3, none⟩ = some (.int .u8 ((e.st.val : Nat) : Int)) ∧ w.cell? ⟨g, 4, none⟩ = some (.int .u8 ((e.sen.val : Nat) : Int)) ∧ w.cell? ⟨g, 5, none⟩ = some (.int .u8 ((e.typ.val : Nat) : Int)) ∧ w.cell? ⟨g, 6, none⟩ = some (.bool e.de) ∧
    w.cell? ⟨g, 7, none⟩ = some (.int .u8 ((e.d0.val : Nat) : Int)) ∧ w.cell? ⟨g, 8, none⟩ = some (.int .u8 ((e.d1.val : Nat) : Int)) ∧ w.cell? ⟨g, 9, none⟩ = some (.int .u8 ((e.d2.val : Nat) : Int)) :=
  ⟨h.c 0, h.c 1, h.c 2, h.c 3, h.c 4, h.c 5, h.c 6, h.c 7, h.c 8, h.c 9⟩
end
theorem Try.infoU8 : ∃ i, Try.prog.info? 5 = some i ∧ i.size = 1 := by
  have h : (Try.prog.info? 5).map (·.size) = some 1 := by kernel_rfl
  cases e : Try.prog.info? 5 with
  | none => rw [e] at h; cases h
  | some i => rw [e] at h; exact ⟨i, rfl, by simpa using h⟩
theorem Try.cellsU8 : Try.prog.cellsOf 5 = 1 := by kernel_rfl
set_option maxRecDepth 100000 in
set_option maxHeartbeats 2000000 in
theorem three_eq (x0 x1 x2 y0 y1 y2 : Int) (w : World) : (Op.equalIn 9999 35 (.agg #[.int .u8 x0, .int .u8 x1, .int .u8 x2]) (.agg #[.int .u8 y0, .int .u8 y1, .int .u8 y2])).run Try.prog w = .ok (decide (x0 = y0) && (decide (x1 = y1) && decide (x2 = y2))) w := by
  obtain ⟨i, hi, hs⟩ := Try.infoU8
  rw [show (9999 : Nat) = 9998 + 1 from rfl, run_equalIn_array w 9998 _ _ Try.underlying35 hi, Try.cellsU8]
  simp only [List.range, List.range.loop, Op.eqItems]
  go_simp
  by_cases e0 : x0 = y0
  · by_cases e1 : x1 = y1
    · by_cases e2 : x2 = y2
      · simp [e0, e1, e2]
      · simp [e0, e1, e2]
    · simp [e0, e1]
  · simp [e0]
set_option maxRecDepth 100000 in
set_option maxHeartbeats 2000000 in
/-- Events compared. -/
theorem ev_eq (x y : Evt) (w : World) : (binOp .eql 37 (.agg x.cells.toArray) (.agg y.cells.toArray)).run Try.prog w = .ok (.bool (decide (x = y))) w := by
  obtain ⟨⟨a0, h0⟩, ⟨a1, h1⟩, ⟨a2, h2⟩, ⟨a3, h3⟩, ⟨a4, h4⟩, ⟨a5, h5⟩, a6, ⟨a7, h7⟩, ⟨a8, h8⟩, ⟨a9, h9⟩⟩ := x
  obtain ⟨⟨b0, k0⟩, ⟨b1, k1⟩, ⟨b2, k2⟩, ⟨b3, k3⟩, ⟨b4, k4⟩, ⟨b5, k5⟩, b6, ⟨b7, k7⟩, ⟨b8, k8⟩, ⟨b9, k9⟩⟩ := y
  unfold Evt.cells
  simp only [Evt.mk.injEq, Fin.mk.injEq]
  go_simp
  simp only [three_eq, Result.andThen_ok, Int.natCast_inj]
  by_cases e0 : a0 = b0
  rotate_left
  · simp [e0]
  by_cases e1 : a1 = b1
  rotate_left
  · simp [e0, e1]
  by_cases e2 : a2 = b2
  rotate_left
  · simp [e0, e1, e2]
  by_cases e3 : a3 = b3
  rotate_left
  · simp [e0, e1, e2, e3]
  by_cases e4 : a4 = b4
  rotate_left
  · simp [e0, e1, e2, e3, e4]
  by_cases e5 : a5 = b5
  rotate_left
  · simp [e0, e1, e2, e3, e4, e5]
  by_cases e6 : a6 = b6
  rotate_left
  · simp [e0, e1, e2, e3, e4, e5, e6]
  by_cases e7 : a7 = b7
  rotate_left
  · simp [e0, e1, e2, e3, e4, e5, e6, e7]
  by_cases e8 : a8 = b8
  rotate_left
  · simp [e0, e1, e2, e3, e4, e5, e6, e7, e8]
  by_cases e9 : a9 = b9
  · simp [e0, e1, e2, e3, e4, e5, e6, e7, e8, e9]
  · simp [e0, e1, e2, e3, e4, e5, e6, e7, e8, e9]
end Go.Proofs.Ytkdadnlleepkfaa
