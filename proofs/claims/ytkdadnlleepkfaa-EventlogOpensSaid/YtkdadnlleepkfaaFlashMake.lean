/- flash.New: contract. -/
import Derived.Test.YtkdadnlleepkfaaFlashNew
import Derived.Test.YtkdadnlleepkfaaFlashProg
import Derived.Deep.RegionWith
namespace Go.Proofs.Ytkdadnlleepkfaa
open Go.RowKit
set_option maxRecDepth 100000

def zeroRow (s : Nat) : Array Value := madeCells #[.int .i64 0] s
theorem zeroRow_list (s : Nat) : (zeroRow s).toList = i64s (List.replicate s 0) := by
  rw [zeroRow, madeCells_one, i64s, List.map_replicate]
theorem zeroRow_size (s : Nat) : (zeroRow s).size = s := by rw [zeroRow, size_madeCells]

/-- A device as New makes it. -/
def Dev.fresh (s m : Nat) : Dev := { size := m, data := List.replicate (s * m) 255, wear := List.replicate s 0, steps := 0, left := 0, torn := 0, down := false }
theorem getD_replicate (n : Nat) (x : Int) (i : Nat) : (List.replicate n x).getD i 0 = if i < n then x else 0 := by
  rw [List.getD_eq_getElem?_getD, List.getElem?_replicate]; split <;> rfl
theorem Dev.fresh_ok {s m : Nat} (hs : s ≤ 16) (hm1 : 1 ≤ m) (hm : m ≤ 1024) : (Dev.fresh s m).Ok where
  len := by simp only [Dev.fresh, List.length_replicate]; exact Nat.mul_le_mul hs hm
  wl := by simp only [Dev.fresh, List.length_replicate]; exact hs
  mul := by simp [Dev.fresh]
  s0 := hm1
  s1 := hm
  byt := by intro i; simp only [Dev.fresh, getD_replicate]; split <;> omega
  tn := by simp [Dev.fresh]
  st := by simp [Dev.fresh]
  lf := by simp [Dev.fresh]
  wr := by intro i; simp only [Dev.fresh, getD_replicate]; split <;> omega

/-- A new device is handed back. -/
def NewDev (w : World) (D : Dev) (e : Ending) (w' : World) : Prop := ∃ p, e = .returned (.tuple #[.pointer (some ⟨p.b, 0, none⟩), .int .i64 0]) ∧ IsDev w' p D ∧ Mods [] w w' ∧ ∀ k ∈ p.foot, w.heap.size ≤ k

theorem heap_new (w : World) (o : Obj) : (w.alloc o).heap[w.heap.size]? = some o := heap_alloc_new w o
/-- The closing of New: the struct in the newest block, the bytes and the wear before it. -/
theorem mk_dev {w w2 : World} {s m gn gw : Nat} {T : TypeId} (hrow : RowAt w2 gn 5 (s * m) (u8s (List.replicate (s * m) 255))) (hw : w2.heap[gw]? = some (.cells (zeroRow s) 3 (0, 0))) (h1 : w.heap.size ≤ gn) (h2 : w.heap.size ≤ gw) (hne : gn ≠ gw) (hm : Mods [] w w2) (hs : s ≤ 16) :
    NewDev w (Dev.fresh s m) (.returned (.tuple #[.pointer (some ⟨w2.heap.size, 0, none⟩), .int .i64 0])) (w2.alloc (.cells #[.int .i64 m, .slice (some ⟨gn, 0, none⟩) (s * m) (s * m), .slice (some ⟨gw, 0, none⟩) s s, .int .i64 0, .int .i64 0, .int .u8 0, .bool false] T)) := by
  have l1 := hrow.lt
  have l2 := lt_of_block hw
  have l3 := hm.size
  refine ⟨⟨w2.heap.size, gn, gw, s * m, s⟩, rfl, ⟨⟨T, ?_⟩, hrow.mods (S := []) (Mods.refl.alloc _) (by simp), ?_, ?_, ?_, ?_⟩, hm.alloc _, ?_⟩
  · rw [heap_new]
    simp [Dev.fresh]
  · refine ⟨zeroRow s, heap_alloc hw, zeroRow_size s, by simp [Dev.fresh, i64s], by simp only [maxLen]; omega, ?_⟩
    rw [zeroRow_list]
    simp [Dev.fresh, i64s]
  · show w2.heap.size ≠ gn; omega
  · show w2.heap.size ≠ gw; omega
  · exact hne
  · intro k hk
    simp only [DevAt.foot, List.mem_cons, List.not_mem_nil, or_false] at hk
    rcases hk with rfl | rfl | rfl <;> omega

set_option maxHeartbeats 1000000 in
theorem new_ok (s m : Nat) (hs1 : 1 ≤ s) (hs : s ≤ 16) (hm1 : 64 ≤ m) (hm : m ≤ 1024) (w : World) :
    Calls Try.prog 12 #[.int .i64 s, .int .i64 m] w fun e w' => NewDev w (Dev.fresh s m) e w' := by
  obtain ⟨i0, hi, hz0, hz1, hz2⟩ := info_parts Try.infoI
  have hmk : ∀ w : World, (Instr.makeSlice 40 (.int .i64 (s : Int)) (.int .i64 (s : Int))).run Try.prog w = .ok (.slice (some ⟨w.heap.size, 0, none⟩) s s) (w.alloc (.cells (zeroRow s) 3)) := fun w => by
    have h := run_make (P := Try.prog) w 40 3 i0 (.int .i64 0) Try.underlying40 hi hz0 .i64 .i64 s s (by omega) (Int.le_refl _) (by rw [hz2]; omega) (by omega)
    rw [hz1] at h
    simpa [zeroRow, Value.cells] using h
  have hn1 : 1 ≤ s * m := Nat.mul_pos hs1 (by omega)
  have hn2 : s * m ≤ 16384 := Nat.mul_le_mul hs hm
  have hmul : IntKind.i64.wrap ((s : Int) * (m : Int)) = ((s * m : Nat) : Int) := by rw [← Int.natCast_mul]; exact IntWalk.i64_in _ (by omega)
  clear hi hz0 hz1 hz2
  go_enter Try.func12, Try.ntmps12
  go_wp2_with fail
  go_region_with (go_at_call 45; refine (repeat_ok _ _ _ 255 (s * m) hn1 (by omega) (by simp)).mono ?_; rintro e w1 ⟨gn, rfl, hgn, hrow, hmo⟩)
  all_goals
    go_wp2
    go_ret2
  · have hb : w.heap.size + 1 ≤ gn := by simpa using hgn
    have hl := hrow.lt
    have hz : w.heap.size + 1 ≤ w1.heap.size := by have := hmo.size; simpa using this
    have := mk_dev (w := w) (w2 := w1.alloc (.cells (zeroRow s) 3)) (T := 83) (hrow.mods (S := []) (Mods.refl.alloc _) (by simp)) (heap_new _ _) (by omega) (by omega) (by omega) ((((Mods.refl.alloc _).drew.comp0 hmo)).alloc _) hs
    rw [World.size_alloc] at this
    exact this
  · have hb : w.heap.size + 2 ≤ gn := by simpa using hgn
    have hl := hrow.lt
    have hw1 : w1.heap[w.heap.size + 1]? = some (.cells (zeroRow s) 3 (0, 0)) := hmo.heap (by have := heap_new (w.alloc (Obj.cells #[Value.int IntKind.u8 255] 5)) (.cells (zeroRow s) 3); rw [World.size_alloc] at this; exact this) (by simp)
    exact mk_dev (w := w) (T := 83) hrow hw1 (by omega) (by omega) (by omega) ((((Mods.refl.alloc _).alloc _).drew.comp0 hmo)) hs
  · have hb : w.heap.size + 2 ≤ gn := by simpa using hgn
    have hl := hrow.lt
    have hw1 : w1.heap[w.heap.size]? = some (.cells (zeroRow s) 3 (0, 0)) := hmo.heap (by have := heap_alloc (o' := Obj.cells #[Value.int IntKind.u8 255] 5) (heap_new w (.cells (zeroRow s) 3)); exact this) (by simp)
    exact mk_dev (w := w) (T := 83) hrow hw1 (by omega) (by omega) (by omega) ((((Mods.refl.alloc _).alloc _).drew.comp0 hmo)) hs
theorem new_bad_ok (s m : Int) (h : ¬ (1 ≤ s ∧ s ≤ 16 ∧ 64 ≤ m ∧ m ≤ 1024)) (w : World) :
    Calls Try.prog 12 #[.int .i64 s, .int .i64 m] w fun e w' => e = .returned (.tuple #[.pointer none, .int .i64 2]) ∧ w = w' := by
  go_enter Try.func12, Try.ntmps12
  go_wp2_with fail
  all_goals first | (exfalso; omega) | (go_ret2; exact ⟨rfl, rfl⟩)
end Go.Proofs.Ytkdadnlleepkfaa
