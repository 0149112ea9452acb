/- The flash device as plain data, and where it lies in memory (the program's Device and the reference's Flash have one layout). -/
import Derived.Test.YtkdadnlleepkfaaMem
namespace Go.Proofs.Ytkdadnlleepkfaa
open Go.RowKit

/-- A device as plain data. -/
structure Dev where
  size : Nat
  data : List Int
  wear : List Int
  steps : Int
  left : Int
  torn : Int
  down : Bool

/-- Where a device lies: its struct, its bytes, its wear; the two capacities. -/
structure DevAt where
  b : Nat
  g : Nat
  gw : Nat
  cb : Nat
  cw : Nat

def DevAt.foot (p : DevAt) : List Nat := [p.b, p.g, p.gw]
def DevAt.ptr (p : DevAt) : Value := .pointer (some ⟨p.b, 0, none⟩)

def RowAt (w : World) (g : Nat) (T : TypeId) (cap : Nat) (l : List Value) : Prop :=
  ∃ cur : Array Value, w.heap[g]? = some (.cells cur T (0, 0)) ∧ cur.size = cap ∧ l.length ≤ cap ∧ cap ≤ maxLen ∧ cur.toList.take l.length = l

theorem RowAt.cell {w : World} {g cap : Nat} {T : TypeId} {l : List Value} (h : RowAt w g T cap l) {i : Nat} (hi : i < l.length) : w.cell? ⟨g, i, none⟩ = some (l.getD i undef) := by
  obtain ⟨cur, h1, h2, h3, h4, h5⟩ := h
  rw [cell_blk h1]
  have h6 : l[i]? = some (l.getD i undef) := by rw [List.getD_eq_getElem?_getD, List.getElem?_eq_getElem hi]; rfl
  rw [← h6, ← h5, List.getElem?_take, if_pos hi]
  simp
theorem RowAt.froz {w : World} {g cap : Nat} {T : TypeId} {l : List Value} (h : RowAt w g T cap l) (i : Nat) : w.frozen? ⟨g, i, none⟩ = false := by
  obtain ⟨cur, h1, _⟩ := h
  exact froz_blk h1 i
theorem RowAt.set {w : World} {g cap : Nat} {T : TypeId} {l : List Value} (h : RowAt w g T cap l) {i : Nat} (v : Value) : RowAt (w.setCell ⟨g, i, none⟩ v) g T cap (l.set i v) := by
  obtain ⟨cur, h1, h2, h3, h4, h5⟩ := h
  refine ⟨cur.setIfInBounds i v, heap_setCell h1, by simpa using h2, by simpa using h3, h4, ?_⟩
  rw [List.length_set, Array.toList_setIfInBounds, List.take_set, h5]
theorem RowAt.mods {S : List Nat} {w w' : World} {g cap : Nat} {T : TypeId} {l : List Value} (h : RowAt w g T cap l) (hm : Mods S w w') (hn : g ∉ S) : RowAt w' g T cap l := by
  obtain ⟨cur, h1, rest⟩ := h
  exact ⟨cur, hm.heap h1 hn, rest⟩
theorem RowAt.setOther {w : World} {g cap : Nat} {T : TypeId} {l : List Value} (h : RowAt w g T cap l) {a : Addr} (v : Value) (hn : g ≠ a.block) : RowAt (w.setCell a v) g T cap l := by
  obtain ⟨cur, h1, rest⟩ := h
  exact ⟨cur, heap_setCell_ne h1 hn, rest⟩
theorem RowAt.lt {w : World} {g cap : Nat} {T : TypeId} {l : List Value} (h : RowAt w g T cap l) : g < w.heap.size := by
  obtain ⟨cur, h1, _⟩ := h
  exact lt_of_block h1
theorem RowAt.of_owns {w : World} {base n g cap : Nat} {T : TypeId} {l : List Value} (h : w.ownsRow base T 1 (.slice (some ⟨g, 0, none⟩) n cap) n l) : RowAt w g T cap l := by
  obtain ⟨hl, h | ⟨g', cap', cur, hv, _, h1, h2, h3, h4, h5⟩⟩ := h
  · simp at h
  · simp only [Value.slice.injEq, Option.some.injEq, Addr.mk.injEq, and_true, true_and] at hv
    obtain ⟨rfl, rfl⟩ := hv
    exact ⟨cur, h1, by omega, by omega, h3, by rw [hl]; exact h5⟩
theorem RowAt.owns {w : World} {g cap : Nat} {T : TypeId} {l : List Value} (h : RowAt w g T cap l) {base : Nat} (hb : base ≤ g) : w.ownsRow base T 1 (.slice (some ⟨g, 0, none⟩) l.length cap) l.length l := by
  obtain ⟨cur, h1, h2, h3, h4, h5⟩ := h
  exact ⟨by omega, .inr ⟨g, cap, cur, rfl, hb, h1, h3, h4, by omega, by rw [Nat.mul_one]; exact h5⟩⟩
theorem RowAt.rd {w : World} {g cap : Nat} {T : TypeId} {l : List Value} (h : RowAt w g T cap l) : Rd w (.slice (some ⟨g, 0, none⟩) l.length cap) l :=
  ⟨_, cap, rfl, by obtain ⟨_, _, _, h3, _⟩ := h; exact h3, by obtain ⟨_, _, _, _, h4, _⟩ := h; exact h4, fun i hi => ⟨g, 0, rfl, by rw [Nat.zero_add]; exact h.cell hi⟩⟩

/-- The device D lies at p. -/
structure IsDev (w : World) (p : DevAt) (D : Dev) : Prop where
  hd : ∃ T, w.heap[p.b]? = some (.cells #[.int .i64 D.size, .slice (some ⟨p.g, 0, none⟩) D.data.length p.cb, .slice (some ⟨p.gw, 0, none⟩) D.wear.length p.cw, .int .i64 D.steps, .int .i64 D.left, .int .u8 D.torn, .bool D.down] T (0, 0))
  dat : RowAt w p.g 5 p.cb (u8s D.data)
  wer : RowAt w p.gw 3 p.cw (i64s D.wear)
  ne1 : p.b ≠ p.g
  ne2 : p.b ≠ p.gw
  ne3 : p.g ≠ p.gw

section
variable {w w' : World} {p : DevAt} {D : Dev}
theorem IsDev.c0 (h : IsDev w p D) : w.cell? ⟨p.b, 0, none⟩ = some (.int .i64 D.size) := by obtain ⟨T, h⟩ := h.hd; rw [cell_blk h]; rfl
theorem IsDev.c1 (h : IsDev w p D) : w.cell? ⟨p.b, 1, none⟩ = some (.slice (some ⟨p.g, 0, none⟩) D.data.length p.cb) := by obtain ⟨T, h⟩ := h.hd; rw [cell_blk h]; rfl
theorem IsDev.c2 (h : IsDev w p D) : w.cell? ⟨p.b, 2, none⟩ = some (.slice (some ⟨p.gw, 0, none⟩) D.wear.length p.cw) := by obtain ⟨T, h⟩ := h.hd; rw [cell_blk h]; rfl
theorem IsDev.c3 (h : IsDev w p D) : w.cell? ⟨p.b, 3, none⟩ = some (.int .i64 D.steps) := by obtain ⟨T, h⟩ := h.hd; rw [cell_blk h]; rfl
theorem IsDev.c4 (h : IsDev w p D) : w.cell? ⟨p.b, 4, none⟩ = some (.int .i64 D.left) := by obtain ⟨T, h⟩ := h.hd; rw [cell_blk h]; rfl
theorem IsDev.c5 (h : IsDev w p D) : w.cell? ⟨p.b, 5, none⟩ = some (.int .u8 D.torn) := by obtain ⟨T, h⟩ := h.hd; rw [cell_blk h]; rfl
theorem IsDev.c6 (h : IsDev w p D) : w.cell? ⟨p.b, 6, none⟩ = some (.bool D.down) := by obtain ⟨T, h⟩ := h.hd; rw [cell_blk h]; rfl
theorem IsDev.fb (h : IsDev w p D) : ∀ i, w.frozen? ⟨p.b, i, none⟩ = false := by obtain ⟨T, h⟩ := h.hd; exact froz_blk h
theorem IsDev.fg (h : IsDev w p D) : ∀ i, w.frozen? ⟨p.g, i, none⟩ = false := h.dat.froz
theorem IsDev.fw (h : IsDev w p D) : ∀ i, w.frozen? ⟨p.gw, i, none⟩ = false := h.wer.froz
theorem IsDev.at (h : IsDev w p D) {i : Nat} (hi : i < D.data.length) : w.cell? ⟨p.g, i, none⟩ = some (.int .u8 (D.data.getD i 0)) := by
  rw [h.dat.cell (by rw [u8s_length]; exact hi), u8s_getD _ _ hi]
theorem IsDev.wat (h : IsDev w p D) {i : Nat} (hi : i < D.wear.length) : w.cell? ⟨p.gw, i, none⟩ = some (.int .i64 (D.wear.getD i 0)) := by
  rw [h.wer.cell (by rw [i64s_length]; exact hi), i64s_getD _ _ hi]
theorem IsDev.lt (h : IsDev w p D) : ∀ k ∈ p.foot, k < w.heap.size := by
  intro k hk
  simp only [DevAt.foot, List.mem_cons, List.not_mem_nil, or_false] at hk
  rcases hk with rfl | rfl | rfl
  · obtain ⟨T, h⟩ := h.hd; exact lt_of_block h
  · exact h.dat.lt
  · exact h.wer.lt
theorem IsDev.mods {S : List Nat} (h : IsDev w p D) (hm : Mods S w w') (hn : ∀ k ∈ p.foot, k ∉ S) : IsDev w' p D := by
  obtain ⟨T, hd⟩ := h.hd
  exact ⟨⟨T, hm.heap hd (hn _ (by simp [DevAt.foot]))⟩, h.dat.mods hm (hn _ (by simp [DevAt.foot])), h.wer.mods hm (hn _ (by simp [DevAt.foot])), h.ne1, h.ne2, h.ne3⟩
theorem IsDev.mods0 (h : IsDev w p D) (hm : Mods [] w w') : IsDev w' p D := h.mods hm fun _ _ => by simp
theorem IsDev.drew (h : IsDev w p D) : IsDev w.drew p D := h.mods0 Mods.refl.drew
theorem IsDev.drewN (h : IsDev w p D) (n : Nat) : IsDev (w.drewN n) p D := h.mods0 (Mods.refl.drewN n)
theorem IsDev.setB (h : IsDev w p D) (i : Nat) (v : Value) {D' : Dev} (hdat : D'.data = D.data) (hwear : D'.wear = D.wear)
    (hc : (#[.int .i64 D.size, .slice (some ⟨p.g, 0, none⟩) D.data.length p.cb, .slice (some ⟨p.gw, 0, none⟩) D.wear.length p.cw, .int .i64 D.steps, .int .i64 D.left, .int .u8 D.torn, .bool D.down] : Array Value).setIfInBounds i v =
      #[.int .i64 D'.size, .slice (some ⟨p.g, 0, none⟩) D.data.length p.cb, .slice (some ⟨p.gw, 0, none⟩) D.wear.length p.cw, .int .i64 D'.steps, .int .i64 D'.left, .int .u8 D'.torn, .bool D'.down]) : IsDev (w.setCell ⟨p.b, i, none⟩ v) p D' := by
  obtain ⟨T, hd⟩ := h.hd
  refine ⟨⟨T, ?_⟩, ?_, ?_, h.ne1, h.ne2, h.ne3⟩
  · rw [heap_setCell hd, hdat, hwear, hc]
  · rw [hdat]; exact h.dat.setOther v h.ne1.symm
  · rw [hwear]; exact h.wer.setOther v h.ne2.symm
theorem IsDev.set3 (h : IsDev w p D) (x : Int) : IsDev (w.setCell ⟨p.b, 3, none⟩ (.int .i64 x)) p { D with steps := x } := h.setB 3 _ rfl rfl rfl
theorem IsDev.set4 (h : IsDev w p D) (x : Int) : IsDev (w.setCell ⟨p.b, 4, none⟩ (.int .i64 x)) p { D with left := x } := h.setB 4 _ rfl rfl rfl
theorem IsDev.set5 (h : IsDev w p D) (x : Int) : IsDev (w.setCell ⟨p.b, 5, none⟩ (.int .u8 x)) p { D with torn := x } := h.setB 5 _ rfl rfl rfl
theorem IsDev.set6 (h : IsDev w p D) (x : Bool) : IsDev (w.setCell ⟨p.b, 6, none⟩ (.bool x)) p { D with down := x } := h.setB 6 _ rfl rfl rfl
theorem IsDev.setDat (h : IsDev w p D) (i : Nat) (x : Int) : IsDev (w.setCell ⟨p.g, i, none⟩ (.int .u8 x)) p { D with data := D.data.set i x } := by
  obtain ⟨T, hd⟩ := h.hd
  refine ⟨⟨T, ?_⟩, ?_, h.wer.setOther _ h.ne3.symm, h.ne1, h.ne2, h.ne3⟩
  · simp only [List.length_set]; exact heap_setCell_ne hd h.ne1
  · have := h.dat.set (i := i) (.int .u8 x)
    simpa [u8s, List.map_set] using this
theorem IsDev.setWear (h : IsDev w p D) (i : Nat) (x : Int) : IsDev (w.setCell ⟨p.gw, i, none⟩ (.int .i64 x)) p { D with wear := D.wear.set i x } := by
  obtain ⟨T, hd⟩ := h.hd
  refine ⟨⟨T, ?_⟩, h.dat.setOther _ h.ne3, ?_, h.ne1, h.ne2, h.ne3⟩
  · simp only [List.length_set]; exact heap_setCell_ne hd h.ne2
  · have := h.wer.set (i := i) (.int .i64 x)
    simpa [i64s, List.map_set] using this
end

/-- What the walks ask of a device's numbers. -/
structure Dev.Ok (D : Dev) : Prop where
  len : D.data.length ≤ 16384
  wl : D.wear.length ≤ 16
  mul : D.wear.length * D.size = D.data.length
  s0 : 1 ≤ D.size
  s1 : D.size ≤ 1024
  byt : ∀ i, 0 ≤ D.data.getD i 0 ∧ D.data.getD i 0 ≤ 255
  tn : 0 ≤ D.torn ∧ D.torn ≤ 255
  st : 0 ≤ D.steps
  lf : 0 ≤ D.left ∧ D.left ≤ 1000000000
  wr : ∀ i, 0 ≤ D.wear.getD i 0
end Go.Proofs.Ytkdadnlleepkfaa
