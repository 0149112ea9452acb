/- SensorLimits: the walk. -/
import Derived.Test.YtokokojmeepoeaaAwakeS
namespace Go.Proofs.Ytokokojmeepoeaa
open Go.RowKit

/-- The sensor of the statement. -/
def limS (sgn : Bool) (r0 r1 r2 r3 r4 r5 : Nat) : Sen := ⟨0, 0, 0, ⟨#[116]⟩, 0, 0, false, ⟨1, sgn, 1, 0, 0, 0, .slice none 0 0⟩, 63, r0, r1, r2, r3, r4, r5, 0, 0, 0, 0, 0, false, 3⟩
theorem tb63 : ∀ i, i < 6 → (63 : Nat).testBit i = true := by decide
theorem limS_valid (sgn : Bool) (r0 r1 r2 r3 r4 r5 : Nat) : validB (limS sgn r0 r1 r2 r3 r4 r5) [] =
    (decide (numI sgn r2 ≤ numI sgn r1) && decide (numI sgn r1 ≤ numI sgn r0) && decide (numI sgn r0 < numI sgn r3) && decide (numI sgn r3 ≤ numI sgn r4) && decide (numI sgn r4 ≤ numI sgn r5)) := by
  have h1 : nameB (limS sgn r0 r1 r2 r3 r4 r5).name = true := by show nameB ⟨#[116]⟩ = true; decide +kernel
  have h2 : (decide ((limS sgn r0 r1 r2 r3 r4 r5).samples = 1 ∨ (limS sgn r0 r1 r2 r3 r4 r5).samples = 3 ∨ (limS sgn r0 r1 r2 r3 r4 r5).samples = 5)) = true := by show decide ((3 : Int) = 1 ∨ (3 : Int) = 3 ∨ (3 : Int) = 5) = true; decide
  have h3 : convB (limS sgn r0 r1 r2 r3 r4 r5).conv [] = true := by show convB ⟨1, sgn, 1, 0, 0, 0, .slice none 0 0⟩ [] = true; rfl
  have h4 : zeroRaw (limS sgn r0 r1 r2 r3 r4 r5) = true := by unfold zeroRaw; rw [List.all_eq_true]; intro i hi; show ((63 : Nat).testBit i || _) = true; rw [tb63 i (List.mem_range.1 hi), Bool.true_or]
  rw [validB, h1, h2, if_neg (by show ¬ (false = true); decide), analogB, h3, h4]
  rw [show decide ((limS sgn r0 r1 r2 r3 r4 r5).mask < 64) = true from rfl, show decide ((limS sgn r0 r1 r2 r3 r4 r5).states = 0) = true from rfl,
    show (decide (((limS sgn r0 r1 r2 r3 r4 r5).asrt ||| (limS sgn r0 r1 r2 r3 r4 r5).deas) &&& (65535 - (limS sgn r0 r1 r2 r3 r4 r5).mask) = 0)) = true by show (decide (((0 ||| 0 : Nat) &&& (65535 - 63)) = 0)) = true; decide]
  simp only [Bool.true_and, Bool.and_true]
  rw [← ord_eq]
  show (sortedB (sel 63 _ [2, 1, 0]) && sortedB (sel 63 _ [3, 4, 5]) && apartB (sel 63 _ [2, 1, 0]) (sel 63 _ [3, 4, 5])) = _
  rw [show ∀ f, sel 63 f [2, 1, 0] = [f 2, f 1, f 0] from fun _ => by simp only [sel, List.filter, tb63 2 (by decide), tb63 1 (by decide), tb63 0 (by decide)]; rfl, show ∀ f, sel 63 f [3, 4, 5] = [f 3, f 4, f 5] from fun _ => by simp only [sel, List.filter, tb63 3 (by decide), tb63 4 (by decide), tb63 5 (by decide)]; rfl]
  simp only [sortedB, apartB, List.getLast?, List.getLast, List.head?, Bool.and_true]
  show ((decide (numI sgn r2 ≤ numI sgn r1) && decide (numI sgn r1 ≤ numI sgn r0)) && (decide (numI sgn r3 ≤ numI sgn r4) && decide (numI sgn r4 ≤ numI sgn r5)) && decide (numI sgn r0 < numI sgn r3)) = _
  rw [Bool.eq_iff_iff]
  simp only [Bool.and_eq_true, decide_eq_true_eq]
  omega
theorem i64_0 : I64 0 := by constructor <;> decide
theorem i64_1 : I64 1 := by constructor <;> decide
theorem i64_3 : I64 3 := by constructor <;> decide
theorem limS_is (w : World) (sgn : Bool) {r0 r1 r2 r3 r4 r5 : Nat} (h : r0 < 256 ∧ r1 < 256 ∧ r2 < 256 ∧ r3 < 256 ∧ r4 < 256 ∧ r5 < 256) : IsSen w (limS sgn r0 r1 r2 r3 r4 r5) [] where
  conv := ⟨RdPts.nil w, ⟨by simp, fun i => by simp [default], fun i => by simp [default, I64]⟩, i64_1, i64_1, i64_0, i64_0, i64_0⟩
  number := (by decide : 0 < 256)
  type := (by decide : 0 < 256)
  unit := (by decide : 0 < 256)
  name := (by decide : (⟨#[116]⟩ : ByteArray).size ≤ 1000)
  eid := (by decide : 0 < 256)
  einst := (by decide : 0 < 256)
  mask := (by decide : 63 < 256)
  raw := fun i => by
    rcases Nat.lt_or_ge i 6 with hi | hi
    · obtain ⟨h0, h1, h2, h3, h4, h5⟩ := h
      match i, hi with
      | 0, _ => exact h0
      | 1, _ => exact h1
      | 2, _ => exact h2
      | 3, _ => exact h3
      | 4, _ => exact h4
      | 5, _ => exact h5
    · unfold Sen.raw; rw [List.getD_eq_getElem?_getD, List.getElem?_eq_none (by simpa using hi)]; decide
  hl := (by decide : 0 < 256)
  hu := (by decide : 0 < 256)
  states := (by decide : 0 < 65536)
  asrt := (by decide : 0 < 65536)
  deas := (by decide : 0 < 65536)
  samples := i64_3
theorem limS_one (sgn : Bool) (r0 r1 r2 r3 r4 r5 : Nat) : (limS sgn r0 r1 r2 r3 r4 r5).cells.all (·.oneCell') = true := by simp [limS, Sen.cells, Value.oneCell']
/-- Six raw readings. -/
def six (r0 r1 r2 r3 r4 r5 : Nat) (i : Nat) : Nat := match i with
  | 0 => r0 | 1 => r1 | 2 => r2 | 3 => r3 | 4 => r4 | _ => r5
def sixI (c : Nat → Int) : Array Value := #[.int .i64 (c 0), .int .i64 (c 1), .int .i64 (c 2), .int .i64 (c 3), .int .i64 (c 4), .int .i64 (c 5)]
theorem sixI_set (c : Nat → Int) {o : Nat} (ho : o < 6) (r : Int) : (sixI c).setIfInBounds o (.int .i64 r) = sixI (fun i => if i = o then r else c i) := by
  match o, ho with
  | 0, _ | 1, _ | 2, _ | 3, _ | 4, _ | 5, _ => rfl
theorem sixI_get (c : Nat → Int) {o : Nat} (ho : o < 6) : (sixI c)[o]? = some (.int .i64 (c o)) := by
  match o, ho with
  | 0, _ | 1, _ | 2, _ | 3, _ | 4, _ | 5, _ => rfl
theorem sixI_lit : (#[.int .i64 0, .int .i64 0, .int .i64 0, .int .i64 0, .int .i64 0, .int .i64 0] : Array Value) = sixI (fun _ => 0) := rfl
set_option maxRecDepth 100000 in
set_option maxHeartbeats 2000000 in
theorem sensorLimits_walk (w : World) (r0 r1 r2 r3 r4 r5 : Nat) (hr : r0 < 256 ∧ r1 < 256 ∧ r2 < 256 ∧ r3 < 256 ∧ r4 < 256 ∧ r5 < 256) (sgn : Bool) :
    Calls Try.prog 15 #[.agg #[.int .u8 r0, .int .u8 r1, .int .u8 r2, .int .u8 r3, .int .u8 r4, .int .u8 r5], .bool sgn] w fun e w' => e = .returned (.bool true) ∧ Mods [] w w' := by
  have HR := Lib.hid hr
  clear hr
  have Z1 : (w.alloc (.cells #[.int .u8 r0, .int .u8 r1, .int .u8 r2, .int .u8 r3, .int .u8 r4, .int .u8 r5] 27)).heap.size = w.heap.size + 1 := by simp
  have H0 := Lib.hid (show ∀ o, ((w.alloc (.cells #[.int .u8 r0, .int .u8 r1, .int .u8 r2, .int .u8 r3, .int .u8 r4, .int .u8 r5] 27)).alloc o).heap[w.heap.size + 1]? = some o from fun o => by have := heap_alloc_new (w.alloc (.cells #[.int .u8 r0, .int .u8 r1, .int .u8 r2, .int .u8 r3, .int .u8 r4, .int .u8 r5] 27)) o; rwa [Z1] at this)
  have HA1 := Lib.hid (heap_alloc_new w (.cells #[.int .u8 r0, .int .u8 r1, .int .u8 r2, .int .u8 r3, .int .u8 r4, .int .u8 r5] 27))
  have HM1 := Lib.hid ((Mods.refl (S := []) (w := w)).alloc (.cells #[.int .u8 r0, .int .u8 r1, .int .u8 r2, .int .u8 r3, .int .u8 r4, .int .u8 r5] 27))
  clear Z1
  go_enter Try.func15, Try.ntmps15
  go_wp2_with (refine wpList_store_row (cs := (limS sgn r0 r1 r2 r3 r4 r5).cells) rfl 32 (.tmp 5) (.tmp 13) rfl (H0.out _) (by rfl) (by rfl) rfl (limS sgn r0 r1 r2 r3 r4 r5).infoS (limS_one sgn r0 r1 r2 r3 r4 r5) ?_; intro w2 R2 M2; have hz2 : w.heap.size + 2 ≤ w2.heap.size := (by have := M2.size; simp at this ⊢; omega); have HB2 : Hid (SenBox w2 (w.heap.size + 1) (limS sgn r0 r1 r2 r3 r4 r5)) := Lib.hid ⟨R2⟩; have HA2 : Hid (w2.heap[w.heap.size]? = some (.cells #[.int .u8 r0, .int .u8 r1, .int .u8 r2, .int .u8 r3, .int .u8 r4, .int .u8 r5] 27)) := Lib.hid (M2.heap (heap_alloc HA1.out) (by simp)); have HM2 : Hid (Mods [] w w2) := Lib.hid ((HM1.out.alloc _).comp M2 (fun k hk => by simp at hk; subst hk; right; omega)); clear R2 M2)
  have HA3 := Lib.hid (heap_alloc (o' := .cells (sixI (fun _ => 0)) 62) HA2.out)
  have HB3 := Lib.hid (HB2.out.mods0 (Mods.refl.alloc (.cells (sixI (fun _ => 0)) 62)))
  have HC3 := Lib.hid (heap_alloc_new w2 (.cells (sixI (fun _ => 0)) 62))
  have HM3 := Lib.hid (HM2.out.alloc (.cells (sixI (fun _ => 0)) 62))
  change Code.wp _ _ _ _ (w2.alloc (.cells (sixI (fun _ => 0)) 62))
  generalize w2.alloc (.cells (sixI (fun _ => 0)) 62) = w3 at HA3 HB3 HC3 HM3 ⊢
  generalize w2.heap.size = g2 at hz2 HC3 ⊢
  clear HA1 HM1 H0 HA2 HB2 HM2
  have HG := Lib.hid (show w.heap.size ≤ g2 by omega)
  have HZ := Lib.hid (show w.heap.size < w.heap.size + 1 ∧ w.heap.size + 1 < g2 by omega)
  clear hz2
  generalize hw : w.heap.size = g0 at HA3 HB3 HG HZ ⊢
  have HW := Lib.hid hw
  clear hw
  generalize g0 + 1 = g1 at HB3 HZ ⊢
  have HR6 := Lib.hid (show ∀ i, six r0 r1 r2 r3 r4 r5 i < 256 from fun i => by obtain ⟨h0, h1, h2, h3, h4, h5⟩ := HR.out; unfold six; split <;> omega)
  have HRA := Lib.hid (show ∀ i, i < 6 → (#[.int .u8 r0, .int .u8 r1, .int .u8 r2, .int .u8 r3, .int .u8 r4, .int .u8 r5] : Array Value)[i]? = some (.int .u8 (six r0 r1 r2 r3 r4 r5 i)) from fun i hi => by
    match i, hi with
    | 0, _ | 1, _ | 2, _ | 3, _ | 4, _ | 5, _ => rfl)
  go_loopw [7] (fun i wr => ∃ (k : Nat) (c : Nat → Int), k ≤ 6 ∧ i = .int .i64 k ∧ Mods [] w wr ∧ wr.heap[g0]? = some (.cells #[.int .u8 r0, .int .u8 r1, .int .u8 r2, .int .u8 r3, .int .u8 r4, .int .u8 r5] 27 (0, 0)) ∧ SenBox wr g1 (limS sgn r0 r1 r2 r3 r4 r5) ∧ wr.heap[g2]? = some (.cells (sixI c) 62 (0, 0)) ∧ Hid (∀ j, j < k → c j = numI sgn (six r0 r1 r2 r3 r4 r5 j))) (fun i _ => 6 - (intOf i).toNat)
  case atStart => exact ⟨0, fun _ => 0, by omega, rfl, HM3.out, HA3.out, HB3.out, HC3.out, Lib.hid (fun j hj => by omega)⟩
  case round =>
    obtain ⟨k, c, hk, rfl, M4, A4, B4, C4, HC⟩ := hrel
    clear HM3 HA3 HB3 HC3
    by_cases hlt : k < 6
    · have hr := HR6.out k
      have ca := (cell_blk A4 k).trans (HRA.out k hlt)
      have cc := (cell_blk C4 k).trans (sixI_get c hlt)
      have cf := froz_blk C4 k
      obtain ⟨r, er⟩ : ∃ r, r = six r0 r1 r2 r3 r4 r5 k := ⟨_, rfl⟩
      rw [← er] at ca hr
      have ER := Lib.hid er
      clear er
      have i1 : (0 : Int) ≤ (k : Int) := by omega
      have i2 : (k : Int) < 6 := by omega
      have HB4 := Lib.hid B4
      have HM4 := Lib.hid M4
      have HA4 := Lib.hid A4
      have HC4 := Lib.hid C4
      clear B4 M4 A4 C4
      by_cases h1 : sgn = true ∧ 128 ≤ r
      · obtain ⟨rfl, h128⟩ := h1
        have hd : decide ((r : Int) > 127) = true := decide_eq_true (by omega)
        have HN := Lib.hid (show numI true r = (r : Int) - 256 by unfold numI; rw [if_pos ⟨rfl, h128⟩])
        clear h128
        go_wp2_with fail
        have hm : ∀ (x : Int) (W : World), Mods [] w W → Mods [] w (W.setCell ⟨g2, k, none⟩ (.int .i64 x)) := fun x W h => h.setCell (.inr (by have := HG.out; have := HW.out; simp; omega)) _
        have hA : ∀ (x : Int) (W : World), W.heap[g0]? = some (.cells #[.int .u8 r0, .int .u8 r1, .int .u8 r2, .int .u8 r3, .int .u8 r4, .int .u8 r5] 27 (0, 0)) → (W.setCell ⟨g2, k, none⟩ (.int .i64 x)).heap[g0]? = some (.cells #[.int .u8 r0, .int .u8 r1, .int .u8 r2, .int .u8 r3, .int .u8 r4, .int .u8 r5] 27 (0, 0)) := fun x W h => heap_setCell_ne h (by have := HZ.out; simp; omega)
        have hB : ∀ (x : Int) (W : World), SenBox W g1 (limS true r0 r1 r2 r3 r4 r5) → SenBox (W.setCell ⟨g2, k, none⟩ (.int .i64 x)) g1 (limS true r0 r1 r2 r3 r4 r5) := fun x W h => ⟨heap_setCell_ne h.blk (by have := HZ.out; simp; omega)⟩
        have hC : ∀ (x : Int) (W : World) (c : Nat → Int), W.heap[g2]? = some (.cells (sixI c) 62 (0, 0)) → (W.setCell ⟨g2, k, none⟩ (.int .i64 x)).heap[g2]? = some (.cells (sixI (fun i => if i = k then x else c i)) 62 (0, 0)) := fun x W c h => by rw [← sixI_set c hlt x]; exact heap_setCell h
        refine ⟨⟨k + 1, _, by omega, by go_num, hm _ _ (hm _ _ HM4.out), hA _ _ (hA _ _ HA4.out), hB _ _ (hB _ _ HB4.out), hC _ _ _ (hC _ _ _ HC4.out), Lib.hid fun j hj => ?_⟩, by simp only [intOf]; omega⟩
        by_cases e : j = k
        · subst e; rw [if_pos rfl, ← ER.out, HN.out]
        · rw [if_neg e, if_neg e]; exact HC.out j (by omega)
      · have HN := Lib.hid (show numI sgn r = r by unfold numI; rw [if_neg h1])
        cases sgn with
        | false =>
          clear h1
          go_wp2_with fail
          have hm : ∀ (x : Int) (W : World), Mods [] w W → Mods [] w (W.setCell ⟨g2, k, none⟩ (.int .i64 x)) := fun x W h => h.setCell (.inr (by have := HG.out; have := HW.out; simp; omega)) _
          have hA : ∀ (x : Int) (W : World), W.heap[g0]? = some (.cells #[.int .u8 r0, .int .u8 r1, .int .u8 r2, .int .u8 r3, .int .u8 r4, .int .u8 r5] 27 (0, 0)) → (W.setCell ⟨g2, k, none⟩ (.int .i64 x)).heap[g0]? = some (.cells #[.int .u8 r0, .int .u8 r1, .int .u8 r2, .int .u8 r3, .int .u8 r4, .int .u8 r5] 27 (0, 0)) := fun x W h => heap_setCell_ne h (by have := HZ.out; simp; omega)
          have hB : ∀ (x : Int) (W : World), SenBox W g1 (limS false r0 r1 r2 r3 r4 r5) → SenBox (W.setCell ⟨g2, k, none⟩ (.int .i64 x)) g1 (limS false r0 r1 r2 r3 r4 r5) := fun x W h => ⟨heap_setCell_ne h.blk (by have := HZ.out; simp; omega)⟩
          have hC : ∀ (x : Int) (W : World) (c : Nat → Int), W.heap[g2]? = some (.cells (sixI c) 62 (0, 0)) → (W.setCell ⟨g2, k, none⟩ (.int .i64 x)).heap[g2]? = some (.cells (sixI (fun i => if i = k then x else c i)) 62 (0, 0)) := fun x W c h => by rw [← sixI_set c hlt x]; exact heap_setCell h
          refine ⟨⟨k + 1, _, by omega, by go_num, hm _ _ HM4.out, hA _ _ HA4.out, hB _ _ HB4.out, hC _ _ _ HC4.out, Lib.hid fun j hj => ?_⟩, by simp only [intOf]; omega⟩
          by_cases e : j = k
          · subst e; rw [if_pos rfl, ← ER.out, HN.out]
          · rw [if_neg e]; exact HC.out j (by omega)
        | true =>
          have hd : decide ((r : Int) > 127) = false := decide_eq_false (by have : ¬ (128 ≤ r) := fun h => h1 ⟨rfl, h⟩; omega)
          clear h1
          go_wp2_with fail
          have hm : ∀ (x : Int) (W : World), Mods [] w W → Mods [] w (W.setCell ⟨g2, k, none⟩ (.int .i64 x)) := fun x W h => h.setCell (.inr (by have := HG.out; have := HW.out; simp; omega)) _
          have hA : ∀ (x : Int) (W : World), W.heap[g0]? = some (.cells #[.int .u8 r0, .int .u8 r1, .int .u8 r2, .int .u8 r3, .int .u8 r4, .int .u8 r5] 27 (0, 0)) → (W.setCell ⟨g2, k, none⟩ (.int .i64 x)).heap[g0]? = some (.cells #[.int .u8 r0, .int .u8 r1, .int .u8 r2, .int .u8 r3, .int .u8 r4, .int .u8 r5] 27 (0, 0)) := fun x W h => heap_setCell_ne h (by have := HZ.out; simp; omega)
          have hB : ∀ (x : Int) (W : World), SenBox W g1 (limS true r0 r1 r2 r3 r4 r5) → SenBox (W.setCell ⟨g2, k, none⟩ (.int .i64 x)) g1 (limS true r0 r1 r2 r3 r4 r5) := fun x W h => ⟨heap_setCell_ne h.blk (by have := HZ.out; simp; omega)⟩
          have hC : ∀ (x : Int) (W : World) (c : Nat → Int), W.heap[g2]? = some (.cells (sixI c) 62 (0, 0)) → (W.setCell ⟨g2, k, none⟩ (.int .i64 x)).heap[g2]? = some (.cells (sixI (fun i => if i = k then x else c i)) 62 (0, 0)) := fun x W c h => by rw [← sixI_set c hlt x]; exact heap_setCell h
          refine ⟨⟨k + 1, _, by omega, by go_num, hm _ _ HM4.out, hA _ _ HA4.out, hB _ _ HB4.out, hC _ _ _ HC4.out, Lib.hid fun j hj => ?_⟩, by simp only [intOf]; omega⟩
          by_cases e : j = k
          · subst e; rw [if_pos rfl, ← ER.out, HN.out]
          · rw [if_neg e]; exact HC.out j (by omega)
    · have hk6 : k = 6 := by omega
      subst hk6
      have HM4 := Lib.hid M4
      have HB4 := Lib.hid B4
      have c0 : wr.cell? ⟨g2, 0, none⟩ = some (.int .i64 (numI sgn r0)) := (cell_blk C4 0).trans (by rw [sixI_get c (by decide), HC.out 0 (by decide)]; rfl)
      have c1 : wr.cell? ⟨g2, 1, none⟩ = some (.int .i64 (numI sgn r1)) := (cell_blk C4 1).trans (by rw [sixI_get c (by decide), HC.out 1 (by decide)]; rfl)
      have c2 : wr.cell? ⟨g2, 2, none⟩ = some (.int .i64 (numI sgn r2)) := (cell_blk C4 2).trans (by rw [sixI_get c (by decide), HC.out 2 (by decide)]; rfl)
      have c3 : wr.cell? ⟨g2, 3, none⟩ = some (.int .i64 (numI sgn r3)) := (cell_blk C4 3).trans (by rw [sixI_get c (by decide), HC.out 3 (by decide)]; rfl)
      have c4 : wr.cell? ⟨g2, 4, none⟩ = some (.int .i64 (numI sgn r4)) := (cell_blk C4 4).trans (by rw [sixI_get c (by decide), HC.out 4 (by decide)]; rfl)
      have c5 : wr.cell? ⟨g2, 5, none⟩ = some (.int .i64 (numI sgn r5)) := (cell_blk C4 5).trans (by rw [sixI_get c (by decide), HC.out 5 (by decide)]; rfl)
      clear M4 A4 B4 C4
      have HV := Lib.hid (limS_valid sgn r0 r1 r2 r3 r4 r5)
      go_wp2_with (refine wpList_load_senG (by rfl) (.tmp 5) rfl HB4.out (by rfl) ?_)
      all_goals
        refine (valid_ok _ (limS sgn r0 r1 r2 r3 r4 r5) [] (limS_is _ sgn HR.out)).mono ?_
        rintro e w5 ⟨rfl, M5⟩
        have HM5 := Lib.hid (HM4.out.trans M5)
        clear M5
        rw [HV.out]
        first
          | (rw [show (decide (numI sgn r2 ≤ numI sgn r1) && decide (numI sgn r1 ≤ numI sgn r0) && decide (numI sgn r0 < numI sgn r3) && decide (numI sgn r3 ≤ numI sgn r4) && decide (numI sgn r4 ≤ numI sgn r5)) = decide (numI sgn r4 ≤ numI sgn r5) from by rw [Bool.eq_iff_iff]; simp only [Bool.and_eq_true, decide_eq_true_eq]; omega]; generalize decide (numI sgn r4 ≤ numI sgn r5) = q; have hq : (q == q) = true := (by cases q <;> rfl))
          | rw [show (decide (numI sgn r2 ≤ numI sgn r1) && decide (numI sgn r1 ≤ numI sgn r0) && decide (numI sgn r0 < numI sgn r3) && decide (numI sgn r3 ≤ numI sgn r4) && decide (numI sgn r4 ≤ numI sgn r5)) = false from by rw [Bool.eq_iff_iff]; simp only [Bool.and_eq_true, decide_eq_true_eq, Bool.false_eq_true, iff_false]; omega]
        clear c0 c1 c2 c3 c4 c5 HV HB4 HM4 HC
        go_wp2_with fail
        refine (awakeS_ok _).mono ?_
        rintro e w6 ⟨rfl, M6⟩
        go_wp2
        go_ret
        exact ⟨rfl, HM5.out.trans M6⟩
end Go.Proofs.Ytokokojmeepoeaa
