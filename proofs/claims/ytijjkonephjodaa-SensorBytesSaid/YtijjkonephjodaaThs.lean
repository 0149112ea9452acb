/- The dice's thresholds: contract. -/
import Derived.Test.YtijjkonephjodaaText
namespace Go.Proofs.Ytijjkonephjodaa
open Go.RowKit

def ordI (k : Nat) : Nat := if k < 3 then 2 - k else k
def doneP (k i : Nat) : Prop := (i < 3 ∧ 3 ≤ i + k) ∨ (3 ≤ i ∧ i < k)
structure Ths (lo : Int) (m : Nat) (R : Nat → Nat) (N : Nat → Int) (k : Nat) (x : Int) : Prop where
  x0 : lo ≤ x
  x1 : x ≤ lo + 40 + 36 * k
  rng : ∀ i, R i < 256
  zero : ∀ i, i < 6 → ¬ (m.testBit i = true ∧ doneP k i) → R i = 0
  le : ∀ i, i < 6 → m.testBit i = true → doneP k i → N i ≤ x ∧ (i < 3 → 3 < k → N i < x)
  ord : ∀ i j, j < 6 → i < j → m.testBit i = true → m.testBit j = true → doneP k i → doneP k j → (j < 3 → N j ≤ N i) ∧ (3 ≤ i → N i ≤ N j) ∧ (i < 3 → 3 ≤ j → N i < N j)
def stepX (k : Nat) (x : Int) : Int := if k = 3 then x + 1 else x
theorem Ths.skip {lo : Int} {m : Nat} {R : Nat → Nat} {N : Nat → Int} {k : Nat} {x : Int} (h : Ths lo m R N k x) (hk : k < 6) (hb : m.testBit (ordI k) = false) : Ths lo m R N (k + 1) (stepX k x) := by
  have hx : x ≤ stepX k x ∧ stepX k x ≤ x + 1 ∧ (k = 3 → stepX k x = x + 1) := by unfold stepX; split <;> omega
  have dd : ∀ i, i < 6 → m.testBit i = true → doneP (k + 1) i → doneP k i ∧ i ≠ ordI k := by
    intro i hi hbi hd
    have hne : i ≠ ordI k := by rintro rfl; rw [hb] at hbi; cases hbi
    refine ⟨?_, hne⟩
    unfold doneP at hd ⊢
    unfold ordI at hne
    split at hne <;> omega
  have h1 := h.x0
  have h2 := h.x1
  refine ⟨by omega, by omega, h.rng, ?_, ?_, ?_⟩
  · intro i hi hn
    refine h.zero i hi fun ⟨ha, hd⟩ => hn ⟨ha, ?_⟩
    unfold doneP at hd ⊢; omega
  · intro i hi hbi hd
    have ⟨d1, _⟩ := dd i hi hbi hd
    have ⟨a, b⟩ := h.le i hi hbi d1
    refine ⟨by omega, fun h3 hk3 => ?_⟩
    by_cases e : k = 3
    · have := hx.2.2 e; omega
    · have := b h3 (by omega); omega
  · intro i j hj hij hbi hbj hdi hdj
    exact h.ord i j hj hij hbi hbj (dd i (by omega) hbi hdi).1 (dd j hj hbj hdj).1
theorem Ths.put {lo : Int} {m : Nat} {R R' : Nat → Nat} {N N' : Nat → Int} {k : Nat} {x d : Int} (h : Ths lo m R N k x) (hk : k < 6) (hR : ∀ i, R' i < 256) (hR2 : ∀ i, i ≠ ordI k → R' i = R i) (hN : N' (ordI k) = stepX k x) (hN2 : ∀ i, i ≠ ordI k → N' i = N i) (hd0 : 0 ≤ d) (hd1 : d ≤ 35) (hb : m.testBit (ordI k) = true) : Ths lo m R' N' (k + 1) (stepX k x + d) := by
  have hx : x ≤ stepX k x ∧ stepX k x ≤ x + 1 ∧ (k = 3 → stepX k x = x + 1) ∧ (k ≠ 3 → stepX k x = x) := by unfold stepX; split <;> omega
  have ho : ordI k < 6 := by unfold ordI; split <;> omega
  have dd : ∀ i, doneP (k + 1) i → i ≠ ordI k → doneP k i := by
    intro i hd hne
    unfold doneP at hd ⊢
    unfold ordI at hne
    split at hne <;> omega
  have h1 := h.x0
  have h2 := h.x1
  have hfirst : lo ≤ x ∧ x ≤ lo + 40 + 36 * k := ⟨h1, h2⟩
  have hx1 : stepX k x + d ≤ lo + 40 + 36 * ((k + 1 : Nat) : Int) := by omega
  refine ⟨by omega, hx1, hR, ?_, ?_, ?_⟩
  · intro i hi hn
    by_cases e : i = ordI k
    · refine absurd ⟨by rw [e]; exact hb, ?_⟩ hn
      rw [e]; unfold doneP ordI; split <;> omega
    · rw [hR2 i e]
      refine h.zero i hi fun ⟨ha, hd⟩ => hn ⟨ha, ?_⟩
      unfold doneP at hd ⊢; omega
  · intro i hi hbi hd
    by_cases e : i = ordI k
    · rw [e, hN]
      refine ⟨by omega, fun h3 hk3 => ?_⟩
      unfold ordI at h3; split at h3 <;> omega
    · rw [hN2 i e]
      have ⟨a, b⟩ := h.le i hi hbi (dd i hd e)
      refine ⟨by omega, fun h3 hk3 => ?_⟩
      by_cases e3 : k = 3
      · have := hx.2.2.1 e3; omega
      · have := b h3 (by omega); omega
  · intro i j hj hij hbi hbj hdi hdj
    by_cases ei : i = ordI k
    · have ej : j ≠ ordI k := by omega
      have dj := dd j hdj ej
      have ⟨a, b⟩ := h.le j hj hbj dj
      rw [hN2 j ej]
      rw [ei, hN]
      unfold doneP at dj
      unfold ordI at ei ⊢
      split at ei
      · rw [if_pos ‹_›]; refine ⟨fun _ => by omega, fun _ => by omega, fun _ _ => by omega⟩
      · rw [if_neg ‹_›]; refine ⟨fun _ => by omega, fun _ => by omega, fun _ _ => by omega⟩
    · have di := dd i hdi ei
      rw [hN2 i ei]
      by_cases ej : j = ordI k
      · have ⟨a, b⟩ := h.le i (by omega) hbi di
        rw [ej, hN]
        unfold doneP at di
        have hs3 : i < 3 → 3 ≤ ordI k → N i < stepX k x := by
          intro hi3 ho3
          by_cases e3 : k = 3
          · have := hx.2.2.1 e3; omega
          · have : 3 < k := by unfold ordI at ho3; split at ho3 <;> omega
            have := b hi3 this; omega
        refine ⟨fun hh => ?_, fun _ => by omega, hs3⟩
        unfold ordI at ej hh
        split at ej
        · omega
        · rw [if_neg ‹_›] at hh; omega
      · rw [hN2 j ej]
        exact h.ord i j hj hij hbi hbj di (dd j hdj ej)

theorem IsDice.drewN {w : World} {b n : Nat} {v : Value} {L : List Int} (h : IsDice w b v L n) (k : Nat) : IsDice (w.drewN k) b v L n := h.mods0 (Mods.refl.drewN k)
theorem Ths.start {lo : Int} {m : Nat} {N : Nat → Int} {x : Int} (h0 : lo ≤ x) (h1 : x ≤ lo + 39) : Ths lo m (fun _ => 0) N 0 x := by
  have nd : ∀ i, ¬ doneP 0 i := by intro i hd; unfold doneP at hd; omega
  exact ⟨h0, by omega, fun _ => by decide, fun _ _ _ => rfl, fun i _ _ hd => absurd hd (nd i), fun i _ _ _ _ _ hd => absurd hd (nd i)⟩
theorem Ths.fin {lo : Int} {m : Nat} {R : Nat → Nat} {N : Nat → Int} {x : Int} (h : Ths lo m R N 6 x) : ordB m N = true ∧ ∀ i, i < 6 → m.testBit i = false → R i = 0 := by
  have dn : ∀ i, i < 6 → doneP 6 i := by intro i hi; unfold doneP; omega
  refine ⟨?_, fun i hi hb => h.zero i hi fun ⟨ha, _⟩ => by rw [hb] at ha; cases ha⟩
  unfold ordB
  rw [List.all_eq_true]
  intro i hi
  have hi := List.mem_range.1 hi
  cases hbi : m.testBit i with
  | false => rfl
  | true =>
    rw [Bool.not_true, Bool.false_or, List.all_eq_true]
    intro k hk
    have hk := List.mem_range.1 hk
    cases hbk : m.testBit k with
    | false => rfl
    | true =>
      have ⟨a, b, c⟩ := h.ord k i hi hk hbk hbi (dn k (by omega)) (dn i hi)
      simp only [Bool.not_true, Bool.false_or, pairB]
      simp
      omega
def thsCells (m : Nat) (R : Nat → Nat) : Array Value := #[.int .u8 m, .int .u8 (R 0), .int .u8 (R 1), .int .u8 (R 2), .int .u8 (R 3), .int .u8 (R 4), .int .u8 (R 5)]
theorem thsCells_set (m : Nat) (R : Nat → Nat) {o : Nat} (ho : o < 6) (r : Nat) : (thsCells m R).setIfInBounds (1 + o) (.int .u8 r) = thsCells m (fun i => if i = o then r else R i) := by
  match o, ho with
  | 0, _ | 1, _ | 2, _ | 3, _ | 4, _ | 5, _ => rfl
theorem ordCell {w : World} {g k : Nat} {T : TypeId} (h : w.heap[g]? = some (.cells #[.int .i64 2, .int .i64 1, .int .i64 0, .int .i64 3, .int .i64 4, .int .i64 5] T (0, 0))) (hk : k < 6) : w.cell? ⟨g, k, none⟩ = some (.int .i64 (ordI k)) := by
  rw [cell_blk h]
  match k, hk with
  | 0, _ | 1, _ | 2, _ | 3, _ | 4, _ | 5, _ => rfl
/-- Thresholds of the dice. -/
def MadeThs (w : World) (b : Nat) (v : Value) (L : List Int) (sgn : Bool) (e : Ending) (w' : World) : Prop :=
  ∃ (m n : Nat) (R : Nat → Nat), e = .returned (.agg (thsCells m R)) ∧ m < 64 ∧ (∀ i, R i < 256) ∧ ordB m (fun i => numI sgn (R i)) = true ∧ (∀ i, i < 6 → m.testBit i = false → R i = 0) ∧ IsDice w' b v L n ∧ Mods [b] w w'
set_option maxRecDepth 100000 in
set_option maxHeartbeats 2000000 in
theorem thresholds_ok (w : World) (b : Nat) (v : Value) (L : List Int) (n : Nat) (h : IsDice w b v L n) (sgn : Bool) :
    Calls Try.prog 47 #[.pointer (some ⟨b, 0, none⟩), .bool sgn] w fun e w' => MadeThs w b v L sgn e w' := by
  have hbl := h.lt
  have H := Lib.hid h
  have hv := Lib.hid h.vlt
  clear h
  have hlo : -128 ≤ leastI sgn ∧ leastI sgn ≤ 0 := by unfold leastI; cases sgn <;> decide
  go_enter Try.func47, Try.ntmps47
  go_wp2_with fail
  have M1 := (Mods.refl (S := []) (w := w)).alloc (.cells #[.int .u8 0, .int .u8 0, .int .u8 0, .int .u8 0, .int .u8 0, .int .u8 0, .int .u8 0] 29)
  have G1 := heap_alloc_new w (.cells #[.int .u8 0, .int .u8 0, .int .u8 0, .int .u8 0, .int .u8 0, .int .u8 0, .int .u8 0] 29)
  have Z1 : (w.alloc (.cells #[.int .u8 0, .int .u8 0, .int .u8 0, .int .u8 0, .int .u8 0, .int .u8 0, .int .u8 0] 29)).heap.size = w.heap.size + 1 := by simp
  generalize w.alloc (.cells #[.int .u8 0, .int .u8 0, .int .u8 0, .int .u8 0, .int .u8 0, .int .u8 0, .int .u8 0] 29) = w1 at M1 G1 Z1 ⊢
  generalize hgr : w.heap.size = gr at G1 Z1 hbl ⊢
  have HGR := Lib.hid hgr
  clear hgr
  have D1 := H.out.mods0 M1
  refine (next_ok w1 b v L n D1 64 (by omega) (by omega)).mono ?_
  rintro e w2 ⟨mi, n2, rfl, m0, m1, D2, M2⟩
  obtain ⟨m, rfl⟩ := Int.eq_ofNat_of_zero_le m0
  have hm : m < 64 := by omega
  have G2 := M2.heap G1 (by simp; omega)
  have MM := (M1.nil (S := [b])).trans M2
  have Z2 := M2.size
  rw [Z1] at Z2
  clear M1 M2 D1 G1 m0 m1 Z1
  go_wp2_with fail
  refine (least_ok sgn _).mono ?_
  rintro e w3 ⟨rfl, rfl⟩
  have M3 := (Mods.refl (S := []) (w := w2)).alloc (.cells #[.int .u8 m, .int .u8 0, .int .u8 0, .int .u8 0, .int .u8 0, .int .u8 0, .int .u8 0] 29)
  have G3 : (w2.alloc (.cells #[.int .u8 m, .int .u8 0, .int .u8 0, .int .u8 0, .int .u8 0, .int .u8 0, .int .u8 0] 29)).heap[w2.heap.size]? = some (.cells (thsCells m fun _ => 0) 29 (0, 0)) := heap_alloc_new _ _
  have R3 := heap_alloc (o' := .cells #[.int .u8 m, .int .u8 0, .int .u8 0, .int .u8 0, .int .u8 0, .int .u8 0, .int .u8 0] 29) G2
  have Z3 : (w2.alloc (.cells #[.int .u8 m, .int .u8 0, .int .u8 0, .int .u8 0, .int .u8 0, .int .u8 0, .int .u8 0] 29)).heap.size = w2.heap.size + 1 := by simp
  generalize w2.alloc (.cells #[.int .u8 m, .int .u8 0, .int .u8 0, .int .u8 0, .int .u8 0, .int .u8 0, .int .u8 0] 29) = w3 at M3 G3 R3 Z3 ⊢
  have D3 := D2.mods0 M3
  generalize w2.heap.size = g at G3 Z3 Z2 ⊢
  clear D2 G2
  go_wp2_with fail
  refine (next_ok w3 b v L n2 D3 40 (by omega) (by omega)).mono ?_
  rintro e w4 ⟨x, n4, rfl, x0, x1, D4, M4⟩
  have G4 := M4.heap G3 (by simp; omega)
  have R4 := M4.heap R3 (by simp; omega)
  have Z4 := M4.size
  rw [Z3] at Z4
  have MM := (MM.trans M3.nil).trans M4
  clear D3 G3 R3 M3 M4 Z3
  go_wp2_with fail
  have M5 := (Mods.refl (S := []) (w := w4)).alloc (.cells #[.int .i64 2, .int .i64 1, .int .i64 0, .int .i64 3, .int .i64 4, .int .i64 5] 116)
  have O5 := heap_alloc_new w4 (.cells #[.int .i64 2, .int .i64 1, .int .i64 0, .int .i64 3, .int .i64 4, .int .i64 5] 116)
  have G5 := M5.heap G4 (by simp)
  have R5 := M5.heap R4 (by simp)
  have D5 := D4.mods0 M5
  generalize w4.alloc (.cells #[.int .i64 2, .int .i64 1, .int .i64 0, .int .i64 3, .int .i64 4, .int .i64 5] 116) = w5 at M5 O5 G5 R5 D5 ⊢
  have MM := MM.trans M5.nil
  generalize w4.heap.size = g2 at O5 Z4 ⊢
  clear D4 G4 R4 M5
  have T0 : Ths (leastI sgn) m (fun _ => 0) (fun i => numI sgn ((fun _ => 0 : Nat → Nat) i)) 0 (leastI sgn + x) := Ths.start (by omega) (by omega)
  go_loopw [6, 8] (fun y i wr => ∃ (k n6 : Nat) (x : Int) (R : Nat → Nat), k ≤ 6 ∧ i = .int .i64 k ∧ y = .int .i64 x ∧ IsDice wr b v L n6 ∧ Mods [b] w wr ∧ wr.heap[gr]? = some (.cells #[.int .u8 0, .int .u8 0, .int .u8 0, .int .u8 0, .int .u8 0, .int .u8 0, .int .u8 0] 29 (0, 0))
      ∧ wr.heap[g]? = some (.cells (thsCells m R) 29 (0, 0)) ∧ wr.heap[g2]? = some (.cells #[.int .i64 2, .int .i64 1, .int .i64 0, .int .i64 3, .int .i64 4, .int .i64 5] 116 (0, 0)) ∧ Hid (Ths (leastI sgn) m R (fun i => numI sgn (R i)) k x)) (fun _ i _ => 6 - (intOf i).toNat)
  case atStart => exact ⟨0, n4, _, _, by omega, rfl, rfl, D5, MM, R5, G5, O5, T0⟩
  case round =>
    obtain ⟨k, n6, y, R, hk, rfl, rfl, D6, M6, R6, G6, O6, T6⟩ := hrel
    clear D5 MM R5 G5 O5 T0 x0 x1
    by_cases hlt : k < 6
    · have ho : ordI k < 6 := by unfold ordI; split <;> omega
      have tx0 := T6.out.x0
      have tx1 := T6.out.x1
      have c0 : wr.cell? ⟨g, 0, none⟩ = some (.int .u8 m) := cell_blk G6 0
      have c1 := ordCell O6 hlt
      have c2 : wr.cell? ⟨g, 1 + ordI k, none⟩ = some (.int .u8 (R (ordI k))) := by
        rw [cell_blk G6]
        match ordI k, ho with
        | 0, _ | 1, _ | 2, _ | 3, _ | 4, _ | 5, _ => rfl
      have cf : wr.frozen? ⟨g, 1 + ordI k, none⟩ = false := froz_blk G6 _
      have i1 : (0 : Int) ≤ (k : Int) := by omega
      have i2 : (k : Int) < 6 := by omega
      have hw := wrap16 (m := m) (by omega)
      obtain ⟨o, hoo⟩ : ∃ o, o = ordI k := ⟨_, rfl⟩
      rw [← hoo] at ho c1 c2 cf
      have HO := Lib.hid hoo
      clear hoo
      have i3 : (0 : Int) ≤ (o : Int) := by omega
      have i4 : (o : Int) < 6 := by omega
      by_cases h3 : k = 3
      · have e3 : (k == 3) = true := by simp [h3]
        have e4 : ((k : Int) == 3) = true := by simp [h3]
        have HX := Lib.hid (show stepX k y = y + 1 by unfold stepX; rw [if_pos h3])
        clear h3
        cases hb : m.testBit o with
        | false =>
          have TS := Lib.hid (HX.out ▸ T6.out.skip hlt (by rw [← HO.out]; exact hb))
          have HB := Lib.hid (show ∀ W : World, Calls Try.prog 81 #[.int .u16 m, .int .i64 o] W fun e w' => e = .returned (.bool false) ∧ W = w' from fun W => hb ▸ has_ok m o (by omega) (by omega) W)
          clear hb
          go_wp2_with fail
          go_quiet ((go_at_call 81; exact quiet_left (HB.out _)))
          go_wp2
          exact ⟨⟨k + 1, n6, (y+1), R, by omega, by go_num, rfl, D6.drewN nq, M6.drewN nq, R6, G6, O6, TS.out⟩, by simp only [intOf]; omega⟩
        | true =>
          have HB := Lib.hid (show ∀ W : World, Calls Try.prog 81 #[.int .u16 m, .int .i64 o] W fun e w' => e = .returned (.bool true) ∧ W = w' from fun W => hb ▸ has_ok m o (by omega) (by omega) W)
          have HBB := Lib.hid hb
          clear hb
          go_wp2_with fail
          go_quiet ((go_at_call 81; exact quiet_left (HB.out _)))
          have D7 := D6.drewN nq
          have M7 := M6.drewN nq
          have R7 := heap_drewN (n := nq) R6
          have G7 := heap_drewN (n := nq) G6
          have O7 := heap_drewN (n := nq) O6
          have c1 : (wr.drewN nq).cell? ⟨g2, k, none⟩ = some (.int .i64 o) := c1
          have c2 : (wr.drewN nq).cell? ⟨g, 1 + o, none⟩ = some (.int .u8 (R o)) := by simpa using c2
          have cf : (wr.drewN nq).frozen? ⟨g, 1 + o, none⟩ = false := by simpa using cf
          generalize wr.drewN nq = w7 at D7 M7 R7 G7 O7 c1 c2 cf ⊢
          clear D6 M6 R6 G6 O6 c0
          go_wp2_with fail
          go_still_tail 7, (by kernel_rfl)
          still_call ((raw_ok (y+1) (by omega) (by omega) _).mono fun _ _ ⟨h1, h2⟩ => ⟨h1, h2.symm⟩)
          repeat still_step
          refine wpStill_nil ?_
          change wpList _ _ _ _ _ w7.drew
          have D8 : IsDice w7.drew b v L n6 := D7.drewN 1
          have M8 := M7.drew
          have R8 : w7.drew.heap[gr]? = _ := R7
          have G8 : w7.drew.heap[g]? = _ := G7
          have O8 : w7.drew.heap[g2]? = _ := O7
          have c2 : w7.drew.cell? ⟨g, 1 + o, none⟩ = some (.int .u8 (R o)) := by simpa using c2
          have cf : w7.drew.frozen? ⟨g, 1 + o, none⟩ = false := by simpa using cf
          generalize w7.drew = w8 at D8 M8 R8 G8 O8 c2 cf ⊢
          clear D7 M7 R7 G7 O7 c1
          go_wp2_with fail
          have D9 := D8.set (p := ⟨g, 1 + o, none⟩) (by simp; omega) (fun hl k hk => by have := hv.out hl k hk; have := HGR.out; simp; omega) (.int .u8 (rawI (y+1)))
          have M9 := M8.setCell (p := ⟨g, 1 + o, none⟩) (.inr (by have := HGR.out; simp; omega)) (.int .u8 (rawI (y+1)))
          have R9 := heap_setCell_ne (a := ⟨g, 1 + o, none⟩) (v := .int .u8 (rawI (y+1))) R8 (by simp; omega)
          have O9 := heap_setCell_ne (a := ⟨g, 1 + o, none⟩) (v := .int .u8 (rawI (y+1))) O8 (by simp; omega)
          have G9 := heap_setCell (i := 1 + o) (v := .int .u8 (rawI (y+1))) G8
          rw [thsCells_set m R ho (rawI (y+1))] at G9
          generalize w8.setCell ⟨g, 1 + o, none⟩ (.int .u8 (rawI (y+1))) = w9 at D9 M9 R9 O9 G9 ⊢
          clear D8 M8 R8 G8 O8 c2 cf
          refine (next_ok w9 b v L n6 D9 36 (by omega) (by omega)).mono ?_
          rintro e w10 ⟨d, n10, rfl, d0, d1, D10, M10⟩
          have TS := Lib.hid (T6.out.put (R' := fun i => if i = o then rawI (y+1) else R i) (N' := fun i => numI sgn ((fun i => if i = o then rawI (y+1) else R i) i)) (d := d) hlt
            (fun i => by show (if i = o then rawI (y+1) else R i) < 256; split; exact rawI_lt _; exact T6.out.rng i) (fun i hi => by rw [← HO.out] at hi; simp [hi])
            (by rw [← HO.out, HX.out]; simp only [if_true]; exact num_raw (by omega) (by omega)) (fun i hi => by rw [← HO.out] at hi; simp [hi]) d0 (by omega) (by rw [← HO.out]; exact HBB.out))
          rw [HX.out] at TS
          have R10 := M10.heap R9 (by simp; omega)
          have O10 := M10.heap O9 (by simp; omega)
          have G10 := M10.heap G9 (by simp; omega)
          have MM := Lib.hid (M9.trans M10)
          clear M9 M10 R9 O9 G9 D9
          go_wp2
          exact ⟨⟨k + 1, n10, (y+1) + d, _, by omega, by go_num, rfl, D10, MM.out, R10, G10, O10, TS.out⟩, by simp only [intOf]; omega⟩
      · have e3 : (k == 3) = false := by simp [h3]
        have e4 : ((k : Int) == 3) = false := by simp; omega
        have HX := Lib.hid (show stepX k y = y by unfold stepX; rw [if_neg h3])
        clear h3
        cases hb : m.testBit o with
        | false =>
          have TS := Lib.hid (HX.out ▸ T6.out.skip hlt (by rw [← HO.out]; exact hb))
          have HB := Lib.hid (show ∀ W : World, Calls Try.prog 81 #[.int .u16 m, .int .i64 o] W fun e w' => e = .returned (.bool false) ∧ W = w' from fun W => hb ▸ has_ok m o (by omega) (by omega) W)
          clear hb
          go_wp2_with fail
          go_quiet ((go_at_call 81; exact quiet_left (HB.out _)))
          go_wp2
          exact ⟨⟨k + 1, n6, y, R, by omega, by go_num, rfl, D6.drewN nq, M6.drewN nq, R6, G6, O6, TS.out⟩, by simp only [intOf]; omega⟩
        | true =>
          have HB := Lib.hid (show ∀ W : World, Calls Try.prog 81 #[.int .u16 m, .int .i64 o] W fun e w' => e = .returned (.bool true) ∧ W = w' from fun W => hb ▸ has_ok m o (by omega) (by omega) W)
          have HBB := Lib.hid hb
          clear hb
          go_wp2_with fail
          go_quiet ((go_at_call 81; exact quiet_left (HB.out _)))
          have D7 := D6.drewN nq
          have M7 := M6.drewN nq
          have R7 := heap_drewN (n := nq) R6
          have G7 := heap_drewN (n := nq) G6
          have O7 := heap_drewN (n := nq) O6
          have c1 : (wr.drewN nq).cell? ⟨g2, k, none⟩ = some (.int .i64 o) := c1
          have c2 : (wr.drewN nq).cell? ⟨g, 1 + o, none⟩ = some (.int .u8 (R o)) := by simpa using c2
          have cf : (wr.drewN nq).frozen? ⟨g, 1 + o, none⟩ = false := by simpa using cf
          generalize wr.drewN nq = w7 at D7 M7 R7 G7 O7 c1 c2 cf ⊢
          clear D6 M6 R6 G6 O6 c0
          go_wp2_with fail
          go_still_tail 7, (by kernel_rfl)
          still_call ((raw_ok y (by omega) (by omega) _).mono fun _ _ ⟨h1, h2⟩ => ⟨h1, h2.symm⟩)
          repeat still_step
          refine wpStill_nil ?_
          change wpList _ _ _ _ _ w7.drew
          have D8 : IsDice w7.drew b v L n6 := D7.drewN 1
          have M8 := M7.drew
          have R8 : w7.drew.heap[gr]? = _ := R7
          have G8 : w7.drew.heap[g]? = _ := G7
          have O8 : w7.drew.heap[g2]? = _ := O7
          have c2 : w7.drew.cell? ⟨g, 1 + o, none⟩ = some (.int .u8 (R o)) := by simpa using c2
          have cf : w7.drew.frozen? ⟨g, 1 + o, none⟩ = false := by simpa using cf
          generalize w7.drew = w8 at D8 M8 R8 G8 O8 c2 cf ⊢
          clear D7 M7 R7 G7 O7 c1
          go_wp2_with fail
          have D9 := D8.set (p := ⟨g, 1 + o, none⟩) (by simp; omega) (fun hl k hk => by have := hv.out hl k hk; have := HGR.out; simp; omega) (.int .u8 (rawI y))
          have M9 := M8.setCell (p := ⟨g, 1 + o, none⟩) (.inr (by have := HGR.out; simp; omega)) (.int .u8 (rawI y))
          have R9 := heap_setCell_ne (a := ⟨g, 1 + o, none⟩) (v := .int .u8 (rawI y)) R8 (by simp; omega)
          have O9 := heap_setCell_ne (a := ⟨g, 1 + o, none⟩) (v := .int .u8 (rawI y)) O8 (by simp; omega)
          have G9 := heap_setCell (i := 1 + o) (v := .int .u8 (rawI y)) G8
          rw [thsCells_set m R ho (rawI y)] at G9
          generalize w8.setCell ⟨g, 1 + o, none⟩ (.int .u8 (rawI y)) = w9 at D9 M9 R9 O9 G9 ⊢
          clear D8 M8 R8 G8 O8 c2 cf
          refine (next_ok w9 b v L n6 D9 36 (by omega) (by omega)).mono ?_
          rintro e w10 ⟨d, n10, rfl, d0, d1, D10, M10⟩
          have TS := Lib.hid (T6.out.put (R' := fun i => if i = o then rawI y else R i) (N' := fun i => numI sgn ((fun i => if i = o then rawI y else R i) i)) (d := d) hlt
            (fun i => by show (if i = o then rawI y else R i) < 256; split; exact rawI_lt _; exact T6.out.rng i) (fun i hi => by rw [← HO.out] at hi; simp [hi])
            (by rw [← HO.out, HX.out]; simp only [if_true]; exact num_raw (by omega) (by omega)) (fun i hi => by rw [← HO.out] at hi; simp [hi]) d0 (by omega) (by rw [← HO.out]; exact HBB.out))
          rw [HX.out] at TS
          have R10 := M10.heap R9 (by simp; omega)
          have O10 := M10.heap O9 (by simp; omega)
          have G10 := M10.heap G9 (by simp; omega)
          have MM := Lib.hid (M9.trans M10)
          clear M9 M10 R9 O9 G9 D9
          go_wp2
          exact ⟨⟨k + 1, n10, y + d, _, by omega, by go_num, rfl, D10, MM.out, R10, G10, O10, TS.out⟩, by simp only [intOf]; omega⟩
    · have hk6 : k = 6 := by omega
      subst hk6
      have HT := Lib.hid T6.out.fin
      have HR := Lib.hid T6.out.rng
      have cs : ∀ i, wr.cell? ⟨g, i, none⟩ = (thsCells m R)[i]? := fun i => cell_blk G6 i
      have s0 : wr.cell? ⟨g, 0, none⟩ = some (.int .u8 m) := cs 0
      have s1 : wr.cell? ⟨g, 1, none⟩ = some (.int .u8 (R 0)) := cs 1
      have s2 : wr.cell? ⟨g, 2, none⟩ = some (.int .u8 (R 1)) := cs 2
      have s3 : wr.cell? ⟨g, 3, none⟩ = some (.int .u8 (R 2)) := cs 3
      have s4 : wr.cell? ⟨g, 4, none⟩ = some (.int .u8 (R 3)) := cs 4
      have s5 : wr.cell? ⟨g, 5, none⟩ = some (.int .u8 (R 4)) := cs 5
      have s6 : wr.cell? ⟨g, 6, none⟩ = some (.int .u8 (R 5)) := cs 6
      have u0 : wr.cell? ⟨gr, 0, none⟩ = some (.int .u8 0) := cell_blk R6 0
      have u1 : wr.cell? ⟨gr, 1, none⟩ = some (.int .u8 0) := cell_blk R6 1
      have u2 : wr.cell? ⟨gr, 2, none⟩ = some (.int .u8 0) := cell_blk R6 2
      have u3 : wr.cell? ⟨gr, 3, none⟩ = some (.int .u8 0) := cell_blk R6 3
      have u4 : wr.cell? ⟨gr, 4, none⟩ = some (.int .u8 0) := cell_blk R6 4
      have u5 : wr.cell? ⟨gr, 5, none⟩ = some (.int .u8 0) := cell_blk R6 5
      have u6 : wr.cell? ⟨gr, 6, none⟩ = some (.int .u8 0) := cell_blk R6 6
      have uf := fun i => froz_blk R6 i
      have DD := Lib.hid D6
      have MM := Lib.hid M6
      have RR := Lib.hid R6
      clear cs D6 M6 R6 G6 O6 T6
      go_wp2_with fail
      have G := heap_setCell (i := 6) (v := .int .u8 (R 5)) (heap_setCell (i := 5) (v := .int .u8 (R 4)) (heap_setCell (i := 4) (v := .int .u8 (R 3)) (heap_setCell (i := 3) (v := .int .u8 (R 2)) (heap_setCell (i := 2) (v := .int .u8 (R 1)) (heap_setCell (i := 1) (v := .int .u8 (R 0)) (heap_setCell (i := 0) (v := .int .u8 m) RR.out))))))
      have HB : gr ≠ b := by omega
      have HV : L ≠ [] → ∀ k, v.ownBlock = some k → k ≠ gr := fun hl k hk => by have := hv.out hl k hk; have := HGR.out; omega
      have HM : ∀ (i : Nat) (u : Value) (W : World), Mods [b] w W → Mods [b] w (W.setCell ⟨gr, i, none⟩ u) := fun i u W h => h.setCell (.inr (by have := HGR.out; simp; omega)) u
      have HD : ∀ (i : Nat) (u : Value) (W : World), IsDice W b v L n6 → IsDice (W.setCell ⟨gr, i, none⟩ u) b v L n6 := fun i u W h => h.set (by simp; omega) HV u
      refine bodyPost_ret (results_cell_row rfl _ _ gr _ _ _ _ rfl G Try.underlying29 rfl (by kernel_rfl)) rfl ?_
      exact ⟨m, n6, R, rfl, hm, HR.out, HT.out.1, HT.out.2, HD _ _ _ (HD _ _ _ (HD _ _ _ (HD _ _ _ (HD _ _ _ (HD _ _ _ (HD _ _ _ DD.out)))))), HM _ _ _ (HM _ _ _ (HM _ _ _ (HM _ _ _ (HM _ _ _ (HM _ _ _ (HM _ _ _ MM.out))))))⟩
end Go.Proofs.Ytijjkonephjodaa
