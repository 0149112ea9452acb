/- sensor.analog: contract. -/
import Derived.Test.YtijjkonephjodaaOrdered
namespace Go.Proofs.Ytijjkonephjodaa
open Go.RowKit

/-- The cells of a sensor record that lies in a block. -/
structure SenBox (w : World) (g : Nat) (S : Sen) : Prop where
  blk : w.heap[g]? = some (.cells S.cells 32 (0, 0))
theorem SenBox.mods {w w' : World} {g : Nat} {S : Sen} {T : List Nat} (h : SenBox w g S) (hm : Mods T w w') (hn : g ∉ T) : SenBox w' g S := ⟨hm.heap h.blk hn⟩
theorem SenBox.mods0 {w w' : World} {g : Nat} {S : Sen} (h : SenBox w g S) (hm : Mods [] w w') : SenBox w' g S := h.mods hm (by simp)
theorem SenBox.new (w : World) (S : Sen) : SenBox (w.alloc (.cells S.cells 32)) w.heap.size S := ⟨heap_alloc_new _ _⟩
theorem SenBox.c {w : World} {g : Nat} {S : Sen} (h : SenBox w g S) (i : Nat) : w.cell? ⟨g, i, none⟩ = S.cells[i]? := cell_blk h.blk i
theorem SenBox.craw {w : World} {g : Nat} {S : Sen} (h : SenBox w g S) {i : Nat} (hi : i < 6) : w.cell? ⟨g, 15 + i, none⟩ = some (.int .u8 (S.raw i)) := by rw [h.c]; exact S.raw_cell hi
theorem SenBox.conv {w : World} {g : Nat} {S : Sen} (h : SenBox w g S) : w.cell? ⟨g, 7, none⟩ = some (.int .i64 S.conv.form) ∧ w.cell? ⟨g, 8, none⟩ = some (.bool S.conv.sgn) ∧ w.cell? ⟨g, 9, none⟩ = some (.int .i64 S.conv.m) ∧ w.cell? ⟨g, 10, none⟩ = some (.int .i64 S.conv.b) ∧ w.cell? ⟨g, 11, none⟩ = some (.int .i64 S.conv.k1) ∧ w.cell? ⟨g, 12, none⟩ = some (.int .i64 S.conv.k2) ∧ w.cell? ⟨g, 13, none⟩ = some S.conv.pts := by
  refine ⟨?_, ?_, ?_, ?_, ?_, ?_, ?_⟩ <;> (rw [h.c]; rfl)
theorem SenBox.lims {w : World} {g : Nat} {S : Sen} (h : SenBox w g S) : w.cell? ⟨g, 14, none⟩ = some (.int .u8 S.mask) ∧ w.cell? ⟨g, 15, none⟩ = some (.int .u8 S.r0) ∧ w.cell? ⟨g, 16, none⟩ = some (.int .u8 S.r1) ∧ w.cell? ⟨g, 17, none⟩ = some (.int .u8 S.r2) ∧ w.cell? ⟨g, 18, none⟩ = some (.int .u8 S.r3) ∧ w.cell? ⟨g, 19, none⟩ = some (.int .u8 S.r4) ∧ w.cell? ⟨g, 20, none⟩ = some (.int .u8 S.r5) := by
  refine ⟨?_, ?_, ?_, ?_, ?_, ?_, ?_⟩ <;> (rw [h.c]; rfl)
theorem SenBox.rest {w : World} {g : Nat} {S : Sen} (h : SenBox w g S) : w.cell? ⟨g, 21, none⟩ = some (.int .u8 S.hl) ∧ w.cell? ⟨g, 22, none⟩ = some (.int .u8 S.hu) ∧ w.cell? ⟨g, 23, none⟩ = some (.int .u16 S.states) ∧ w.cell? ⟨g, 24, none⟩ = some (.int .u16 S.asrt) ∧ w.cell? ⟨g, 25, none⟩ = some (.int .u16 S.deas) ∧ w.cell? ⟨g, 26, none⟩ = some (.bool S.host) ∧ w.cell? ⟨g, 27, none⟩ = some (.int .i64 S.samples) := by
  refine ⟨?_, ?_, ?_, ?_, ?_, ?_, ?_⟩ <;> (rw [h.c]; rfl)
theorem SenBox.head {w : World} {g : Nat} {S : Sen} (h : SenBox w g S) : w.cell? ⟨g, 0, none⟩ = some (.int .u8 S.number) ∧ w.cell? ⟨g, 1, none⟩ = some (.int .u8 S.type) ∧ w.cell? ⟨g, 2, none⟩ = some (.int .u8 S.unit) ∧ w.cell? ⟨g, 3, none⟩ = some (.string S.name) ∧ w.cell? ⟨g, 4, none⟩ = some (.int .u8 S.eid) ∧ w.cell? ⟨g, 5, none⟩ = some (.int .u8 S.einst) ∧ w.cell? ⟨g, 6, none⟩ = some (.bool S.disc) := by
  refine ⟨?_, ?_, ?_, ?_, ?_, ?_, ?_⟩ <;> (rw [h.c]; rfl)

theorem Sen.infoS (S : Sen) : (Try.prog.info? 32).map (·.size) = some S.cells.size := by
  show _ = some 28
  kernel_rfl
/-- A sensor record read whole out of its block. -/
theorem wpList_load_sen {ops : Array Oper} {rest : List Oper} {o : Oper} {a : Act} {w : World} {Q : Exit → Act → World → Prop} (hgd : o.guard = none) (x : Operand) (ho : o.op = .load 32 x)
    {g : Nat} {S : Sen} (hb : SenBox w g S) (hx : a.eval x = .pointer (some ⟨g, 0, none⟩)) (h : wpList Try.prog ops Q rest (a.put o.dst (.agg S.cells)) w) : wpList Try.prog ops Q (o :: rest) a w :=
  wpList_load_row hgd _ x ho g hx _ _ _ _ hb.blk Try.underlying32 rfl S.infoS h

theorem zeroRaw_no {S : Sen} {i : Nat} (hi : i < 6) (hb : S.mask.testBit i = false) (hr : S.raw i ≠ 0) : zeroRaw S = false := by
  cases hz : zeroRaw S with
  | false => rfl
  | true =>
    unfold zeroRaw at hz
    rw [List.all_eq_true] at hz
    have := hz i (List.mem_range.2 hi)
    rw [hb] at this
    simp at this
    exact absurd this hr
set_option maxRecDepth 100000 in
set_option maxHeartbeats 4000000 in
theorem analog_ok (w : World) (S : Sen) (P : List Pt) (hS : IsSen w S P) :
    Calls Try.prog 77 #[.agg S.cells] w fun e w' => e = .returned (.bool (analogB S P)) ∧ Mods [] w w' := by
  have hm := hS.mask
  have HS := Lib.hid hS
  have HR := Lib.hid hS.raw
  have hst := hS.states
  have ha := hS.asrt
  have hd := hS.deas
  clear hS
  go_enter Try.func77, Try.ntmps77
  have B0 := SenBox.new w S
  have M0 := (Mods.refl (S := []) (w := w)).alloc (.cells S.cells 32)
  obtain ⟨x7, x8, x9, x10, x11, x12, x13⟩ := B0.conv
  go_wp2_with fail
  refine (convValid_ok _ S.conv P (HS.out.mods0 M0).conv).mono ?_
  rintro e w2 ⟨rfl, M1⟩
  have B2 := B0.mods0 M1
  have M2 := Lib.hid (M0.trans M1)
  have BB := Lib.hid B2
  clear x7 x8 x9 x10 x11 x12 x13 M0 B0 M1
  generalize w.heap.size = g at B2 BB ⊢
  obtain ⟨y14, y15, y16, y17, y18, y19, y20⟩ := B2.lims
  obtain ⟨_, _, y23, y24, y25, _, _⟩ := B2.rest
  clear B2
  have ho : S.asrt ||| S.deas < 65536 := Nat.or_lt_two_pow (n := 16) ha hd
  have b1 : bits .or .u16 (S.asrt : Int) (S.deas : Int) = ((S.asrt ||| S.deas : Nat) : Int) := u16_or_nat _ _ ha hd
  have b2 : bits .andNot .u16 ((S.asrt ||| S.deas : Nat) : Int) (S.mask : Int) = (((S.asrt ||| S.deas) &&& (65535 - S.mask) : Nat) : Int) := u16_andNot_nat _ _ ho (by omega)
  cases hcv : convB S.conv P with
  | false =>
    have HF := Lib.hid (show analogB S P = false by simp only [analogB, hcv, Bool.false_and])
    clear hcv
    go_wp2_with fail
    go_ret
    exact ⟨ret_bool (by rw [HF.out]), M2.out⟩
  | true =>
    have HC := Lib.hid hcv
    clear hcv
    by_cases h64 : S.mask < 64
    · have e1 : decide (64 ≤ (S.mask : Int)) = false := by simp; omega
      by_cases h0 : S.states = 0
      · have e2 : ((S.states : Int) != 0) = false := by simp [h0]
        by_cases hx : (S.asrt ||| S.deas) &&& (65535 - S.mask) = 0
        · have e3 : ((((S.asrt ||| S.deas) &&& (65535 - S.mask) : Nat) : Int) != 0) = false := by simp only [hx]; rfl
          have HB := Lib.hid (show analogB S P = (zeroRaw S && ordB S.mask S.num) by simp only [analogB, HC.out, decide_eq_true h64, decide_eq_true h0, decide_eq_true hx, Bool.true_and])
          clear h0 hx
          go_wp2_with fail
          go_loopw [36] (fun i wr => ∃ k : Nat, k ≤ 6 ∧ i = .int .i64 k ∧ wr = w2 ∧ Hid (∀ j, j < k → (S.mask.testBit j || decide (S.raw j = 0)) = true)) (fun i _ => 6 - (intOf i).toNat)
          case atStart => exact ⟨0, by omega, rfl, rfl, fun j hj => by omega⟩
          case round =>
            obtain ⟨k, hk, rfl, hwr, hs⟩ := hrel
            subst hwr
            by_cases hlt : k < 6
            · have hix : ∀ W : World, (Instr.index 27 (.agg #[.int .u8 (S.r0 : Int), .int .u8 (S.r1 : Int), .int .u8 (S.r2 : Int), .int .u8 (S.r3 : Int), .int .u8 (S.r4 : Int), .int .u8 (S.r5 : Int)]) (.int .i64 (k : Int))).run Try.prog W = .ok (.int .u8 (S.raw k : Int)) W := by
                match k, hlt with
                | 0, _ | 1, _ | 2, _ | 3, _ | 4, _ | 5, _ => exact fun W => by kernel_rfl
              have b8 := bit8 hm k
              cases hb : S.mask.testBit k with
              | true =>
                rw [hb] at b8
                have b9 : (bits .and .u8 ((S.mask : Int) / 2 ^ k) 1 == 0) = false := by rw [b8]; rfl
                have HB2 := Lib.hid hb
                clear hb b8
                go_wp2_with fail
                go_roundw
                case rel => exact ⟨k + 1, by omega, by go_num, by first | rfl | trivial, fun j hj => by
                  rcases Nat.lt_or_ge j k with h | h
                  · exact hs.out j h
                  · obtain rfl : j = k := by omega
                    rw [HB2.out]; rfl⟩
                case measure => simp [intOf]; omega
              | false =>
                rw [hb] at b8
                have b9 : (bits .and .u8 ((S.mask : Int) / 2 ^ k) 1 == 0) = true := by rw [b8]; rfl
                have HB2 := Lib.hid hb
                have HZ := Lib.hid (fun h => zeroRaw_no hlt hb h)
                clear hb b8
                by_cases hr : S.raw k = 0
                · have e5 : ((S.raw k : Int) != 0) = false := by simp [hr]
                  have HR2 := Lib.hid hr
                  clear hr
                  go_wp2_with fail
                  go_roundw
                  case rel => exact ⟨k + 1, by omega, by go_num, by first | rfl | trivial, fun j hj => by
                    rcases Nat.lt_or_ge j k with h | h
                    · exact hs.out j h
                    · obtain rfl : j = k := by omega
                      rw [HR2.out]; simp⟩
                  case measure => simp [intOf]; omega
                · have e5 : ((S.raw k : Int) != 0) = true := by simp [hr]
                  have HF := Lib.hid (show analogB S P = false by rw [HB.out, HZ.out hr]; rfl)
                  clear hr
                  go_wp2_with fail
                  go_ret
                  exact ⟨ret_bool (by rw [HF.out]), M2.out⟩
            · have HZ := Lib.hid (show zeroRaw S = true by
                unfold zeroRaw
                rw [List.all_eq_true]
                exact fun j hj => hs.out j (by have := List.mem_range.1 hj; omega))
              go_wp2_with (refine wpList_load_sen rfl (.tmp 1) rfl BB.out (by rfl) ?_)
              refine (ordered_ok _ S P (HS.out.mods0 M2.out)).mono ?_
              rintro e w3 ⟨rfl, M3⟩
              go_wp2
              go_ret
              exact ⟨ret_bool (by rw [HB.out, HZ.out]; rfl), M2.out.trans M3⟩
        · have e3 : ((((S.asrt ||| S.deas) &&& (65535 - S.mask) : Nat) : Int) != 0) = true := by simp only [bne_iff_ne, ne_eq, Int.natCast_eq_zero]; exact hx
          have HF := Lib.hid (show analogB S P = false by simp only [analogB, decide_eq_false hx, Bool.false_and, Bool.and_false])
          clear h0 hx
          go_wp2_with fail
          go_ret
          exact ⟨ret_bool (by rw [HF.out]), M2.out⟩
      · have e2 : ((S.states : Int) != 0) = true := by simp [h0]
        have HF := Lib.hid (show analogB S P = false by simp only [analogB, decide_eq_false h0, Bool.false_and, Bool.and_false])
        clear h0
        go_wp2_with fail
        go_ret
        exact ⟨ret_bool (by rw [HF.out]), M2.out⟩
    · have e1 : decide (64 ≤ (S.mask : Int)) = true := by simp; omega
      have HF := Lib.hid (show analogB S P = false by simp only [analogB, decide_eq_false h64, Bool.false_and, Bool.and_false])
      go_wp2_with fail
      go_ret
      exact ⟨ret_bool (by rw [HF.out]), M2.out⟩
end Go.Proofs.Ytijjkonephjodaa
