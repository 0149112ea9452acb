/- event.Valid, Encode and Decode: contracts. -/
import Derived.Test.YtkdadnlleepkfaaLgB
import Derived.Laws.Cover3
namespace Go.Proofs.Ytkdadnlleepkfaa
open Go.RowKit
set_option linter.unusedVariables false
set_option linter.unusedSimpArgs false

set_option maxRecDepth 100000 in
set_option maxHeartbeats 1000000 in
theorem evValid_ok (w : World) (e : Evt) :
    Calls Try.prog 52 #[.agg e.cells.toArray] w fun en w' => en = .returned (.bool (validE e)) ∧ Mods [] w w' := by
  have M0 := Lib.hid ((Mods.refl (S := []) (w := w)).alloc (.cells e.cells.toArray 37))
  have B0 := Lib.hid (EvBox.new w e)
  obtain ⟨c0, c1, _, _, _, c5, _⟩ := B0.out.cs
  have HV := Lib.hid (validE_iff e)
  generalize hv : validE e = r at HV ⊢
  clear hv
  by_cases h1 : e.id.val ≤ 65534
  · have d1 : decide ((e.id.val : Int) ≤ 65534) = true := decide_eq_true (by omega)
    by_cases h2 : e.time.val ≤ 4294967294
    · have d2 : decide ((e.time.val : Int) ≤ 4294967294) = true := decide_eq_true (by omega)
      by_cases h3 : e.typ.val ≤ 127
      · have d3 : decide ((e.typ.val : Int) ≤ 127) = true := decide_eq_true (by omega)
        have HR := Lib.hid (HV.out.2 ⟨h1, h2, h3⟩)
        clear h1 h2 h3
        go_enter Try.func52, Try.ntmps52
        go_wp2_with fail
        go_ret
        exact ⟨ret_bool HR.out.symm, M0.out⟩
      · have d3 : decide ((e.typ.val : Int) ≤ 127) = false := decide_eq_false (by omega)
        have HR := Lib.hid (show r = false by cases r with | false => rfl | true => exact absurd (HV.out.1 rfl).2.2 h3)
        clear h1 h2 h3
        go_enter Try.func52, Try.ntmps52
        go_wp2_with fail
        go_ret
        exact ⟨ret_bool HR.out.symm, M0.out⟩
    · have d2 : decide ((e.time.val : Int) ≤ 4294967294) = false := decide_eq_false (by omega)
      have HR := Lib.hid (show r = false by cases r with | false => rfl | true => exact absurd (HV.out.1 rfl).2.1 h2)
      clear h1 h2
      go_enter Try.func52, Try.ntmps52
      go_wp2_with fail
      go_ret
      exact ⟨ret_bool HR.out.symm, M0.out⟩
  · have d1 : decide ((e.id.val : Int) ≤ 65534) = false := decide_eq_false (by omega)
    have HR := Lib.hid (show r = false by cases r with | false => rfl | true => exact absurd (HV.out.1 rfl).1 h1)
    clear h1
    go_enter Try.func52, Try.ntmps52
    go_wp2_with fail
    go_ret
    exact ⟨ret_bool HR.out.symm, M0.out⟩
/-- The bytes of an event, in a slice of the call's own. -/
def EvOut (w : World) (A : List Int) (e : Ending) (w' : World) : Prop := ∃ v', e = .returned (.tuple #[v', .int .i64 0]) ∧ OwnB w' w.heap.size v' A ∧ Mods [] w w'
set_option maxRecDepth 100000 in
set_option maxHeartbeats 2000000 in
theorem evEncode_ok (w : World) (e : Evt) (h : validE e = true) :
    Calls Try.prog 55 #[.agg e.cells.toArray] w fun en w' => EvOut w (encEv e) en w' := by
  have M0 := Lib.hid ((Mods.refl (S := []) (w := w)).alloc (.cells e.cells.toArray 37))
  have B0 := Lib.hid (EvBox.new w e)
  have HV := Lib.hid h
  obtain ⟨h1, h2, h3⟩ := (validE_iff e).1 h
  clear h
  have hor : bits .or .u8 ((e.typ.val : Nat) : Int) 128 = ((e.typ.val + 128 : Nat) : Int) := by
    have h := u8_or_nat e.typ.val 128 (by omega) (by omega)
    have h2 := nat_join 7 128 e.typ.val (by decide) (by omega)
    rw [Nat.or_comm, h2, Nat.add_comm] at h
    exact h
  have hgen := e.gen.isLt
  go_enter Try.func55, Try.ntmps55
  go_wp2_with (refine wpList_load_row rfl 37 (.tmp 1) rfl w.heap.size (by rfl) _ _ _ _ B0.out Try.underlying37 rfl Try.sizeEv ?_)
  refine (evValid_ok _ e).mono ?_
  rw [HV.out]
  rintro en w1 ⟨rfl, M1⟩
  have HM := Lib.hid (M0.out.trans M1)
  have HB := Lib.hid (B0.out.mods0 M1)
  obtain ⟨c0, c1, c2, c3, c4, c5, c6, c7, c8, c9⟩ := HB.out.cs
  clear M1
  have HL := Lib.hid (OwnB.lit w1 HM.out.size (encEv e) (by unfold maxLen; rw [encEv_len]; decide))
  rw [encEv_len] at HL
  cases hd : e.de with
  | false =>
    rw [hd] at c6
    go_wp2_with fail
    go_ret2
    refine ⟨_, rfl, ?_, HM.out.alloc _⟩
    have h := HL.out
    have ha : (u8s (encEv e)).toArray = #[.int .u8 ((e.id.val : Int) % 256), .int .u8 ((e.id.val : Int) / 256), .int .u8 2, .int .u8 ((e.time.val : Int) % 256), .int .u8 ((e.time.val : Int) / 256 % 256), .int .u8 ((e.time.val : Int) / 65536 % 256), .int .u8 ((e.time.val : Int) / 16777216), .int .u8 ((e.gen.val : Int) % 256), .int .u8 ((e.gen.val : Int) / 256), .int .u8 4, .int .u8 (e.st.val : Int), .int .u8 (e.sen.val : Int), .int .u8 (e.typ.val : Int), .int .u8 (e.d0.val : Int), .int .u8 (e.d1.val : Int), .int .u8 (e.d2.val : Int)] := by
      simp [u8s, encEv, hd]
    rw [ha] at h
    exact h
  | true =>
    rw [hd] at c6
    go_wp2_with fail
    go_ret2
    refine ⟨_, rfl, ?_, HM.out.alloc _⟩
    have h := HL.out
    have ha : (u8s (encEv e)).toArray = #[.int .u8 ((e.id.val : Int) % 256), .int .u8 ((e.id.val : Int) / 256), .int .u8 2, .int .u8 ((e.time.val : Int) % 256), .int .u8 ((e.time.val : Int) / 256 % 256), .int .u8 ((e.time.val : Int) / 65536 % 256), .int .u8 ((e.time.val : Int) / 16777216), .int .u8 ((e.gen.val : Int) % 256), .int .u8 ((e.gen.val : Int) / 256), .int .u8 4, .int .u8 (e.st.val : Int), .int .u8 (e.sen.val : Int), .int .u8 (((e.typ.val + 128 : Nat)) : Int), .int .u8 (e.d0.val : Int), .int .u8 (e.d1.val : Int), .int .u8 (e.d2.val : Int)] := by
      simp [u8s, encEv, hd]
    rw [ha] at h
    first
      | exact h
      | (rw [hor]; exact h)
/-- What Decode of sixteen bytes gives. -/
def DecE (w : World) (c : Nat → Nat) (e : Ending) (w' : World) : Prop :=
  ∃ (x : Evt) (er : Int), e = .returned (.tuple #[.agg x.cells.toArray, .int .i64 er]) ∧ (decEv c = if er = 0 then some x else none) ∧ Mods [] w w'
theorem join16 (X Y : Nat) (hX : X < 256) (hY : Y < 256) : bits .or .u16 (X : Int) ((Y : Int) * 256) = ((X + 256 * Y : Nat) : Int) := by
  have h := u16_or_nat X (Y * 256) (by omega) (by omega)
  have hj := nat_join 8 (Y * 256) X (by omega) (by omega)
  rw [Nat.or_comm, hj] at h
  rw [Int.natCast_mul] at h
  exact h.trans (by omega)
theorem or32 (X Y i : Nat) (hX : X < 2 ^ i) (hi : i ≤ 24) (hY : Y < 256) : bits .or .u32 (X : Int) ((Y * 2 ^ i : Nat) : Int) = ((X + Y * 2 ^ i : Nat) : Int) := by
  have hp : 2 ^ i ≤ 2 ^ 24 := Nat.pow_le_pow_right (by decide) hi
  have h2 : Y * 2 ^ i ≤ 255 * 2 ^ 24 := Nat.mul_le_mul (by omega) hp
  have hp2 : (2 : Nat) ^ 24 = 16777216 := by decide
  rw [u32_or_nat X (Y * 2 ^ i) (by omega) (by omega), Nat.or_comm, nat_join i (Y * 2 ^ i) X (Nat.mul_mod_left _ _) hX, Nat.add_comm]
theorem and127 : ∀ a, a < 256 → a &&& (255 - 128) = a % 128 := by decide +kernel
theorem and128 : ∀ a, a < 256 → a &&& 128 = if 128 ≤ a then 128 else 0 := by decide +kernel
theorem raw_cells (f : Nat → Nat) (hn : ∀ i, f i < 256) :
    (#[.int .u16 (bits .or .u16 (IntKind.u16.wrap (f 0 : Nat)) (IntKind.u16.wrap (IntKind.u16.wrap (f 1 : Nat) * 256))),
      .int .u32 (bits .or .u32 (bits .or .u32 (bits .or .u32 (IntKind.u32.wrap (f 3 : Nat)) (IntKind.u32.wrap (IntKind.u32.wrap (f 4 : Nat) * 256))) (IntKind.u32.wrap (IntKind.u32.wrap (f 5 : Nat) * 65536))) (IntKind.u32.wrap (IntKind.u32.wrap (f 6 : Nat) * 16777216))),
      .int .u16 (bits .or .u16 (IntKind.u16.wrap (f 7 : Nat)) (IntKind.u16.wrap (IntKind.u16.wrap (f 8 : Nat) * 256))), .int .u8 (f 10 : Nat), .int .u8 (f 11 : Nat), .int .u8 (bits .andNot .u8 (f 12 : Nat) 128), .bool (bits .and .u8 (f 12 : Nat) 128 != 0), .int .u8 (f 13 : Nat), .int .u8 (f 14 : Nat), .int .u8 (f 15 : Nat)] : Array Value) = (rawEv f).cells.toArray := by
  have e16 : ∀ i, IntKind.u16.wrap ((f i : Nat) : Int) = ((f i : Nat) : Int) := fun i => by have := hn i; rw [IntKind.wrap_u16]; omega
  have g16 : ∀ i, IntKind.u16.wrap (((f i : Nat) : Int) * 256) = ((f i : Nat) : Int) * 256 := fun i => by have := hn i; rw [IntKind.wrap_u16]; omega
  have e32 : ∀ i, IntKind.u32.wrap ((f i : Nat) : Int) = ((f i : Nat) : Int) := fun i => by have := hn i; rw [IntKind.wrap_u32']; omega
  have g32 : ∀ i, IntKind.u32.wrap (((f i : Nat) : Int) * 256) = ((f i : Nat) : Int) * 256 := fun i => by have := hn i; rw [IntKind.wrap_u32']; omega
  have h32 : ∀ i, IntKind.u32.wrap (((f i : Nat) : Int) * 65536) = ((f i : Nat) : Int) * 65536 := fun i => by have := hn i; rw [IntKind.wrap_u32']; omega
  have k32 : ∀ i, IntKind.u32.wrap (((f i : Nat) : Int) * 16777216) = ((f i : Nat) : Int) * 16777216 := fun i => by have := hn i; rw [IntKind.wrap_u32']; omega
  have b3 := hn 3
  have b4 := hn 4
  have b5 := hn 5
  have j1 : bits .or .u32 ((f 3 : Nat) : Int) (((f 4 : Nat) : Int) * 256) = ((f 3 + f 4 * 256 : Nat) : Int) := by have := or32 (f 3) (f 4) 8 (by omega) (by omega) (hn 4); rw [Int.natCast_mul] at this; exact this
  have j2 : bits .or .u32 ((f 3 + f 4 * 256 : Nat) : Int) (((f 5 : Nat) : Int) * 65536) = ((f 3 + f 4 * 256 + f 5 * 65536 : Nat) : Int) := by have := or32 (f 3 + f 4 * 256) (f 5) 16 (by omega) (by omega) (hn 5); rw [Int.natCast_mul] at this; exact this
  have j3 : bits .or .u32 ((f 3 + f 4 * 256 + f 5 * 65536 : Nat) : Int) (((f 6 : Nat) : Int) * 16777216) = ((f 3 + f 4 * 256 + f 5 * 65536 + f 6 * 16777216 : Nat) : Int) := by have := or32 (f 3 + f 4 * 256 + f 5 * 65536) (f 6) 24 (by omega) (by omega) (hn 6); rw [Int.natCast_mul] at this; exact this
  have a1 : bits .andNot .u8 ((f 12 : Nat) : Int) 128 = ((f 12 % 128 : Nat) : Int) := by have h := u8_andNot_nat (f 12) 128 (hn 12) (by decide); rw [and127 _ (hn 12)] at h; exact h
  have a2 : (bits .and .u8 ((f 12 : Nat) : Int) 128 != 0) = decide (128 ≤ f 12) := by
    have h := u8_and_nat (f 12) 128 (hn 12) (by decide)
    rw [and128 _ (hn 12)] at h
    rw [show (128 : Int) = ((128 : Nat) : Int) from rfl, h]
    split
    · rename_i hh; rw [decide_eq_true hh]; rfl
    · rename_i hh; rw [decide_eq_false hh]; rfl
  rw [e16, e16, e16, e16, g16, g16, e32, e32, e32, e32, g32, h32, k32, join16 _ _ (hn 0) (hn 1), join16 _ _ (hn 7) (hn 8), j1, j2, j3, a1, a2]
  have c0 := hn 0
  have c1 := hn 1
  have c6 := hn 6
  have c7 := hn 7
  have c8 := hn 8
  have c10 := hn 10
  have c11 := hn 11
  have c12 := hn 12
  have c13 := hn 13
  have c14 := hn 14
  have c15 := hn 15
  unfold Evt.cells rawEv f8 f16 f32
  refine congrArg List.toArray ?_
  simp only [List.cons.injEq, Value.int.injEq, true_and, and_true, Value.bool.injEq]
  refine ⟨by omega, by omega, by omega, by omega, by omega, by omega, by omega, by omega, by omega⟩
theorem Try.size3 : (Try.prog.info? 35).map (·.size) = some 3 := by kernel_rfl
set_option maxRecDepth 100000 in
set_option maxHeartbeats 8000000 in
theorem evDecode_ok (w : World) (v : Value) (A : List Int) (hv : Rd w v (u8s A)) (hb : Bytes A) (hl : A.length = 16) :
    Calls Try.prog 85 #[v] w fun e w' => DecE w (fun i => (A.getD i 0).toNat) e w' := by
  obtain ⟨ad, cap, rfl, h1, h2, hc⟩ := hv.u8
  obtain ⟨bb, off, rfl, x0⟩ := hc 0 (by omega)
  have hx : ∀ i, i < 16 → w.cell? ⟨bb, off + i, none⟩ = some (.int .u8 ((A.getD i 0).toNat : Nat)) := fun i hi => by
    obtain ⟨b', o', he, hx⟩ := hc i (by omega)
    cases he
    have := hb i
    rw [hx, show ((A.getD i 0).toNat : Int) = A.getD i 0 by omega]
  have hn : ∀ i, (A.getD i 0).toNat < 256 := fun i => by have := hb i; omega
  rw [hl] at h1 ⊢
  clear hc hv hb hl x0
  generalize hf : (fun i => (A.getD i 0).toNat) = f
  have hx : ∀ i, i < 16 → w.cell? ⟨bb, off + i, none⟩ = some (.int .u8 (f i : Nat)) := by rw [← hf]; exact hx
  have hn : ∀ i, f i < 256 := by rw [← hf]; exact hn
  clear hf
  have HX := Lib.hid hx
  have HN := Lib.hid hn
  clear hx hn
  have M0 := Lib.hid ((Mods.refl (S := []) (w := w)).alloc (.cells (zE).cells.toArray 37))
  have B0 := Lib.hid (EvBox.new w zE)
  have M0 : Hid (Mods [] w (w.alloc (.cells #[.int .u16 0, .int .u32 0, .int .u16 0, .int .u8 0, .int .u8 0, .int .u8 0, .bool false, .int .u8 0, .int .u8 0, .int .u8 0] 37))) := M0
  have B0 : Hid ((w.alloc (.cells #[.int .u16 0, .int .u32 0, .int .u16 0, .int .u8 0, .int .u8 0, .int .u8 0, .bool false, .int .u8 0, .int .u8 0, .int .u8 0] 37)).heap[w.heap.size]? = some (.cells #[.int .u16 0, .int .u32 0, .int .u16 0, .int .u8 0, .int .u8 0, .int .u8 0, .bool false, .int .u8 0, .int .u8 0, .int .u8 0] 37 (0, 0))) := B0
  have h2 : cap ≤ 9223372036854775807 := h2
  go_enter Try.func85, Try.ntmps85
  go_upto_region 1 with (fail)
  generalize w.alloc (.cells #[.int .u16 0, .int .u32 0, .int .u16 0, .int .u8 0, .int .u8 0, .int .u8 0, .bool false, .int .u8 0, .int .u8 0, .int .u8 0] 37) = w0 at B0 M0 ⊢
  generalize hg0 : w.heap.size = g0 at B0 ⊢
  have HG0 := Lib.hid (Nat.le_of_eq hg0)
  clear hg0
  have HXM := Lib.hid (fun W (M : Mods [] w0 W) i (hi : i < 16) => M.cell (M0.out.cell (HX.out i hi) (by simp)) (by simp))
  have x2 := HXM.out w0 Mods.refl 2 (by omega)
  have x9 := HXM.out w0 Mods.refl 9 (by omega)
  by_cases hg : f 2 = 2 ∧ f 9 = 4
  · have d2 : (((f 2 : Nat) : Int) != 2) = false := by simp [hg.1]
    have d9 : (((f 9 : Nat) : Int) != 4) = false := by simp [hg.2]
    have HG := Lib.hid hg
    clear hg
    have hc13 : ¬ cap = 13 := by omega
    have hAA : ∀ W, (Instr.arrayAt 35 (.slice (some ⟨bb, off + 13, none⟩) 3 (cap - 13))).run Try.prog W = .ok (.pointer (some ⟨bb, off + 13, none⟩)) W := fun W => run_arrayAt (P := Try.prog) (w := W) 35 5 3 _ 3 _ Try.underlying35 (Nat.le_refl _)
    have HRG := Lib.hid (fun W (M : Mods [] w0 W) => show W.rangeAt bb (off + 13) [.int .u8 ((f 13 : Nat) : Int), .int .u8 ((f 14 : Nat) : Int), .int .u8 ((f 15 : Nat) : Int)] from fun j u hu => by
      match j, hu with
      | 0, hu => injection hu with hu; subst hu; exact HXM.out W M 13 (by omega)
      | 1, hu => injection hu with hu; subst hu; exact HXM.out W M 14 (by omega)
      | 2, hu => injection hu with hu; subst hu; exact HXM.out W M 15 (by omega))
    go_wp2_with fail
    try dsimp only [Act.put]
    clear x2 x9 d2 d9
    have n0 : (0 : Int) ≤ ((f 0 : Nat) : Int) := by omega
    have m0 : ((f 0 : Nat) : Int) ≤ 255 := by have := HN.out 0; omega
    have n1 : (0 : Int) ≤ ((f 1 : Nat) : Int) := by omega
    have m1 : ((f 1 : Nat) : Int) ≤ 255 := by have := HN.out 1; omega
    have n3 : (0 : Int) ≤ ((f 3 : Nat) : Int) := by omega
    have m3 : ((f 3 : Nat) : Int) ≤ 255 := by have := HN.out 3; omega
    have n4 : (0 : Int) ≤ ((f 4 : Nat) : Int) := by omega
    have m4 : ((f 4 : Nat) : Int) ≤ 255 := by have := HN.out 4; omega
    have n5 : (0 : Int) ≤ ((f 5 : Nat) : Int) := by omega
    have m5 : ((f 5 : Nat) : Int) ≤ 255 := by have := HN.out 5; omega
    have n6 : (0 : Int) ≤ ((f 6 : Nat) : Int) := by omega
    have m6 : ((f 6 : Nat) : Int) ≤ 255 := by have := HN.out 6; omega
    have n7 : (0 : Int) ≤ ((f 7 : Nat) : Int) := by omega
    have m7 : ((f 7 : Nat) : Int) ≤ 255 := by have := HN.out 7; omega
    have n8 : (0 : Int) ≤ ((f 8 : Nat) : Int) := by omega
    have m8 : ((f 8 : Nat) : Int) ≤ 255 := by have := HN.out 8; omega
    have n10 : (0 : Int) ≤ ((f 10 : Nat) : Int) := by omega
    have m10 : ((f 10 : Nat) : Int) ≤ 255 := by have := HN.out 10; omega
    have n11 : (0 : Int) ≤ ((f 11 : Nat) : Int) := by omega
    have m11 : ((f 11 : Nat) : Int) ≤ 255 := by have := HN.out 11; omega
    have n12 : (0 : Int) ≤ ((f 12 : Nat) : Int) := by omega
    have m12 : ((f 12 : Nat) : Int) ≤ 255 := by have := HN.out 12; omega
    have n13 : (0 : Int) ≤ ((f 13 : Nat) : Int) := by omega
    have m13 : ((f 13 : Nat) : Int) ≤ 255 := by have := HN.out 13; omega
    have n14 : (0 : Int) ≤ ((f 14 : Nat) : Int) := by omega
    have m14 : ((f 14 : Nat) : Int) ≤ 255 := by have := HN.out 14; omega
    have n15 : (0 : Int) ≤ ((f 15 : Nat) : Int) := by omega
    have m15 : ((f 15 : Nat) : Int) ≤ 255 := by have := HN.out 15; omega
    refine heldStart (S := fun W => Mods [] w0 W) 64 rfl (by kernel_rfl) Mods.refl.drew (fun hHeld => ?_)
    refine takeD (i := 0) (d := 27) (v := ?_) rfl rfl (by kernel_rfl) (by kernel_rfl) (by kernel_rfl) (fun _ _ _ h => h) (Or.inl ⟨by rfl, ?_⟩) hHeld ?_
    rotate_left 1
    · (intro w hSw; (try dsimp only at hSw); go_simp; (try with_reducible rfl))
    simp only [List.setIfInBounds_toArray, List.set_cons_zero, List.set_cons_succ]
    refine takeD (i := 1) (d := 28) (v := ?_) rfl rfl (by kernel_rfl) (by kernel_rfl) (by kernel_rfl) (fun _ _ _ h => h) (Or.inl ⟨by rfl, ?_⟩) hHeld ?_
    rotate_left 1
    · (intro w hSw; (try dsimp only at hSw); go_simp; (try with_reducible rfl))
    simp only [List.setIfInBounds_toArray, List.set_cons_zero, List.set_cons_succ]
    refine takeD (i := 2) (d := 29) (v := .int .u8 (f 0 : Nat)) rfl rfl (by kernel_rfl) (by kernel_rfl) (by kernel_rfl) (fun _ _ _ h => h) (Or.inl ⟨by rfl, fun w hSw => ?_⟩) hHeld ?_
    · have cst := HXM.out w hSw 0 (by omega)
      try rw [Nat.add_zero] at cst
      go_simp
    simp only [List.setIfInBounds_toArray, List.set_cons_zero, List.set_cons_succ]
    refine takeD (i := 3) (d := 30) (v := ?_) rfl rfl (by kernel_rfl) (by kernel_rfl) (by kernel_rfl) (fun _ _ _ h => h) (Or.inl ⟨by rfl, ?_⟩) hHeld ?_
    rotate_left 1
    · (intro w hSw; (try dsimp only at hSw); go_simp; (try with_reducible rfl))
    simp only [List.setIfInBounds_toArray, List.set_cons_zero, List.set_cons_succ]
    refine takeD (i := 4) (d := 31) (v := ?_) rfl rfl (by kernel_rfl) (by kernel_rfl) (by kernel_rfl) (fun _ _ _ h => h) (Or.inl ⟨by rfl, ?_⟩) hHeld ?_
    rotate_left 1
    · (intro w hSw; (try dsimp only at hSw); go_simp; (try with_reducible rfl))
    simp only [List.setIfInBounds_toArray, List.set_cons_zero, List.set_cons_succ]
    refine takeD (i := 5) (d := 32) (v := ?_) rfl rfl (by kernel_rfl) (by kernel_rfl) (by kernel_rfl) (fun _ _ _ h => h) (Or.inl ⟨by rfl, ?_⟩) hHeld ?_
    rotate_left 1
    · (intro w hSw; (try dsimp only at hSw); go_simp; (try with_reducible rfl))
    simp only [List.setIfInBounds_toArray, List.set_cons_zero, List.set_cons_succ]
    refine takeD (i := 6) (d := 33) (v := .int .u8 (f 1 : Nat)) rfl rfl (by kernel_rfl) (by kernel_rfl) (by kernel_rfl) (fun _ _ _ h => h) (Or.inl ⟨by rfl, fun w hSw => ?_⟩) hHeld ?_
    · have cst := HXM.out w hSw 1 (by omega)
      try rw [Nat.add_zero] at cst
      go_simp
    simp only [List.setIfInBounds_toArray, List.set_cons_zero, List.set_cons_succ]
    refine takeD (i := 7) (d := 34) (v := ?_) rfl rfl (by kernel_rfl) (by kernel_rfl) (by kernel_rfl) (fun _ _ _ h => h) (Or.inl ⟨by rfl, ?_⟩) hHeld ?_
    rotate_left 1
    · (intro w hSw; (try dsimp only at hSw); go_simp; (try with_reducible rfl))
    simp only [List.setIfInBounds_toArray, List.set_cons_zero, List.set_cons_succ]
    refine takeD (i := 8) (d := 35) (v := ?_) rfl rfl (by kernel_rfl) (by kernel_rfl) (by kernel_rfl) (fun _ _ _ h => h) (Or.inl ⟨by rfl, ?_⟩) hHeld ?_
    rotate_left 1
    · (intro w hSw; (try dsimp only at hSw); go_simp; (try with_reducible rfl))
    simp only [List.setIfInBounds_toArray, List.set_cons_zero, List.set_cons_succ]
    refine takeD (i := 9) (d := 36) (v := ?_) rfl rfl (by kernel_rfl) (by kernel_rfl) (by kernel_rfl) (fun _ _ _ h => h) (Or.inl ⟨by rfl, ?_⟩) hHeld ?_
    rotate_left 1
    · (intro w hSw; (try dsimp only at hSw); go_simp; (try with_reducible rfl))
    simp only [List.setIfInBounds_toArray, List.set_cons_zero, List.set_cons_succ]
    refine takeD (i := 10) (d := 37) (v := ?_) rfl rfl (by kernel_rfl) (by kernel_rfl) (by kernel_rfl) (fun _ _ _ h => h) (Or.inl ⟨by rfl, ?_⟩) hHeld ?_
    rotate_left 1
    · (intro w hSw; (try dsimp only at hSw); go_simp; (try with_reducible rfl))
    simp only [List.setIfInBounds_toArray, List.set_cons_zero, List.set_cons_succ]
    refine takeD (i := 11) (d := 38) (v := ?_) rfl rfl (by kernel_rfl) (by kernel_rfl) (by kernel_rfl) (fun _ _ _ h => h) (Or.inl ⟨by rfl, ?_⟩) hHeld ?_
    rotate_left 1
    · (intro w hSw; (try dsimp only at hSw); go_simp; (try with_reducible rfl))
    simp only [List.setIfInBounds_toArray, List.set_cons_zero, List.set_cons_succ]
    refine takeD (i := 12) (d := 39) (v := .int .u8 (f 3 : Nat)) rfl rfl (by kernel_rfl) (by kernel_rfl) (by kernel_rfl) (fun _ _ _ h => h) (Or.inl ⟨by rfl, fun w hSw => ?_⟩) hHeld ?_
    · have cst := HXM.out w hSw 3 (by omega)
      try rw [Nat.add_zero] at cst
      go_simp
    simp only [List.setIfInBounds_toArray, List.set_cons_zero, List.set_cons_succ]
    refine takeD (i := 13) (d := 40) (v := ?_) rfl rfl (by kernel_rfl) (by kernel_rfl) (by kernel_rfl) (fun _ _ _ h => h) (Or.inl ⟨by rfl, ?_⟩) hHeld ?_
    rotate_left 1
    · (intro w hSw; (try dsimp only at hSw); go_simp; (try with_reducible rfl))
    simp only [List.setIfInBounds_toArray, List.set_cons_zero, List.set_cons_succ]
    refine takeD (i := 14) (d := 41) (v := ?_) rfl rfl (by kernel_rfl) (by kernel_rfl) (by kernel_rfl) (fun _ _ _ h => h) (Or.inl ⟨by rfl, ?_⟩) hHeld ?_
    rotate_left 1
    · (intro w hSw; (try dsimp only at hSw); go_simp; (try with_reducible rfl))
    simp only [List.setIfInBounds_toArray, List.set_cons_zero, List.set_cons_succ]
    refine takeD (i := 15) (d := 42) (v := ?_) rfl rfl (by kernel_rfl) (by kernel_rfl) (by kernel_rfl) (fun _ _ _ h => h) (Or.inl ⟨by rfl, ?_⟩) hHeld ?_
    rotate_left 1
    · (intro w hSw; (try dsimp only at hSw); go_simp; (try with_reducible rfl))
    simp only [List.setIfInBounds_toArray, List.set_cons_zero, List.set_cons_succ]
    refine takeD (i := 16) (d := 43) (v := .int .u8 (f 4 : Nat)) rfl rfl (by kernel_rfl) (by kernel_rfl) (by kernel_rfl) (fun _ _ _ h => h) (Or.inl ⟨by rfl, fun w hSw => ?_⟩) hHeld ?_
    · have cst := HXM.out w hSw 4 (by omega)
      try rw [Nat.add_zero] at cst
      go_simp
    simp only [List.setIfInBounds_toArray, List.set_cons_zero, List.set_cons_succ]
    refine takeD (i := 17) (d := 44) (v := ?_) rfl rfl (by kernel_rfl) (by kernel_rfl) (by kernel_rfl) (fun _ _ _ h => h) (Or.inl ⟨by rfl, ?_⟩) hHeld ?_
    rotate_left 1
    · (intro w hSw; (try dsimp only at hSw); go_simp; (try with_reducible rfl))
    simp only [List.setIfInBounds_toArray, List.set_cons_zero, List.set_cons_succ]
    refine takeD (i := 18) (d := 45) (v := ?_) rfl rfl (by kernel_rfl) (by kernel_rfl) (by kernel_rfl) (fun _ _ _ h => h) (Or.inl ⟨by rfl, ?_⟩) hHeld ?_
    rotate_left 1
    · (intro w hSw; (try dsimp only at hSw); go_simp; (try with_reducible rfl))
    simp only [List.setIfInBounds_toArray, List.set_cons_zero, List.set_cons_succ]
    refine takeD (i := 19) (d := 46) (v := ?_) rfl rfl (by kernel_rfl) (by kernel_rfl) (by kernel_rfl) (fun _ _ _ h => h) (Or.inl ⟨by rfl, ?_⟩) hHeld ?_
    rotate_left 1
    · (intro w hSw; (try dsimp only at hSw); go_simp; (try with_reducible rfl))
    simp only [List.setIfInBounds_toArray, List.set_cons_zero, List.set_cons_succ]
    refine takeD (i := 20) (d := 47) (v := ?_) rfl rfl (by kernel_rfl) (by kernel_rfl) (by kernel_rfl) (fun _ _ _ h => h) (Or.inl ⟨by rfl, ?_⟩) hHeld ?_
    rotate_left 1
    · (intro w hSw; (try dsimp only at hSw); go_simp; (try with_reducible rfl))
    simp only [List.setIfInBounds_toArray, List.set_cons_zero, List.set_cons_succ]
    refine takeD (i := 21) (d := 48) (v := ?_) rfl rfl (by kernel_rfl) (by kernel_rfl) (by kernel_rfl) (fun _ _ _ h => h) (Or.inl ⟨by rfl, ?_⟩) hHeld ?_
    rotate_left 1
    · (intro w hSw; (try dsimp only at hSw); go_simp; (try with_reducible rfl))
    simp only [List.setIfInBounds_toArray, List.set_cons_zero, List.set_cons_succ]
    refine takeD (i := 22) (d := 49) (v := .int .u8 (f 5 : Nat)) rfl rfl (by kernel_rfl) (by kernel_rfl) (by kernel_rfl) (fun _ _ _ h => h) (Or.inl ⟨by rfl, fun w hSw => ?_⟩) hHeld ?_
    · have cst := HXM.out w hSw 5 (by omega)
      try rw [Nat.add_zero] at cst
      go_simp
    simp only [List.setIfInBounds_toArray, List.set_cons_zero, List.set_cons_succ]
    refine takeD (i := 23) (d := 50) (v := ?_) rfl rfl (by kernel_rfl) (by kernel_rfl) (by kernel_rfl) (fun _ _ _ h => h) (Or.inl ⟨by rfl, ?_⟩) hHeld ?_
    rotate_left 1
    · (intro w hSw; (try dsimp only at hSw); go_simp; (try with_reducible rfl))
    simp only [List.setIfInBounds_toArray, List.set_cons_zero, List.set_cons_succ]
    refine takeD (i := 24) (d := 51) (v := ?_) rfl rfl (by kernel_rfl) (by kernel_rfl) (by kernel_rfl) (fun _ _ _ h => h) (Or.inl ⟨by rfl, ?_⟩) hHeld ?_
    rotate_left 1
    · (intro w hSw; (try dsimp only at hSw); go_simp; (try with_reducible rfl))
    simp only [List.setIfInBounds_toArray, List.set_cons_zero, List.set_cons_succ]
    refine takeD (i := 25) (d := 52) (v := ?_) rfl rfl (by kernel_rfl) (by kernel_rfl) (by kernel_rfl) (fun _ _ _ h => h) (Or.inl ⟨by rfl, ?_⟩) hHeld ?_
    rotate_left 1
    · (intro w hSw; (try dsimp only at hSw); go_simp; (try with_reducible rfl))
    simp only [List.setIfInBounds_toArray, List.set_cons_zero, List.set_cons_succ]
    refine takeD (i := 26) (d := 53) (v := ?_) rfl rfl (by kernel_rfl) (by kernel_rfl) (by kernel_rfl) (fun _ _ _ h => h) (Or.inl ⟨by rfl, ?_⟩) hHeld ?_
    rotate_left 1
    · (intro w hSw; (try dsimp only at hSw); go_simp; (try with_reducible rfl))
    simp only [List.setIfInBounds_toArray, List.set_cons_zero, List.set_cons_succ]
    refine takeD (i := 27) (d := 54) (v := ?_) rfl rfl (by kernel_rfl) (by kernel_rfl) (by kernel_rfl) (fun _ _ _ h => h) (Or.inl ⟨by rfl, ?_⟩) hHeld ?_
    rotate_left 1
    · (intro w hSw; (try dsimp only at hSw); go_simp; (try with_reducible rfl))
    simp only [List.setIfInBounds_toArray, List.set_cons_zero, List.set_cons_succ]
    refine takeD (i := 28) (d := 55) (v := .int .u8 (f 6 : Nat)) rfl rfl (by kernel_rfl) (by kernel_rfl) (by kernel_rfl) (fun _ _ _ h => h) (Or.inl ⟨by rfl, fun w hSw => ?_⟩) hHeld ?_
    · have cst := HXM.out w hSw 6 (by omega)
      try rw [Nat.add_zero] at cst
      go_simp
    simp only [List.setIfInBounds_toArray, List.set_cons_zero, List.set_cons_succ]
    refine takeD (i := 29) (d := 56) (v := ?_) rfl rfl (by kernel_rfl) (by kernel_rfl) (by kernel_rfl) (fun _ _ _ h => h) (Or.inl ⟨by rfl, ?_⟩) hHeld ?_
    rotate_left 1
    · (intro w hSw; (try dsimp only at hSw); go_simp; (try with_reducible rfl))
    simp only [List.setIfInBounds_toArray, List.set_cons_zero, List.set_cons_succ]
    refine takeD (i := 30) (d := 57) (v := ?_) rfl rfl (by kernel_rfl) (by kernel_rfl) (by kernel_rfl) (fun _ _ _ h => h) (Or.inl ⟨by rfl, ?_⟩) hHeld ?_
    rotate_left 1
    · (intro w hSw; (try dsimp only at hSw); go_simp; (try with_reducible rfl))
    simp only [List.setIfInBounds_toArray, List.set_cons_zero, List.set_cons_succ]
    refine takeD (i := 31) (d := 58) (v := ?_) rfl rfl (by kernel_rfl) (by kernel_rfl) (by kernel_rfl) (fun _ _ _ h => h) (Or.inl ⟨by rfl, ?_⟩) hHeld ?_
    rotate_left 1
    · (intro w hSw; (try dsimp only at hSw); go_simp; (try with_reducible rfl))
    simp only [List.setIfInBounds_toArray, List.set_cons_zero, List.set_cons_succ]
    refine takeD (i := 32) (d := 59) (v := ?_) rfl rfl (by kernel_rfl) (by kernel_rfl) (by kernel_rfl) (fun _ _ _ h => h) (Or.inl ⟨by rfl, ?_⟩) hHeld ?_
    rotate_left 1
    · (intro w hSw; (try dsimp only at hSw); go_simp; (try with_reducible rfl))
    simp only [List.setIfInBounds_toArray, List.set_cons_zero, List.set_cons_succ]
    refine takeD (i := 33) (d := 60) (v := ?_) rfl rfl (by kernel_rfl) (by kernel_rfl) (by kernel_rfl) (fun _ _ _ h => h) (Or.inl ⟨by rfl, ?_⟩) hHeld ?_
    rotate_left 1
    · (intro w hSw; (try dsimp only at hSw); go_simp; (try with_reducible rfl))
    simp only [List.setIfInBounds_toArray, List.set_cons_zero, List.set_cons_succ]
    refine takeD (i := 34) (d := 61) (v := .int .u8 (f 7 : Nat)) rfl rfl (by kernel_rfl) (by kernel_rfl) (by kernel_rfl) (fun _ _ _ h => h) (Or.inl ⟨by rfl, fun w hSw => ?_⟩) hHeld ?_
    · have cst := HXM.out w hSw 7 (by omega)
      try rw [Nat.add_zero] at cst
      go_simp
    simp only [List.setIfInBounds_toArray, List.set_cons_zero, List.set_cons_succ]
    refine takeD (i := 35) (d := 62) (v := ?_) rfl rfl (by kernel_rfl) (by kernel_rfl) (by kernel_rfl) (fun _ _ _ h => h) (Or.inl ⟨by rfl, ?_⟩) hHeld ?_
    rotate_left 1
    · (intro w hSw; (try dsimp only at hSw); go_simp; (try with_reducible rfl))
    simp only [List.setIfInBounds_toArray, List.set_cons_zero, List.set_cons_succ]
    refine takeD (i := 36) (d := 63) (v := ?_) rfl rfl (by kernel_rfl) (by kernel_rfl) (by kernel_rfl) (fun _ _ _ h => h) (Or.inl ⟨by rfl, ?_⟩) hHeld ?_
    rotate_left 1
    · (intro w hSw; (try dsimp only at hSw); go_simp; (try with_reducible rfl))
    simp only [List.setIfInBounds_toArray, List.set_cons_zero, List.set_cons_succ]
    refine takeD (i := 37) (d := 64) (v := ?_) rfl rfl (by kernel_rfl) (by kernel_rfl) (by kernel_rfl) (fun _ _ _ h => h) (Or.inl ⟨by rfl, ?_⟩) hHeld ?_
    rotate_left 1
    · (intro w hSw; (try dsimp only at hSw); go_simp; (try with_reducible rfl))
    simp only [List.setIfInBounds_toArray, List.set_cons_zero, List.set_cons_succ]
    refine takeD (i := 38) (d := 65) (v := .int .u8 (f 8 : Nat)) rfl rfl (by kernel_rfl) (by kernel_rfl) (by kernel_rfl) (fun _ _ _ h => h) (Or.inl ⟨by rfl, fun w hSw => ?_⟩) hHeld ?_
    · have cst := HXM.out w hSw 8 (by omega)
      try rw [Nat.add_zero] at cst
      go_simp
    simp only [List.setIfInBounds_toArray, List.set_cons_zero, List.set_cons_succ]
    refine takeD (i := 39) (d := 66) (v := ?_) rfl rfl (by kernel_rfl) (by kernel_rfl) (by kernel_rfl) (fun _ _ _ h => h) (Or.inl ⟨by rfl, ?_⟩) hHeld ?_
    rotate_left 1
    · (intro w hSw; (try dsimp only at hSw); go_simp; (try with_reducible rfl))
    simp only [List.setIfInBounds_toArray, List.set_cons_zero, List.set_cons_succ]
    refine takeD (i := 40) (d := 67) (v := ?_) rfl rfl (by kernel_rfl) (by kernel_rfl) (by kernel_rfl) (fun _ _ _ h => h) (Or.inl ⟨by rfl, ?_⟩) hHeld ?_
    rotate_left 1
    · (intro w hSw; (try dsimp only at hSw); go_simp; (try with_reducible rfl))
    simp only [List.setIfInBounds_toArray, List.set_cons_zero, List.set_cons_succ]
    refine takeD (i := 41) (d := 68) (v := ?_) rfl rfl (by kernel_rfl) (by kernel_rfl) (by kernel_rfl) (fun _ _ _ h => h) (Or.inl ⟨by rfl, ?_⟩) hHeld ?_
    rotate_left 1
    · (intro w hSw; (try dsimp only at hSw); go_simp; (try with_reducible rfl))
    simp only [List.setIfInBounds_toArray, List.set_cons_zero, List.set_cons_succ]
    refine takeD (i := 42) (d := 69) (v := ?_) rfl rfl (by kernel_rfl) (by kernel_rfl) (by kernel_rfl) (fun _ _ _ h => h) (Or.inl ⟨by rfl, ?_⟩) hHeld ?_
    rotate_left 1
    · (intro w hSw; (try dsimp only at hSw); go_simp; (try with_reducible rfl))
    simp only [List.setIfInBounds_toArray, List.set_cons_zero, List.set_cons_succ]
    refine takeD (i := 43) (d := 70) (v := ?_) rfl rfl (by kernel_rfl) (by kernel_rfl) (by kernel_rfl) (fun _ _ _ h => h) (Or.inl ⟨by rfl, ?_⟩) hHeld ?_
    rotate_left 1
    · (intro w hSw; (try dsimp only at hSw); go_simp; (try with_reducible rfl))
    simp only [List.setIfInBounds_toArray, List.set_cons_zero, List.set_cons_succ]
    refine takeD (i := 44) (d := 71) (v := .int .u8 (f 10 : Nat)) rfl rfl (by kernel_rfl) (by kernel_rfl) (by kernel_rfl) (fun _ _ _ h => h) (Or.inl ⟨by rfl, fun w hSw => ?_⟩) hHeld ?_
    · have cst := HXM.out w hSw 10 (by omega)
      try rw [Nat.add_zero] at cst
      go_simp
    simp only [List.setIfInBounds_toArray, List.set_cons_zero, List.set_cons_succ]
    refine takeD (i := 45) (d := 72) (v := ?_) rfl rfl (by kernel_rfl) (by kernel_rfl) (by kernel_rfl) (fun _ _ _ h => h) (Or.inl ⟨by rfl, ?_⟩) hHeld ?_
    rotate_left 1
    · (intro w hSw; (try dsimp only at hSw); go_simp; (try with_reducible rfl))
    simp only [List.setIfInBounds_toArray, List.set_cons_zero, List.set_cons_succ]
    refine takeD (i := 46) (d := 73) (v := ?_) rfl rfl (by kernel_rfl) (by kernel_rfl) (by kernel_rfl) (fun _ _ _ h => h) (Or.inl ⟨by rfl, ?_⟩) hHeld ?_
    rotate_left 1
    · (intro w hSw; (try dsimp only at hSw); go_simp; (try with_reducible rfl))
    simp only [List.setIfInBounds_toArray, List.set_cons_zero, List.set_cons_succ]
    refine takeD (i := 47) (d := 74) (v := .int .u8 (f 11 : Nat)) rfl rfl (by kernel_rfl) (by kernel_rfl) (by kernel_rfl) (fun _ _ _ h => h) (Or.inl ⟨by rfl, fun w hSw => ?_⟩) hHeld ?_
    · have cst := HXM.out w hSw 11 (by omega)
      try rw [Nat.add_zero] at cst
      go_simp
    simp only [List.setIfInBounds_toArray, List.set_cons_zero, List.set_cons_succ]
    refine takeD (i := 48) (d := 75) (v := ?_) rfl rfl (by kernel_rfl) (by kernel_rfl) (by kernel_rfl) (fun _ _ _ h => h) (Or.inl ⟨by rfl, ?_⟩) hHeld ?_
    rotate_left 1
    · (intro w hSw; (try dsimp only at hSw); go_simp; (try with_reducible rfl))
    simp only [List.setIfInBounds_toArray, List.set_cons_zero, List.set_cons_succ]
    refine takeD (i := 49) (d := 76) (v := ?_) rfl rfl (by kernel_rfl) (by kernel_rfl) (by kernel_rfl) (fun _ _ _ h => h) (Or.inl ⟨by rfl, ?_⟩) hHeld ?_
    rotate_left 1
    · (intro w hSw; (try dsimp only at hSw); go_simp; (try with_reducible rfl))
    simp only [List.setIfInBounds_toArray, List.set_cons_zero, List.set_cons_succ]
    refine takeD (i := 50) (d := 77) (v := .int .u8 (f 12 : Nat)) rfl rfl (by kernel_rfl) (by kernel_rfl) (by kernel_rfl) (fun _ _ _ h => h) (Or.inl ⟨by rfl, fun w hSw => ?_⟩) hHeld ?_
    · have cst := HXM.out w hSw 12 (by omega)
      try rw [Nat.add_zero] at cst
      go_simp
    simp only [List.setIfInBounds_toArray, List.set_cons_zero, List.set_cons_succ]
    refine takeD (i := 51) (d := 78) (v := ?_) rfl rfl (by kernel_rfl) (by kernel_rfl) (by kernel_rfl) (fun _ _ _ h => h) (Or.inl ⟨by rfl, ?_⟩) hHeld ?_
    rotate_left 1
    · (intro w hSw; (try dsimp only at hSw); go_simp; (try with_reducible rfl))
    simp only [List.setIfInBounds_toArray, List.set_cons_zero, List.set_cons_succ]
    refine takeD (i := 52) (d := 79) (v := ?_) rfl rfl (by kernel_rfl) (by kernel_rfl) (by kernel_rfl) (fun _ _ _ h => h) (Or.inl ⟨by rfl, ?_⟩) hHeld ?_
    rotate_left 1
    · (intro w hSw; (try dsimp only at hSw); go_simp; (try with_reducible rfl))
    simp only [List.setIfInBounds_toArray, List.set_cons_zero, List.set_cons_succ]
    refine takeD (i := 53) (d := 80) (v := ?_) rfl rfl (by kernel_rfl) (by kernel_rfl) (by kernel_rfl) (fun _ _ _ h => h) (Or.inl ⟨by rfl, ?_⟩) hHeld ?_
    rotate_left 1
    · (intro w hSw; (try dsimp only at hSw); go_simp; (try with_reducible rfl))
    simp only [List.setIfInBounds_toArray, List.set_cons_zero, List.set_cons_succ]
    refine takeD (i := 54) (d := 81) (v := .int .u8 (f 12 : Nat)) rfl rfl (by kernel_rfl) (by kernel_rfl) (by kernel_rfl) (fun _ _ _ h => h) (Or.inl ⟨by rfl, fun w hSw => ?_⟩) hHeld ?_
    · have cst := HXM.out w hSw 12 (by omega)
      try rw [Nat.add_zero] at cst
      go_simp
    simp only [List.setIfInBounds_toArray, List.set_cons_zero, List.set_cons_succ]
    refine takeD (i := 55) (d := 82) (v := ?_) rfl rfl (by kernel_rfl) (by kernel_rfl) (by kernel_rfl) (fun _ _ _ h => h) (Or.inl ⟨by rfl, ?_⟩) hHeld ?_
    rotate_left 1
    · (intro w hSw; (try dsimp only at hSw); go_simp; (try with_reducible rfl))
    simp only [List.setIfInBounds_toArray, List.set_cons_zero, List.set_cons_succ]
    refine takeD (i := 56) (d := 83) (v := ?_) rfl rfl (by kernel_rfl) (by kernel_rfl) (by kernel_rfl) (fun _ _ _ h => h) (Or.inl ⟨by rfl, ?_⟩) hHeld ?_
    rotate_left 1
    · (intro w hSw; (try dsimp only at hSw); go_simp; (try with_reducible rfl))
    simp only [List.setIfInBounds_toArray, List.set_cons_zero, List.set_cons_succ]
    refine takeD (i := 57) (d := 84) (v := ?_) rfl rfl (by kernel_rfl) (by kernel_rfl) (by kernel_rfl) (fun _ _ _ h => h) (Or.inl ⟨by rfl, ?_⟩) hHeld ?_
    rotate_left 1
    · (intro w hSw; (try dsimp only at hSw); go_simp; (try with_reducible rfl))
    simp only [List.setIfInBounds_toArray, List.set_cons_zero, List.set_cons_succ]
    refine takeD (i := 58) (d := 85) (v := ?_) rfl rfl (by kernel_rfl) (by kernel_rfl) (by kernel_rfl) (fun _ _ _ h => h) (Or.inl ⟨by rfl, ?_⟩) hHeld ?_
    rotate_left 1
    · (intro w hSw; (try dsimp only at hSw); go_simp; (try with_reducible rfl))
    simp only [List.setIfInBounds_toArray, List.set_cons_zero, List.set_cons_succ]
    refine takeD (i := 59) (d := 86) (v := ?_) rfl rfl (by kernel_rfl) (by kernel_rfl) (by kernel_rfl) (fun _ _ _ h => h) (Or.inl ⟨by rfl, ?_⟩) hHeld ?_
    rotate_left 1
    · (intro w hSw; (try dsimp only at hSw); go_simp; (try with_reducible rfl))
    simp only [List.setIfInBounds_toArray, List.set_cons_zero, List.set_cons_succ]
    refine takeD (i := 60) (d := 87) (v := .agg #[.int .u8 (f 13 : Nat), .int .u8 (f 14 : Nat), .int .u8 (f 15 : Nat)]) rfl rfl (by kernel_rfl) (by kernel_rfl) (by kernel_rfl) (fun _ _ _ h => h) (yieldsIf_load_mid (by rfl) 35 (.tmp 86) rfl bb (off + 13) rfl [.int .u8 (f 13 : Nat), .int .u8 (f 14 : Nat), .int .u8 (f 15 : Nat)] _ (fun W hW => HRG.out W hW) Try.underlying35 rfl Try.size3) hHeld ?_
    simp only [List.setIfInBounds_toArray, List.set_cons_zero, List.set_cons_succ]
    refine takeD (i := 61) (d := 88) (v := ?_) rfl rfl (by kernel_rfl) (by kernel_rfl) (by kernel_rfl) (fun _ _ _ h => h) (Or.inl ⟨by rfl, ?_⟩) hHeld ?_
    rotate_left 1
    · (intro w hSw; (try dsimp only at hSw); go_simp; (try with_reducible rfl))
    simp only [List.setIfInBounds_toArray, List.set_cons_zero, List.set_cons_succ]
    refine wpAnyH_ready (rs := [62]) (by kernel_rfl) (by simp) ?_
    refine AllReadyH.cons rfl (fun K hK => ?_) AllReadyH.nil
    go_simp
    refine hK.out _ _ ?_ (fun hHeld => ?_)
    · exact hHeld.alloc _
    clear hK K
    have RG2 := heap_alloc_new w0.drew (.cells #[.int .u16 0, .int .u32 0, .int .u16 0, .int .u8 0, .int .u8 0, .int .u8 0, .bool false, .int .u8 0, .int .u8 0, .int .u8 0] 37)
    refine wpAnyH_ready (rs := [63]) (by kernel_rfl) (by simp) ?_
    refine AllReadyH.cons rfl (fun K hK => ?_) AllReadyH.nil
    refine exec_store rfl rfl rfl RG2 rfl rfl (by rfl) Try.sizeEv (by simp [Value.oneCell']) (fun w3 R3 M3 => ?_)
    refine hK.out _ _ ?_ (fun hHeld => ?_)
    · exact hHeld.comp M3 (fun k hk => by simp at hk; exact .inr (by omega))
    clear hK K
    refine wpAnyH_done (by kernel_rfl) ?_ _
    rw [raw_cells f HN.out] at R3
    have hM3 : Mods [] w0 w3 := hHeld
    have R3 : w3.heap[w0.heap.size]? = some (.cells (rawEv f).cells.toArray 37 (0, 0)) := R3
    generalize w0.heap.size = g4 at R3 ⊢
    have HR3 := Lib.hid R3
    have HM3 := Lib.hid hM3
    have HB3 := Lib.hid (hM3.heap B0.out (by simp))
    clear hHeld R3 M3 RG2 hM3 n0 m0 n1 m1 n3 m3 n4 m4 n5 m5 n6 m6 n7 m7 n8 m8 n10 m10 n11 m11 n12 m12 n13 m13 n14 m14 n15 m15 hAA
    have HD := Lib.hid (show decEv f = if validE (rawEv f) then some (rawEv f) else none from by unfold decEv; rw [if_pos HG.out])
    generalize rawEv f = X at HR3 HD
    go_wp2_with (refine wpList_load_row rfl 37 (.tmp 4) rfl g4 (by rfl) _ _ _ _ HR3.out Try.underlying37 rfl Try.sizeEv ?_)
    refine (evValid_ok w3 X).mono ?_
    rintro e w5 ⟨rfl, M5⟩
    have HM5 := Lib.hid (HM3.out.trans M5)
    have HB5 := Lib.hid (M5.heap HB3.out (by simp))
    have HR5 := Lib.hid (M5.heap HR3.out (by simp))
    clear M5
    generalize hv : validE X = r at HD ⊢
    clear hv
    cases r with
    | false =>
      go_wp2_with (refine wpList_store_row (cs := zE.cells.toArray) rfl 37 (.tmp 2) (.tmp 92) rfl HB5.out (by rfl) (by rfl) rfl Try.sizeEv (Evt.one zE) ?_; intro wz Rz Mz)
      refine bodyPost_ret (results_cell_row2 rfl _ _ g0 _ _ _ _ rfl Rz Try.underlying37 rfl Try.sizeEv) rfl ?_
      exact ⟨zE, 1, rfl, by rw [HD.out]; rfl, (M0.out.trans HM5.out).comp Mz (fun k hk => by simp at hk; subst hk; exact .inr HG0.out)⟩
    | true =>
      go_wp2_with (first
        | (refine wpList_load_row rfl 37 (.tmp 4) rfl g4 (by rfl) _ _ _ _ HR5.out Try.underlying37 rfl Try.sizeEv ?_)
        | (refine wpList_store_row (cs := X.cells.toArray) rfl 37 (.tmp 2) (.tmp 93) rfl HB5.out (by rfl) (by rfl) rfl Try.sizeEv (Evt.one X) ?_; intro wz Rz Mz))
      refine bodyPost_ret (results_cell_row2 rfl _ _ g0 _ _ _ _ rfl Rz Try.underlying37 rfl Try.sizeEv) rfl ?_
      exact ⟨X, 0, rfl, by rw [HD.out]; rfl, (M0.out.trans HM5.out).comp Mz (fun k hk => by simp at hk; subst hk; exact .inr HG0.out)⟩
  · have HD := Lib.hid (show decEv f = none from if_neg hg)
    by_cases h2' : f 2 = 2
    · have d2 : (((f 2 : Nat) : Int) != 2) = false := by simp [h2']
      have d9 : (((f 9 : Nat) : Int) != 4) = true := by
        have : f 9 ≠ 4 := fun h => hg ⟨h2', h⟩
        simp
        omega
      clear hg h2'
      go_wp2_with (refine wpList_store_row (cs := zE.cells.toArray) rfl 37 (.tmp 2) (.tmp 26) rfl B0.out (by rfl) (by rfl) rfl Try.sizeEv (Evt.one zE) ?_; intro wz Rz Mz)
      refine bodyPost_ret (results_cell_row2 rfl _ _ g0 _ _ _ _ rfl Rz Try.underlying37 rfl Try.sizeEv) rfl ?_
      exact ⟨zE, 6, rfl, by rw [HD.out]; rfl, M0.out.comp Mz (fun k hk => by simp at hk; subst hk; exact .inr HG0.out)⟩
    · have d2 : (((f 2 : Nat) : Int) != 2) = true := by
        simp
        omega
      clear hg h2'
      go_wp2_with (refine wpList_store_row (cs := zE.cells.toArray) rfl 37 (.tmp 2) (.tmp 26) rfl B0.out (by rfl) (by rfl) rfl Try.sizeEv (Evt.one zE) ?_; intro wz Rz Mz)
      refine bodyPost_ret (results_cell_row2 rfl _ _ g0 _ _ _ _ rfl Rz Try.underlying37 rfl Try.sizeEv) rfl ?_
      exact ⟨zE, 6, rfl, by rw [HD.out]; rfl, M0.out.comp Mz (fun k hk => by simp at hk; subst hk; exact .inr HG0.out)⟩
end Go.Proofs.Ytkdadnlleepkfaa
