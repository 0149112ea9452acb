/- Joined texts. The reference's Decode of an analog sensor record: contract. | The reference's Decode of an analog sensor record, 9 bytes or more behind the conversion: contract. | The reference's Decode of a sensor record: contract. -/
import Derived.Test.YtijjkonephjodaaRsa
import Derived.Test.YtijjkonephjodaaMadeOddS
import Derived.Deep.DeepCutAuto
namespace Go.Proofs.Ytijjkonephjodaa
open Go.RowKit
set_option linter.unusedVariables false

set_option maxRecDepth 100000 in
set_option maxHeartbeats 8000000 in
theorem refSenDec_aerr (w : World) (v : Value) (A : List Int) (hv : Rd w v (u8s A)) (hb : Bytes A) (hl : A.length ≤ 100000) (h9 : ¬ A.length < 9) (hs : sum8 A = 0) (hc : A.dropLast.getD 0 0 = 1 ∧ A.dropLast.getD 6 0 < 32 ∧ 8 + b8 A.dropLast 7 ≤ A.dropLast.length) (hd : dsX A.dropLast = false) (hz : errC (rsX A.dropLast) ≠ 0) :
    Calls Try.prog 24 #[v] w fun e w' => SDecRes w A e w' := by
  have HV := Lib.hid hv
  have HB := Lib.hid hb
  have HL := Lib.hid hl
  have HE := Lib.hid (show ∀ W, errS A ≠ 0 → Mods [] w W → SDecRes w A (.returned (.tuple #[.agg zS.cells, .int .i64 (errS A)])) W from fun W h M => by unfold SDecRes; rw [if_neg h]; exact ⟨rfl, M⟩)
  have HU := Lib.hid (show errS A = if A.length < 9 then 4 else if sum8 A ≠ 0 then 5 else errX A.dropLast from rfl)
  obtain ⟨ad, cap, rfl, h1, h2, -⟩ := hv.u8
  have h3 : cap ≤ 9223372036854775807 := h2
  clear hv hb h2 hl
  have R0 := Lib.hid (heap_alloc_new w (.cells zS.cells 32))
  have M0 := Lib.hid ((Mods.refl (S := []) (w := w)).alloc (.cells zS.cells 32))
  have R1' : ((w.alloc (.cells zS.cells 32)).alloc (.cells zS.cells 32)).heap[w.heap.size + 1]? = some (.cells zS.cells 32 (0, 0)) := by
    have := heap_alloc_new (w.alloc (.cells zS.cells 32)) (.cells zS.cells 32)
    rwa [World.size_alloc] at this
  have RQ := Lib.hid R1'
  clear R1'
  have HZ := Lib.hid hz
  clear hz
  -- hd : dsX X = false; up to the call of the conversion's Decode
  have HD := Lib.hid hd
  clear hd
  -- hc : the head is good; up to region 9, the sensor made in block gs
  have HF := Lib.hid hc
  clear hc
  -- hs : sum8 A = 0, h9 : ¬ A.length < 9
  have HRX := Lib.hid (show errS A = errX A.dropLast from (HU.out.trans (if_neg h9)).trans (if_neg (fun h => h hs)))
  have HS := Lib.hid hs
  have HN := Lib.hid (show A ≠ [] from fun h => h9 (by rw [h]; decide))
  have d1 : decide ((A.length : Int) < 9) = false := decide_eq_false (by omega)
  have hXl : A.dropLast.length = A.length - 1 := List.length_dropLast
  have hXb : Bytes A.dropLast := by rw [List.dropLast_eq_take]; exact HB.out.take _
  have hSD : ∀ e W, SDecRes w A e W = SDecRes w A e W := fun _ _ => rfl
  clear hSD
  have HSU : Hid (∀ e W, errX A.dropLast = 0 → (∃ pv, e = .returned (.tuple #[.agg (senX A.dropLast pv).cells, .int .i64 0]) ∧ OwnPts W w.heap.size pv (ptsX A.dropLast) ∧ Mods [] w W) → SDecRes w A e W) := Lib.hid (fun e W h0 h => by unfold SDecRes; rw [HRX.out, if_pos h0]; exact h)
  have HSE : Hid (∀ W, errX A.dropLast ≠ 0 → Mods [] w W → SDecRes w A (.returned (.tuple #[.agg zS.cells, .int .i64 (errX A.dropLast)])) W) := Lib.hid (fun W h M => by have := HE.out W (by rw [HRX.out]; exact h) M; rw [HRX.out] at this; exact this)
  have hX8 : 8 ≤ A.dropLast.length := by omega
  have hXc : A.dropLast.length ≤ 100000 := by have := HL.out; omega
  have HOP : Hid (∀ W, Mods [] w W → Calls Try.prog 59 #[.slice ad A.length cap] W (fun e w' => ∃ g c, e = .returned (.tuple #[.slice (some ⟨g, 0, none⟩) A.dropLast.length c, .int .i64 0]) ∧ OwnB w' W.heap.size (.slice (some ⟨g, 0, none⟩) A.dropLast.length c) A.dropLast ∧ Mods [] W w')) := Lib.hid (fun W M => by
    refine (refOpen8_ok _ _ A (HV.out.mods0 M) HB.out HL.out).mono ?_
    rintro e w1 hx
    unfold OpenRes at hx
    rw [if_neg HN.out, if_pos HS.out] at hx
    obtain ⟨v', rfl, O, M1⟩ := hx
    obtain ⟨g, c, cur, hv', _⟩ := owns_form O (by rw [u8s_length]; omega)
    rw [u8s_length] at hv'
    subst hv'
    exact ⟨g, c, rfl, O, M1⟩)
  clear hs h9 hXl HRX HS HN HV HE HU HL HB
  generalize A.dropLast = X at *
  go_enter Try.func24, Try.ntmps24
  go_wp2_with (refine wpList_store_row (cs := zS.cells) rfl 32 (.tmp 4) (.tmp 13) rfl RQ.out (by rfl) (by rfl) rfl (Sen.infoS _) zS_one ?_; intro wq Rq Mq; have RB0 := Lib.hid Rq; have RA0 := Lib.hid (Mq.heap (heap_alloc (o' := .cells zS.cells 32) R0.out) (by simp)); have MQ := Lib.hid ((M0.out.alloc (.cells zS.cells 32)).comp Mq (fun k hk => by simp at hk; exact .inr (by omega))); clear Rq Mq)
  have hwq := lt_of_block RB0.out
  refine (HOP.out _ MQ.out).mono ?_
  rintro e w1 ⟨g, c, rfl, O1, M1⟩
  have hg0 : w.heap.size + 2 ≤ g := by have hgl := (O1.lt g rfl).1; omega
  have HM1 := Lib.hid (MQ.out.trans M1)
  have RA1 := Lib.hid (M1.heap RA0.out (by simp))
  have HO1 := Lib.hid O1
  (have RB1 := Lib.hid (M1.heap RB0.out (by simp)))
  have HCB : Hid (∀ W, Mods [] w1 W → ∀ i, i < X.length → W.cell? ⟨g, i, none⟩ = some (.int .u8 (b8 X i : Nat))) := Lib.hid (fun W M i hi => by
    obtain ⟨_, _, he, _, _, hc⟩ := O1.rd.u8
    injection he with he1 _ _
    obtain ⟨b, o, h, hx⟩ := hc i hi
    rw [← he1] at h
    cases h
    rw [Nat.zero_add, u8_getD hXb] at hx
    exact M.cell hx (by simp))
  have hc1 : X.length ≤ c ∧ c ≤ 9223372036854775807 := by
    obtain ⟨_, _, he, h1, h2, hc⟩ := O1.rd.u8
    injection he with _ _ he3
    subst he3
    exact ⟨h1, h2⟩
  obtain ⟨hc1, hc2⟩ := hc1
  have HXB := Lib.hid hXb
  clear O1 M1 MQ RA0 HOP hXb
  have i0 : (0 : Int) < (X.length : Int) := by omega
  have i1 : (1 : Int) < (X.length : Int) := by omega
  have i2 : (2 : Int) < (X.length : Int) := by omega
  have i3 : (3 : Int) < (X.length : Int) := by omega
  have i4 : (4 : Int) < (X.length : Int) := by omega
  have i5 : (5 : Int) < (X.length : Int) := by omega
  have i6 : (6 : Int) < (X.length : Int) := by omega
  have i7 : (7 : Int) < (X.length : Int) := by omega
  have x0 := HCB.out w1 Mods.refl 0 (by omega)
  have x6 := HCB.out w1 Mods.refl 6 (by omega)
  have x7 := HCB.out w1 Mods.refl 7 (by omega)
  have HX0 := Lib.hid (u8_getD HXB.out 0)
  have HX6 := Lib.hid (u8_getD HXB.out 6)
  have b7 := b8_lt HXB.out 7
  have b6 := b8_lt HXB.out 6
  clear RB0
  obtain ⟨f0, f6, f7⟩ := HF.out
  have HXX := Lib.hid (show errX X = if restErr (dsX X) (rsX X) ≠ 0 then restErr (dsX X) (rsX X) else if validB (senX X (.slice none 0 0)) (ptsX X) then 0 else 1 by unfold errX; rw [if_neg (by omega), if_neg (by omega)])
  rw [HX0.out] at f0
  rw [HX6.out] at f6
  have q0 : ((b8 X 0 : Int) != 1) = false := by simpa using f0
  have q6 : decide ((b8 X 6 : Int) ≥ 32) = false := decide_eq_false (by omega)
  clear f0 HF HX0
  go_wp2_with fail
  try dsimp only [Act.put]
  have hA1 : ((b8 X 6 : Int) % 2 == 1) = decide ((b8 X 6 : Int) % 2 = 1) := by rw [Bool.eq_iff_iff]; simp
  have hA2 : ((b8 X 6 : Int) / 2 % 2 == 1) = decide ((b8 X 6 : Int) / 2 % 2 = 1) := by rw [Bool.eq_iff_iff]; simp
  have ew6 : IntKind.i64.wrap (b8 X 6 : Int) = (b8 X 6 : Int) := IntWalk.i64_in _ (by omega)
  have eu2 : IntKind.u8.wrap ((b8 X 6 : Int) / 2) = (b8 X 6 : Int) / 2 := by rw [IntKind.wrap_u8]; omega
  have hT1 : ((b8 X 6 : Int)).tmod 2 = (b8 X 6 : Int) % 2 := Int.tmod_eq_emod_of_nonneg (by omega)
  have hT2 : ((b8 X 6 : Int) / 2).tmod 2 = (b8 X 6 : Int) / 2 % 2 := Int.tmod_eq_emod_of_nonneg (by omega)
  have hW4 : IntKind.i64.wrap ((b8 X 6 : Int) / 4) = (b8 X 6 : Int) / 4 := IntWalk.i64_in _ (by omega)
  clear q0 q6 x0 x6 x7
  have eHD : Hid (hdrS X ⟨#[]⟩ = ⟨b8 X 1, b8 X 2, b8 X 3, ⟨#[]⟩, b8 X 4, b8 X 5, decide ((b8 X 6 : Int) % 2 = 1), zC, 0, 0, 0, 0, 0, 0, 0, 0, 0, 0, 0, 0, decide ((b8 X 6 : Int) / 2 % 2 = 1), (b8 X 6 : Int) / 4⟩) := Lib.hid (by unfold hdrS; rw [HX6.out])
  refine heldStart (S := fun W => Mods [] w1 W) 35 rfl (by kernel_rfl) (Mods.refl.drew) (fun hHeld => ?_)
  refine takeD (i := 0) (d := 38) (v := ?_) rfl rfl (by kernel_rfl) (by kernel_rfl) (by kernel_rfl) (fun _ _ _ h => h) (Or.inl ⟨by rfl, ?_⟩) hHeld ?_
  rotate_left 1
  · (intro w hSw; (try dsimp only at hSw); go_simp; (try with_reducible rfl))
  simp only [List.setIfInBounds_toArray, List.set_cons_zero, List.set_cons_succ]
  refine takeD (i := 1) (d := 39) (v := ?_) rfl rfl (by kernel_rfl) (by kernel_rfl) (by kernel_rfl) (fun _ _ _ h => h) (Or.inl ⟨by rfl, ?_⟩) hHeld ?_
  rotate_left 1
  · (intro w hSw; (try dsimp only at hSw); go_simp; (try with_reducible rfl))
  simp only [List.setIfInBounds_toArray, List.set_cons_zero, List.set_cons_succ]
  refine takeD (i := 2) (d := 40) (v := .int .u8 (b8 X 1 : Nat)) rfl rfl (by kernel_rfl) (by kernel_rfl) (by kernel_rfl) (fun _ _ _ h => h) (Or.inl ⟨by rfl, fun w hSw => ?_⟩) hHeld ?_
  · have cst := HCB.out w hSw 1 (by omega)
    go_simp
  simp only [List.setIfInBounds_toArray, List.set_cons_zero, List.set_cons_succ]
  refine takeD (i := 3) (d := 41) (v := ?_) rfl rfl (by kernel_rfl) (by kernel_rfl) (by kernel_rfl) (fun _ _ _ h => h) (Or.inl ⟨by rfl, ?_⟩) hHeld ?_
  rotate_left 1
  · (intro w hSw; (try dsimp only at hSw); go_simp; (try with_reducible rfl))
  simp only [List.setIfInBounds_toArray, List.set_cons_zero, List.set_cons_succ]
  refine takeD (i := 4) (d := 42) (v := ?_) rfl rfl (by kernel_rfl) (by kernel_rfl) (by kernel_rfl) (fun _ _ _ h => h) (Or.inl ⟨by rfl, ?_⟩) hHeld ?_
  rotate_left 1
  · (intro w hSw; (try dsimp only at hSw); go_simp; (try with_reducible rfl))
  simp only [List.setIfInBounds_toArray, List.set_cons_zero, List.set_cons_succ]
  refine takeD (i := 5) (d := 43) (v := .int .u8 (b8 X 2 : Nat)) rfl rfl (by kernel_rfl) (by kernel_rfl) (by kernel_rfl) (fun _ _ _ h => h) (Or.inl ⟨by rfl, fun w hSw => ?_⟩) hHeld ?_
  · have cst := HCB.out w hSw 2 (by omega)
    go_simp
  simp only [List.setIfInBounds_toArray, List.set_cons_zero, List.set_cons_succ]
  refine takeD (i := 6) (d := 44) (v := ?_) rfl rfl (by kernel_rfl) (by kernel_rfl) (by kernel_rfl) (fun _ _ _ h => h) (Or.inl ⟨by rfl, ?_⟩) hHeld ?_
  rotate_left 1
  · (intro w hSw; (try dsimp only at hSw); go_simp; (try with_reducible rfl))
  simp only [List.setIfInBounds_toArray, List.set_cons_zero, List.set_cons_succ]
  refine takeD (i := 7) (d := 45) (v := ?_) rfl rfl (by kernel_rfl) (by kernel_rfl) (by kernel_rfl) (fun _ _ _ h => h) (Or.inl ⟨by rfl, ?_⟩) hHeld ?_
  rotate_left 1
  · (intro w hSw; (try dsimp only at hSw); go_simp; (try with_reducible rfl))
  simp only [List.setIfInBounds_toArray, List.set_cons_zero, List.set_cons_succ]
  refine takeD (i := 8) (d := 46) (v := .int .u8 (b8 X 3 : Nat)) rfl rfl (by kernel_rfl) (by kernel_rfl) (by kernel_rfl) (fun _ _ _ h => h) (Or.inl ⟨by rfl, fun w hSw => ?_⟩) hHeld ?_
  · have cst := HCB.out w hSw 3 (by omega)
    go_simp
  simp only [List.setIfInBounds_toArray, List.set_cons_zero, List.set_cons_succ]
  refine takeD (i := 9) (d := 47) (v := ?_) rfl rfl (by kernel_rfl) (by kernel_rfl) (by kernel_rfl) (fun _ _ _ h => h) (Or.inl ⟨by rfl, ?_⟩) hHeld ?_
  rotate_left 1
  · (intro w hSw; (try dsimp only at hSw); go_simp; (try with_reducible rfl))
  simp only [List.setIfInBounds_toArray, List.set_cons_zero, List.set_cons_succ]
  refine takeD (i := 10) (d := 48) (v := ?_) rfl rfl (by kernel_rfl) (by kernel_rfl) (by kernel_rfl) (fun _ _ _ h => h) (Or.inl ⟨by rfl, ?_⟩) hHeld ?_
  rotate_left 1
  · (intro w hSw; (try dsimp only at hSw); go_simp; (try with_reducible rfl))
  simp only [List.setIfInBounds_toArray, List.set_cons_zero, List.set_cons_succ]
  refine takeD (i := 11) (d := 49) (v := .int .u8 (b8 X 4 : Nat)) rfl rfl (by kernel_rfl) (by kernel_rfl) (by kernel_rfl) (fun _ _ _ h => h) (Or.inl ⟨by rfl, fun w hSw => ?_⟩) hHeld ?_
  · have cst := HCB.out w hSw 4 (by omega)
    go_simp
  simp only [List.setIfInBounds_toArray, List.set_cons_zero, List.set_cons_succ]
  refine takeD (i := 12) (d := 50) (v := ?_) rfl rfl (by kernel_rfl) (by kernel_rfl) (by kernel_rfl) (fun _ _ _ h => h) (Or.inl ⟨by rfl, ?_⟩) hHeld ?_
  rotate_left 1
  · (intro w hSw; (try dsimp only at hSw); go_simp; (try with_reducible rfl))
  simp only [List.setIfInBounds_toArray, List.set_cons_zero, List.set_cons_succ]
  refine takeD (i := 13) (d := 51) (v := ?_) rfl rfl (by kernel_rfl) (by kernel_rfl) (by kernel_rfl) (fun _ _ _ h => h) (Or.inl ⟨by rfl, ?_⟩) hHeld ?_
  rotate_left 1
  · (intro w hSw; (try dsimp only at hSw); go_simp; (try with_reducible rfl))
  simp only [List.setIfInBounds_toArray, List.set_cons_zero, List.set_cons_succ]
  refine takeD (i := 14) (d := 52) (v := .int .u8 (b8 X 5 : Nat)) rfl rfl (by kernel_rfl) (by kernel_rfl) (by kernel_rfl) (fun _ _ _ h => h) (Or.inl ⟨by rfl, fun w hSw => ?_⟩) hHeld ?_
  · have cst := HCB.out w hSw 5 (by omega)
    go_simp
  simp only [List.setIfInBounds_toArray, List.set_cons_zero, List.set_cons_succ]
  refine takeD (i := 15) (d := 53) (v := ?_) rfl rfl (by kernel_rfl) (by kernel_rfl) (by kernel_rfl) (fun _ _ _ h => h) (Or.inl ⟨by rfl, ?_⟩) hHeld ?_
  rotate_left 1
  · (intro w hSw; (try dsimp only at hSw); go_simp; (try with_reducible rfl))
  simp only [List.setIfInBounds_toArray, List.set_cons_zero, List.set_cons_succ]
  refine takeD (i := 16) (d := 54) (v := ?_) rfl rfl (by kernel_rfl) (by kernel_rfl) (by kernel_rfl) (fun _ _ _ h => h) (Or.inl ⟨by rfl, ?_⟩) hHeld ?_
  rotate_left 1
  · (intro w hSw; (try dsimp only at hSw); go_simp; (try with_reducible rfl))
  simp only [List.setIfInBounds_toArray, List.set_cons_zero, List.set_cons_succ]
  refine takeD (i := 17) (d := 55) (v := ?_) rfl rfl (by kernel_rfl) (by kernel_rfl) (by kernel_rfl) (fun _ _ _ h => h) (Or.inl ⟨by rfl, ?_⟩) hHeld ?_
  rotate_left 1
  · (intro w hSw; (try dsimp only at hSw); go_simp; (try with_reducible rfl))
  simp only [List.setIfInBounds_toArray, List.set_cons_zero, List.set_cons_succ]
  refine takeD (i := 18) (d := 56) (v := .int .u8 (b8 X 6 : Nat)) rfl rfl (by kernel_rfl) (by kernel_rfl) (by kernel_rfl) (fun _ _ _ h => h) (Or.inl ⟨by rfl, fun w hSw => ?_⟩) hHeld ?_
  · have cst := HCB.out w hSw 6 (by omega)
    go_simp
  simp only [List.setIfInBounds_toArray, List.set_cons_zero, List.set_cons_succ]
  refine takeD (i := 19) (d := 57) (v := ?_) rfl rfl (by kernel_rfl) (by kernel_rfl) (by kernel_rfl) (fun _ _ _ h => h) (Or.inl ⟨by rfl, ?_⟩) hHeld ?_
  rotate_left 1
  · (intro w hSw; (try dsimp only at hSw); go_simp; (try with_reducible rfl))
  simp only [List.setIfInBounds_toArray, List.set_cons_zero, List.set_cons_succ]
  refine takeD (i := 20) (d := 58) (v := ?_) rfl rfl (by kernel_rfl) (by kernel_rfl) (by kernel_rfl) (fun _ _ _ h => h) (Or.inl ⟨by rfl, ?_⟩) hHeld ?_
  rotate_left 1
  · (intro w hSw; (try dsimp only at hSw); go_simp; (try with_reducible rfl))
  simp only [List.setIfInBounds_toArray, List.set_cons_zero, List.set_cons_succ]
  refine takeD (i := 21) (d := 59) (v := ?_) rfl rfl (by kernel_rfl) (by kernel_rfl) (by kernel_rfl) (fun _ _ _ h => h) (Or.inl ⟨by rfl, ?_⟩) hHeld ?_
  rotate_left 1
  · (intro w hSw; (try dsimp only at hSw); go_simp; (try with_reducible rfl))
  simp only [List.setIfInBounds_toArray, List.set_cons_zero, List.set_cons_succ]
  refine takeD (i := 22) (d := 60) (v := ?_) rfl rfl (by kernel_rfl) (by kernel_rfl) (by kernel_rfl) (fun _ _ _ h => h) (Or.inl ⟨by rfl, ?_⟩) hHeld ?_
  rotate_left 1
  · (intro w hSw; (try dsimp only at hSw); go_simp; (try with_reducible rfl))
  simp only [List.setIfInBounds_toArray, List.set_cons_zero, List.set_cons_succ]
  refine takeD (i := 23) (d := 61) (v := .int .u8 (b8 X 6 : Nat)) rfl rfl (by kernel_rfl) (by kernel_rfl) (by kernel_rfl) (fun _ _ _ h => h) (Or.inl ⟨by rfl, fun w hSw => ?_⟩) hHeld ?_
  · have cst := HCB.out w hSw 6 (by omega)
    go_simp
  simp only [List.setIfInBounds_toArray, List.set_cons_zero, List.set_cons_succ]
  refine takeD (i := 24) (d := 62) (v := ?_) rfl rfl (by kernel_rfl) (by kernel_rfl) (by kernel_rfl) (fun _ _ _ h => h) (Or.inl ⟨by rfl, ?_⟩) hHeld ?_
  rotate_left 1
  · (intro w hSw; (try dsimp only at hSw); go_simp; (try with_reducible rfl))
  simp only [List.setIfInBounds_toArray, List.set_cons_zero, List.set_cons_succ]
  refine takeD (i := 25) (d := 63) (v := ?_) rfl rfl (by kernel_rfl) (by kernel_rfl) (by kernel_rfl) (fun _ _ _ h => h) (Or.inl ⟨by rfl, ?_⟩) hHeld ?_
  rotate_left 1
  · (intro w hSw; (try dsimp only at hSw); go_simp; (try with_reducible rfl))
  simp only [List.setIfInBounds_toArray, List.set_cons_zero, List.set_cons_succ]
  refine takeD (i := 26) (d := 64) (v := ?_) rfl rfl (by kernel_rfl) (by kernel_rfl) (by kernel_rfl) (fun _ _ _ h => h) (Or.inl ⟨by rfl, ?_⟩) hHeld ?_
  rotate_left 1
  · (intro w hSw; (try dsimp only at hSw); go_simp; (try with_reducible rfl))
  simp only [List.setIfInBounds_toArray, List.set_cons_zero, List.set_cons_succ]
  refine takeD (i := 27) (d := 65) (v := ?_) rfl rfl (by kernel_rfl) (by kernel_rfl) (by kernel_rfl) (fun _ _ _ h => h) (Or.inl ⟨by rfl, ?_⟩) hHeld ?_
  rotate_left 1
  · (intro w hSw; (try dsimp only at hSw); go_simp; (try with_reducible rfl))
  simp only [List.setIfInBounds_toArray, List.set_cons_zero, List.set_cons_succ]
  refine takeD (i := 28) (d := 66) (v := ?_) rfl rfl (by kernel_rfl) (by kernel_rfl) (by kernel_rfl) (fun _ _ _ h => h) (Or.inl ⟨by rfl, ?_⟩) hHeld ?_
  rotate_left 1
  · (intro w hSw; (try dsimp only at hSw); go_simp; (try with_reducible rfl))
  simp only [List.setIfInBounds_toArray, List.set_cons_zero, List.set_cons_succ]
  refine takeD (i := 29) (d := 67) (v := .int .u8 (b8 X 6 : Nat)) rfl rfl (by kernel_rfl) (by kernel_rfl) (by kernel_rfl) (fun _ _ _ h => h) (Or.inl ⟨by rfl, fun w hSw => ?_⟩) hHeld ?_
  · have cst := HCB.out w hSw 6 (by omega)
    go_simp
  simp only [List.setIfInBounds_toArray, List.set_cons_zero, List.set_cons_succ]
  refine takeD (i := 30) (d := 68) (v := ?_) rfl rfl (by kernel_rfl) (by kernel_rfl) (by kernel_rfl) (fun _ _ _ h => h) (Or.inl ⟨by rfl, ?_⟩) hHeld ?_
  rotate_left 1
  · (intro w hSw; (try dsimp only at hSw); go_simp; (try with_reducible rfl))
  simp only [List.setIfInBounds_toArray, List.set_cons_zero, List.set_cons_succ]
  refine takeD (i := 31) (d := 69) (v := ?_) rfl rfl (by kernel_rfl) (by kernel_rfl) (by kernel_rfl) (fun _ _ _ h => h) (Or.inl ⟨by rfl, ?_⟩) hHeld ?_
  rotate_left 1
  · (intro w hSw; (try dsimp only at hSw); go_simp; (try with_reducible rfl))
  simp only [List.setIfInBounds_toArray, List.set_cons_zero, List.set_cons_succ]
  refine takeD (i := 32) (d := 70) (v := ?_) rfl rfl (by kernel_rfl) (by kernel_rfl) (by kernel_rfl) (fun _ _ _ h => h) (Or.inl ⟨by rfl, ?_⟩) hHeld ?_
  rotate_left 1
  · (intro w hSw; (try dsimp only at hSw); go_simp; (try with_reducible rfl))
  simp only [List.setIfInBounds_toArray, List.set_cons_zero, List.set_cons_succ]
  refine wpAnyH_ready (rs := [33]) (by kernel_rfl) (by simp) ?_
  refine AllReadyH.cons rfl (fun K hK => ?_) AllReadyH.nil
  go_simp
  refine hK.out _ _ ?_ (fun hHeld => ?_)
  · exact hHeld.alloc _
  clear hK K
  have RG2 : (w1.drew.alloc (.cells zS.cells 32)).heap[w1.heap.size]? = some (.cells zS.cells 32 (0, 0)) := heap_alloc_new w1.drew _
  refine wpAnyH_ready (rs := [34]) (by kernel_rfl) (by simp) ?_
  refine AllReadyH.cons rfl (fun K hK => ?_) AllReadyH.nil
  refine exec_store rfl rfl rfl RG2 rfl rfl (by rfl) (Sen.infoS zS) (by simp [Value.oneCell']) (fun w3 R3 M3 => ?_)
  refine hK.out _ _ ?_ (fun hHeld => ?_)
  · exact hHeld.comp M3 (fun k hk => by simp at hk; exact .inr (by omega))
  clear hK K
  refine wpAnyH_done (by kernel_rfl) ?_ _
  have HM3 := Lib.hid (show Mods [] w1 w3 from hHeld)
  have HG3 : Hid (w3.heap[w1.heap.size]? = some (.cells (hdrS X ⟨#[]⟩).cells 32 (0, 0))) := Lib.hid (by rw [eHD.out]; refine R3.trans ?_; simp [Sen.cells, zC])
  have RA3 := Lib.hid (HM3.out.heap RA1.out (by simp))
  have RB3 := Lib.hid (HM3.out.heap RB1.out (by simp))
  have HX3 := Lib.hid (HM1.out.trans HM3.out)
  have hgs : w.heap.size + 1 < w1.heap.size := lt_of_block RB1.out
  have hgg : g < w1.heap.size := (HO1.out.lt g rfl).2
  clear hHeld R3 M3 RG2 hA1 hA2 ew6 eu2 eHD hT1 hT2 hW4
  obtain ⟨at0, hat0⟩ : ∃ at0 : Nat, at0 = 8 + b8 X 7 := ⟨_, rfl⟩
  have ew : IntKind.i64.wrap (b8 X 7 : Int) = (b8 X 7 : Int) := IntWalk.i64_in _ (by omega)
  have eAT : 8 + (b8 X 7 : Int) = (at0 : Int) := by omega
  have q8 : decide ((X.length : Int) < (at0 : Int)) = false := decide_eq_false (by omega)
  have x7 := HCB.out w3 HM3.out 7 (by omega)
  have z1 : (8 : Int) ≤ (at0 : Int) := by omega
  have z2 : (at0 : Int) ≤ (c : Int) := by omega
  have hat8 : 8 ≤ at0 := by omega
  have hatX : at0 ≤ X.length := by omega
  have HAT := Lib.hid hat0
  clear hat0
  obtain ⟨ad8, had8⟩ : ∃ ad8 : Option Addr, ad8 = if c = 8 then some ⟨g, 0, none⟩ else some ⟨g, 8, none⟩ := ⟨_, rfl⟩
  have HSL : Hid (∀ W, Mods [] w1 W → (Instr.sliceAt 33 (.slice (some ⟨g, 0, none⟩) X.length c) (some (.int .i64 8)) (some (.int .i64 (at0 : Int))) none).run Try.prog W = .ok (.slice ad8 (at0 - 8) (c - 8)) W) := Lib.hid (fun W M => by
    rw [had8]
    go_simp
    try (split <;> simp_all))
  have HCV : Hid (∀ W, Mods [] w1 W → (convert 33 9 (.slice ad8 (at0 - 8) (c - 8))).run Try.prog W = .ok (.string (nmX X)) W) := Lib.hid (fun W M => by
    have e7 : at0 - 8 = b8 X 7 := by have := HAT.out; omega
    rw [e7]
    have hR : ∀ b o, ad8 = some ⟨b, o, none⟩ → ∀ i, i < b8 X 7 → W.cell? ⟨b, o + i, none⟩ = some (.int .u8 (((X.drop 8).take (b8 X 7)).getD i 0)) := by
      intro b o h i hi
      have h5 : W.cell? ⟨g, 8 + i, none⟩ = _ := HCB.out W M (8 + i) (by omega)
      rw [had8] at h
      have hc8 : ¬ c = 8 := by omega
      rw [if_neg hc8] at h
      cases h
      rw [h5, b8_cast HXB.out, List.getD_eq_getElem?_getD, List.getD_eq_getElem?_getD, List.getElem?_take, if_pos hi, List.getElem?_drop]
    have hN : (nmX X) = strOfNums ((X.drop 8).take (b8 X 7)) := by unfold nmX; exact strOf_nums _
    rw [hN]
    obtain ⟨b, o, h⟩ : ∃ b o, ad8 = some ⟨b, o, none⟩ := by rw [had8]; split; exact ⟨_, _, rfl⟩; exact ⟨_, _, rfl⟩
    have h6 := hR b o h
    rw [h]
    exact run_convert_bytes_arg (P := Try.prog) W _ _ Try.underlying33 Try.underlying5 b o _ _ _ (by simp; omega) h6 _ Try.underlying9)
  have hsl3 := HSL.out w3 HM3.out
  have hcv3 := HCV.out w3 HM3.out
  clear had8 HSL HCV
  generalize w1.heap.size = gs at HG3 hgs hgg ⊢
  have cx3 : w3.cell? ⟨gs, 3, none⟩ = some (.string ⟨#[]⟩) := (cell_blk HG3.out 3).trans rfl
  have fx3 : w3.frozen? ⟨gs, 3, none⟩ = false := froz_blk HG3.out 3
  have cx6 : w3.cell? ⟨gs, 6, none⟩ = some (.bool (dsX X)) := (cell_blk HG3.out 6).trans rfl
  -- the world with the name
  have HG4 : Hid ((w3.setCell ⟨gs, 3, none⟩ (.string (nmX X))).heap[gs]? = some (.cells (hdrS X (nmX X)).cells 32 (0, 0))) := Lib.hid (heap_setCell (i := 3) (v := .string (nmX X)) HG3.out)
  have RA4 : Hid ((w3.setCell ⟨gs, 3, none⟩ (.string (nmX X))).heap[w.heap.size]? = some (.cells zS.cells 32 (0, 0))) := Lib.hid (heap_setCell_ne RA3.out (by show w.heap.size ≠ gs; omega))
  have RB4 : Hid ((w3.setCell ⟨gs, 3, none⟩ (.string (nmX X))).heap[w.heap.size + 1]? = some (.cells zS.cells 32 (0, 0))) := Lib.hid (heap_setCell_ne RB3.out (by show w.heap.size + 1 ≠ gs; omega))
  have HM4 := Lib.hid (HX3.out.setCell (p := ⟨gs, 3, none⟩) (.inr (by show w.heap.size ≤ gs; omega)) (.string (nmX X)))
  have HK4 := Lib.hid ((Mods.refl (S := [gs]) (w := w3)).setCell (p := ⟨gs, 3, none⟩) (.inl (by simp)) (.string (nmX X)))
  rw [HD.out] at cx6
  have y0 : (0 : Int) ≤ (at0 : Int) := by omega
  have y1 : (at0 : Int) ≤ (X.length : Int) := by omega
  have HRB := Lib.hid (show Bytes (rsX X) from HXB.out.drop _)
  have H6 := Lib.hid (show (rsX X).length = X.length - at0 by unfold rsX; rw [List.length_drop, HAT.out])
  obtain ⟨adE, hadE⟩ : ∃ adE : Option Addr, adE = if c = at0 then some ⟨g, 0, none⟩ else some ⟨g, at0, none⟩ := ⟨_, rfl⟩
  have HRD : Hid (∀ W, Mods [gs] w3 W → Rd W (.slice adE (X.length - at0) (c - at0)) (u8s (rsX X))) := Lib.hid (fun W M => by
    have hr := (HO1.out.rd.mods0 HM3.out).mods M (fun _ q hq => by simp [Value.ownBlock] at hq; subst hq; simp; omega)
    obtain ⟨_, _, he, q1, q2, hc⟩ := hr.u8
    injection he with he1 _ he3
    subst he1 he3
    have hl := H6.out
    refine ⟨adE, c - at0, by rw [u8s_length, hl], by rw [u8s_length, hl]; omega, by unfold maxLen at *; omega, fun i hi => ?_⟩
    rw [u8s_length, hl] at hi
    have hne : ¬ c = at0 := by omega
    refine ⟨g, at0, by rw [hadE, if_neg hne], ?_⟩
    obtain ⟨b', o', h', hx⟩ := hc (at0 + i) (by omega)
    cases h'
    rw [Nat.zero_add] at hx
    rw [hx, u8s_getD _ _ (by rw [hl]; omega)]
    unfold rsX
    rw [← HAT.out, List.getD_eq_getElem?_getD, List.getD_eq_getElem?_getD, List.getElem?_drop])
  have HSE2 : Hid (∀ W, (Instr.sliceAt 33 (.slice (some ⟨g, 0, none⟩) X.length c) (some (.int .i64 (at0 : Int))) none none).run Try.prog W = .ok (.slice adE (X.length - at0) (c - at0)) W) := Lib.hid (fun W => by
    rw [hadE]
    go_simp
    try (split <;> simp_all))
  have hse := HSE2.out (w3.setCell ⟨gs, 3, none⟩ (.string (nmX X)))
  clear hadE
  have HR := Lib.hid (show errX X = errC (rsX X) by
    have he : restErr false (rsX X) = errC (rsX X) := by unfold restErr; rw [if_neg (by decide), if_pos HZ.out]
    rw [HXX.out, HD.out, he, if_pos HZ.out])
  go_wp2_with fail
  refine (refDec_ok _ _ (rsX X) (HRD.out _ HK4.out) HRB.out).mono ?_
  rintro e w5 h5
  unfold DecRes at h5
  rw [if_neg HZ.out] at h5
  obtain ⟨rfl, M5⟩ := h5
  have HM5 := Lib.hid (HM4.out.trans M5)
  have RA5 := Lib.hid (M5.heap RA4.out (by simp))
  have RB5 := Lib.hid (M5.heap RB4.out (by simp))
  clear M5
  have hne : (errC (rsX X) != 0) = true := by simpa using HZ.out
  generalize errC (rsX X) = er at *
  go_wp2_with (first
    | (refine wpList_store_row (cs := zK.cells) rfl 26 (.tmp 9) (.tmp 94) rfl (heap_alloc_new w5 _) (by rfl) (by rfl) (by rfl) (Conv.infoCC zK) zK_one ?_; intro w6 R6 M6; have HF6 := Lib.hid (fresh M6); have HM6 := Lib.hid (HM5.out.trans HF6.out); have RA6 := Lib.hid (HF6.out.heap RA5.out (by simp)); have RB6 := Lib.hid (HF6.out.heap RB5.out (by simp)); clear R6 M6)
    | (refine wpList_load_sen rfl (.tmp 4) rfl (SenBox.mk RB6.out) (by rfl) ?_)
    | (refine wpList_store_row (cs := zS.cells) rfl 32 (.tmp 2) (.tmp 99) rfl RA6.out (by rfl) (by rfl) rfl (Sen.infoS _) zS_one ?_; intro wz Rz Mz))
  have HMX := HM6.out.comp Mz (fun k hk => by simp at hk; exact .inr (by omega))
  refine bodyPost_ret (results_cell_row2 rfl _ _ w.heap.size _ _ _ _ rfl Rz Try.underlying32 rfl (Sen.infoS _)) rfl ?_
  have := HSE.out wz (by rw [HR.out]; exact HZ.out) HMX
  rw [HR.out] at this
  exact this
set_option maxRecDepth 100000 in
set_option maxHeartbeats 8000000 in
theorem refSenDec_a9 (w : World) (v : Value) (A : List Int) (hv : Rd w v (u8s A)) (hb : Bytes A) (hl : A.length ≤ 100000) (h9 : ¬ A.length < 9) (hs : sum8 A = 0) (hc : A.dropLast.getD 0 0 = 1 ∧ A.dropLast.getD 6 0 < 32 ∧ 8 + b8 A.dropLast 7 ≤ A.dropLast.length) (hd : dsX A.dropLast = false) (hz : errC (rsX A.dropLast) = 0) (h13 : ((rsX A.dropLast).drop (lenC (rsX A.dropLast)).1.toNat).length < 9) :
    Calls Try.prog 24 #[v] w fun e w' => SDecRes w A e w' := by
  have HV := Lib.hid hv
  have HB := Lib.hid hb
  have HL := Lib.hid hl
  have HE := Lib.hid (show ∀ W, errS A ≠ 0 → Mods [] w W → SDecRes w A (.returned (.tuple #[.agg zS.cells, .int .i64 (errS A)])) W from fun W h M => by unfold SDecRes; rw [if_neg h]; exact ⟨rfl, M⟩)
  have HU := Lib.hid (show errS A = if A.length < 9 then 4 else if sum8 A ≠ 0 then 5 else errX A.dropLast from rfl)
  obtain ⟨ad, cap, rfl, h1, h2, -⟩ := hv.u8
  have h3 : cap ≤ 9223372036854775807 := h2
  clear hv hb h2 hl
  have R0 := Lib.hid (heap_alloc_new w (.cells zS.cells 32))
  have M0 := Lib.hid ((Mods.refl (S := []) (w := w)).alloc (.cells zS.cells 32))
  have R1' : ((w.alloc (.cells zS.cells 32)).alloc (.cells zS.cells 32)).heap[w.heap.size + 1]? = some (.cells zS.cells 32 (0, 0)) := by
    have := heap_alloc_new (w.alloc (.cells zS.cells 32)) (.cells zS.cells 32)
    rwa [World.size_alloc] at this
  have RQ := Lib.hid R1'
  clear R1'
  have HZ := Lib.hid hz
  have H13 := Lib.hid h13
  clear hz h13
  -- hd : dsX X = false; up to the call of the conversion's Decode
  have HD := Lib.hid hd
  clear hd
  -- hc : the head is good; up to region 9, the sensor made in block gs
  have HF := Lib.hid hc
  clear hc
  -- hs : sum8 A = 0, h9 : ¬ A.length < 9
  have HRX := Lib.hid (show errS A = errX A.dropLast from (HU.out.trans (if_neg h9)).trans (if_neg (fun h => h hs)))
  have HS := Lib.hid hs
  have HN := Lib.hid (show A ≠ [] from fun h => h9 (by rw [h]; decide))
  have d1 : decide ((A.length : Int) < 9) = false := decide_eq_false (by omega)
  have hXl : A.dropLast.length = A.length - 1 := List.length_dropLast
  have hXb : Bytes A.dropLast := by rw [List.dropLast_eq_take]; exact HB.out.take _
  have hSD : ∀ e W, SDecRes w A e W = SDecRes w A e W := fun _ _ => rfl
  clear hSD
  have HSU : Hid (∀ e W, errX A.dropLast = 0 → (∃ pv, e = .returned (.tuple #[.agg (senX A.dropLast pv).cells, .int .i64 0]) ∧ OwnPts W w.heap.size pv (ptsX A.dropLast) ∧ Mods [] w W) → SDecRes w A e W) := Lib.hid (fun e W h0 h => by unfold SDecRes; rw [HRX.out, if_pos h0]; exact h)
  have HSE : Hid (∀ W, errX A.dropLast ≠ 0 → Mods [] w W → SDecRes w A (.returned (.tuple #[.agg zS.cells, .int .i64 (errX A.dropLast)])) W) := Lib.hid (fun W h M => by have := HE.out W (by rw [HRX.out]; exact h) M; rw [HRX.out] at this; exact this)
  have hX8 : 8 ≤ A.dropLast.length := by omega
  have hXc : A.dropLast.length ≤ 100000 := by have := HL.out; omega
  have HOP : Hid (∀ W, Mods [] w W → Calls Try.prog 59 #[.slice ad A.length cap] W (fun e w' => ∃ g c, e = .returned (.tuple #[.slice (some ⟨g, 0, none⟩) A.dropLast.length c, .int .i64 0]) ∧ OwnB w' W.heap.size (.slice (some ⟨g, 0, none⟩) A.dropLast.length c) A.dropLast ∧ Mods [] W w')) := Lib.hid (fun W M => by
    refine (refOpen8_ok _ _ A (HV.out.mods0 M) HB.out HL.out).mono ?_
    rintro e w1 hx
    unfold OpenRes at hx
    rw [if_neg HN.out, if_pos HS.out] at hx
    obtain ⟨v', rfl, O, M1⟩ := hx
    obtain ⟨g, c, cur, hv', _⟩ := owns_form O (by rw [u8s_length]; omega)
    rw [u8s_length] at hv'
    subst hv'
    exact ⟨g, c, rfl, O, M1⟩)
  clear hs h9 hXl HRX HS HN HV HE HU HL HB
  generalize A.dropLast = X at *
  go_enter Try.func24, Try.ntmps24
  go_wp2_with (refine wpList_store_row (cs := zS.cells) rfl 32 (.tmp 4) (.tmp 13) rfl RQ.out (by rfl) (by rfl) rfl (Sen.infoS _) zS_one ?_; intro wq Rq Mq; have RB0 := Lib.hid Rq; have RA0 := Lib.hid (Mq.heap (heap_alloc (o' := .cells zS.cells 32) R0.out) (by simp)); have MQ := Lib.hid ((M0.out.alloc (.cells zS.cells 32)).comp Mq (fun k hk => by simp at hk; exact .inr (by omega))); clear Rq Mq)
  have hwq := lt_of_block RB0.out
  refine (HOP.out _ MQ.out).mono ?_
  rintro e w1 ⟨g, c, rfl, O1, M1⟩
  have hg0 : w.heap.size + 2 ≤ g := by have hgl := (O1.lt g rfl).1; omega
  have HM1 := Lib.hid (MQ.out.trans M1)
  have RA1 := Lib.hid (M1.heap RA0.out (by simp))
  have HO1 := Lib.hid O1
  (have RB1 := Lib.hid (M1.heap RB0.out (by simp)))
  have HCB : Hid (∀ W, Mods [] w1 W → ∀ i, i < X.length → W.cell? ⟨g, i, none⟩ = some (.int .u8 (b8 X i : Nat))) := Lib.hid (fun W M i hi => by
    obtain ⟨_, _, he, _, _, hc⟩ := O1.rd.u8
    injection he with he1 _ _
    obtain ⟨b, o, h, hx⟩ := hc i hi
    rw [← he1] at h
    cases h
    rw [Nat.zero_add, u8_getD hXb] at hx
    exact M.cell hx (by simp))
  have hc1 : X.length ≤ c ∧ c ≤ 9223372036854775807 := by
    obtain ⟨_, _, he, h1, h2, hc⟩ := O1.rd.u8
    injection he with _ _ he3
    subst he3
    exact ⟨h1, h2⟩
  obtain ⟨hc1, hc2⟩ := hc1
  have HXB := Lib.hid hXb
  clear O1 M1 MQ RA0 HOP hXb
  have i0 : (0 : Int) < (X.length : Int) := by omega
  have i1 : (1 : Int) < (X.length : Int) := by omega
  have i2 : (2 : Int) < (X.length : Int) := by omega
  have i3 : (3 : Int) < (X.length : Int) := by omega
  have i4 : (4 : Int) < (X.length : Int) := by omega
  have i5 : (5 : Int) < (X.length : Int) := by omega
  have i6 : (6 : Int) < (X.length : Int) := by omega
  have i7 : (7 : Int) < (X.length : Int) := by omega
  have x0 := HCB.out w1 Mods.refl 0 (by omega)
  have x6 := HCB.out w1 Mods.refl 6 (by omega)
  have x7 := HCB.out w1 Mods.refl 7 (by omega)
  have HX0 := Lib.hid (u8_getD HXB.out 0)
  have HX6 := Lib.hid (u8_getD HXB.out 6)
  have b7 := b8_lt HXB.out 7
  have b6 := b8_lt HXB.out 6
  clear RB0
  obtain ⟨f0, f6, f7⟩ := HF.out
  have HXX := Lib.hid (show errX X = if restErr (dsX X) (rsX X) ≠ 0 then restErr (dsX X) (rsX X) else if validB (senX X (.slice none 0 0)) (ptsX X) then 0 else 1 by unfold errX; rw [if_neg (by omega), if_neg (by omega)])
  rw [HX0.out] at f0
  rw [HX6.out] at f6
  have q0 : ((b8 X 0 : Int) != 1) = false := by simpa using f0
  have q6 : decide ((b8 X 6 : Int) ≥ 32) = false := decide_eq_false (by omega)
  clear f0 HF HX0
  go_wp2_with fail
  try dsimp only [Act.put]
  have hA1 : ((b8 X 6 : Int) % 2 == 1) = decide ((b8 X 6 : Int) % 2 = 1) := by rw [Bool.eq_iff_iff]; simp
  have hA2 : ((b8 X 6 : Int) / 2 % 2 == 1) = decide ((b8 X 6 : Int) / 2 % 2 = 1) := by rw [Bool.eq_iff_iff]; simp
  have ew6 : IntKind.i64.wrap (b8 X 6 : Int) = (b8 X 6 : Int) := IntWalk.i64_in _ (by omega)
  have eu2 : IntKind.u8.wrap ((b8 X 6 : Int) / 2) = (b8 X 6 : Int) / 2 := by rw [IntKind.wrap_u8]; omega
  have hT1 : ((b8 X 6 : Int)).tmod 2 = (b8 X 6 : Int) % 2 := Int.tmod_eq_emod_of_nonneg (by omega)
  have hT2 : ((b8 X 6 : Int) / 2).tmod 2 = (b8 X 6 : Int) / 2 % 2 := Int.tmod_eq_emod_of_nonneg (by omega)
  have hW4 : IntKind.i64.wrap ((b8 X 6 : Int) / 4) = (b8 X 6 : Int) / 4 := IntWalk.i64_in _ (by omega)
  clear q0 q6 x0 x6 x7
  have eHD : Hid (hdrS X ⟨#[]⟩ = ⟨b8 X 1, b8 X 2, b8 X 3, ⟨#[]⟩, b8 X 4, b8 X 5, decide ((b8 X 6 : Int) % 2 = 1), zC, 0, 0, 0, 0, 0, 0, 0, 0, 0, 0, 0, 0, decide ((b8 X 6 : Int) / 2 % 2 = 1), (b8 X 6 : Int) / 4⟩) := Lib.hid (by unfold hdrS; rw [HX6.out])
  refine heldStart (S := fun W => Mods [] w1 W) 35 rfl (by kernel_rfl) (Mods.refl.drew) (fun hHeld => ?_)
  refine takeD (i := 0) (d := 38) (v := ?_) rfl rfl (by kernel_rfl) (by kernel_rfl) (by kernel_rfl) (fun _ _ _ h => h) (Or.inl ⟨by rfl, ?_⟩) hHeld ?_
  rotate_left 1
  · (intro w hSw; (try dsimp only at hSw); go_simp; (try with_reducible rfl))
  simp only [List.setIfInBounds_toArray, List.set_cons_zero, List.set_cons_succ]
  refine takeD (i := 1) (d := 39) (v := ?_) rfl rfl (by kernel_rfl) (by kernel_rfl) (by kernel_rfl) (fun _ _ _ h => h) (Or.inl ⟨by rfl, ?_⟩) hHeld ?_
  rotate_left 1
  · (intro w hSw; (try dsimp only at hSw); go_simp; (try with_reducible rfl))
  simp only [List.setIfInBounds_toArray, List.set_cons_zero, List.set_cons_succ]
  refine takeD (i := 2) (d := 40) (v := .int .u8 (b8 X 1 : Nat)) rfl rfl (by kernel_rfl) (by kernel_rfl) (by kernel_rfl) (fun _ _ _ h => h) (Or.inl ⟨by rfl, fun w hSw => ?_⟩) hHeld ?_
  · have cst := HCB.out w hSw 1 (by omega)
    go_simp
  simp only [List.setIfInBounds_toArray, List.set_cons_zero, List.set_cons_succ]
  refine takeD (i := 3) (d := 41) (v := ?_) rfl rfl (by kernel_rfl) (by kernel_rfl) (by kernel_rfl) (fun _ _ _ h => h) (Or.inl ⟨by rfl, ?_⟩) hHeld ?_
  rotate_left 1
  · (intro w hSw; (try dsimp only at hSw); go_simp; (try with_reducible rfl))
  simp only [List.setIfInBounds_toArray, List.set_cons_zero, List.set_cons_succ]
  refine takeD (i := 4) (d := 42) (v := ?_) rfl rfl (by kernel_rfl) (by kernel_rfl) (by kernel_rfl) (fun _ _ _ h => h) (Or.inl ⟨by rfl, ?_⟩) hHeld ?_
  rotate_left 1
  · (intro w hSw; (try dsimp only at hSw); go_simp; (try with_reducible rfl))
  simp only [List.setIfInBounds_toArray, List.set_cons_zero, List.set_cons_succ]
  refine takeD (i := 5) (d := 43) (v := .int .u8 (b8 X 2 : Nat)) rfl rfl (by kernel_rfl) (by kernel_rfl) (by kernel_rfl) (fun _ _ _ h => h) (Or.inl ⟨by rfl, fun w hSw => ?_⟩) hHeld ?_
  · have cst := HCB.out w hSw 2 (by omega)
    go_simp
  simp only [List.setIfInBounds_toArray, List.set_cons_zero, List.set_cons_succ]
  refine takeD (i := 6) (d := 44) (v := ?_) rfl rfl (by kernel_rfl) (by kernel_rfl) (by kernel_rfl) (fun _ _ _ h => h) (Or.inl ⟨by rfl, ?_⟩) hHeld ?_
  rotate_left 1
  · (intro w hSw; (try dsimp only at hSw); go_simp; (try with_reducible rfl))
  simp only [List.setIfInBounds_toArray, List.set_cons_zero, List.set_cons_succ]
  refine takeD (i := 7) (d := 45) (v := ?_) rfl rfl (by kernel_rfl) (by kernel_rfl) (by kernel_rfl) (fun _ _ _ h => h) (Or.inl ⟨by rfl, ?_⟩) hHeld ?_
  rotate_left 1
  · (intro w hSw; (try dsimp only at hSw); go_simp; (try with_reducible rfl))
  simp only [List.setIfInBounds_toArray, List.set_cons_zero, List.set_cons_succ]
  refine takeD (i := 8) (d := 46) (v := .int .u8 (b8 X 3 : Nat)) rfl rfl (by kernel_rfl) (by kernel_rfl) (by kernel_rfl) (fun _ _ _ h => h) (Or.inl ⟨by rfl, fun w hSw => ?_⟩) hHeld ?_
  · have cst := HCB.out w hSw 3 (by omega)
    go_simp
  simp only [List.setIfInBounds_toArray, List.set_cons_zero, List.set_cons_succ]
  refine takeD (i := 9) (d := 47) (v := ?_) rfl rfl (by kernel_rfl) (by kernel_rfl) (by kernel_rfl) (fun _ _ _ h => h) (Or.inl ⟨by rfl, ?_⟩) hHeld ?_
  rotate_left 1
  · (intro w hSw; (try dsimp only at hSw); go_simp; (try with_reducible rfl))
  simp only [List.setIfInBounds_toArray, List.set_cons_zero, List.set_cons_succ]
  refine takeD (i := 10) (d := 48) (v := ?_) rfl rfl (by kernel_rfl) (by kernel_rfl) (by kernel_rfl) (fun _ _ _ h => h) (Or.inl ⟨by rfl, ?_⟩) hHeld ?_
  rotate_left 1
  · (intro w hSw; (try dsimp only at hSw); go_simp; (try with_reducible rfl))
  simp only [List.setIfInBounds_toArray, List.set_cons_zero, List.set_cons_succ]
  refine takeD (i := 11) (d := 49) (v := .int .u8 (b8 X 4 : Nat)) rfl rfl (by kernel_rfl) (by kernel_rfl) (by kernel_rfl) (fun _ _ _ h => h) (Or.inl ⟨by rfl, fun w hSw => ?_⟩) hHeld ?_
  · have cst := HCB.out w hSw 4 (by omega)
    go_simp
  simp only [List.setIfInBounds_toArray, List.set_cons_zero, List.set_cons_succ]
  refine takeD (i := 12) (d := 50) (v := ?_) rfl rfl (by kernel_rfl) (by kernel_rfl) (by kernel_rfl) (fun _ _ _ h => h) (Or.inl ⟨by rfl, ?_⟩) hHeld ?_
  rotate_left 1
  · (intro w hSw; (try dsimp only at hSw); go_simp; (try with_reducible rfl))
  simp only [List.setIfInBounds_toArray, List.set_cons_zero, List.set_cons_succ]
  refine takeD (i := 13) (d := 51) (v := ?_) rfl rfl (by kernel_rfl) (by kernel_rfl) (by kernel_rfl) (fun _ _ _ h => h) (Or.inl ⟨by rfl, ?_⟩) hHeld ?_
  rotate_left 1
  · (intro w hSw; (try dsimp only at hSw); go_simp; (try with_reducible rfl))
  simp only [List.setIfInBounds_toArray, List.set_cons_zero, List.set_cons_succ]
  refine takeD (i := 14) (d := 52) (v := .int .u8 (b8 X 5 : Nat)) rfl rfl (by kernel_rfl) (by kernel_rfl) (by kernel_rfl) (fun _ _ _ h => h) (Or.inl ⟨by rfl, fun w hSw => ?_⟩) hHeld ?_
  · have cst := HCB.out w hSw 5 (by omega)
    go_simp
  simp only [List.setIfInBounds_toArray, List.set_cons_zero, List.set_cons_succ]
  refine takeD (i := 15) (d := 53) (v := ?_) rfl rfl (by kernel_rfl) (by kernel_rfl) (by kernel_rfl) (fun _ _ _ h => h) (Or.inl ⟨by rfl, ?_⟩) hHeld ?_
  rotate_left 1
  · (intro w hSw; (try dsimp only at hSw); go_simp; (try with_reducible rfl))
  simp only [List.setIfInBounds_toArray, List.set_cons_zero, List.set_cons_succ]
  refine takeD (i := 16) (d := 54) (v := ?_) rfl rfl (by kernel_rfl) (by kernel_rfl) (by kernel_rfl) (fun _ _ _ h => h) (Or.inl ⟨by rfl, ?_⟩) hHeld ?_
  rotate_left 1
  · (intro w hSw; (try dsimp only at hSw); go_simp; (try with_reducible rfl))
  simp only [List.setIfInBounds_toArray, List.set_cons_zero, List.set_cons_succ]
  refine takeD (i := 17) (d := 55) (v := ?_) rfl rfl (by kernel_rfl) (by kernel_rfl) (by kernel_rfl) (fun _ _ _ h => h) (Or.inl ⟨by rfl, ?_⟩) hHeld ?_
  rotate_left 1
  · (intro w hSw; (try dsimp only at hSw); go_simp; (try with_reducible rfl))
  simp only [List.setIfInBounds_toArray, List.set_cons_zero, List.set_cons_succ]
  refine takeD (i := 18) (d := 56) (v := .int .u8 (b8 X 6 : Nat)) rfl rfl (by kernel_rfl) (by kernel_rfl) (by kernel_rfl) (fun _ _ _ h => h) (Or.inl ⟨by rfl, fun w hSw => ?_⟩) hHeld ?_
  · have cst := HCB.out w hSw 6 (by omega)
    go_simp
  simp only [List.setIfInBounds_toArray, List.set_cons_zero, List.set_cons_succ]
  refine takeD (i := 19) (d := 57) (v := ?_) rfl rfl (by kernel_rfl) (by kernel_rfl) (by kernel_rfl) (fun _ _ _ h => h) (Or.inl ⟨by rfl, ?_⟩) hHeld ?_
  rotate_left 1
  · (intro w hSw; (try dsimp only at hSw); go_simp; (try with_reducible rfl))
  simp only [List.setIfInBounds_toArray, List.set_cons_zero, List.set_cons_succ]
  refine takeD (i := 20) (d := 58) (v := ?_) rfl rfl (by kernel_rfl) (by kernel_rfl) (by kernel_rfl) (fun _ _ _ h => h) (Or.inl ⟨by rfl, ?_⟩) hHeld ?_
  rotate_left 1
  · (intro w hSw; (try dsimp only at hSw); go_simp; (try with_reducible rfl))
  simp only [List.setIfInBounds_toArray, List.set_cons_zero, List.set_cons_succ]
  refine takeD (i := 21) (d := 59) (v := ?_) rfl rfl (by kernel_rfl) (by kernel_rfl) (by kernel_rfl) (fun _ _ _ h => h) (Or.inl ⟨by rfl, ?_⟩) hHeld ?_
  rotate_left 1
  · (intro w hSw; (try dsimp only at hSw); go_simp; (try with_reducible rfl))
  simp only [List.setIfInBounds_toArray, List.set_cons_zero, List.set_cons_succ]
  refine takeD (i := 22) (d := 60) (v := ?_) rfl rfl (by kernel_rfl) (by kernel_rfl) (by kernel_rfl) (fun _ _ _ h => h) (Or.inl ⟨by rfl, ?_⟩) hHeld ?_
  rotate_left 1
  · (intro w hSw; (try dsimp only at hSw); go_simp; (try with_reducible rfl))
  simp only [List.setIfInBounds_toArray, List.set_cons_zero, List.set_cons_succ]
  refine takeD (i := 23) (d := 61) (v := .int .u8 (b8 X 6 : Nat)) rfl rfl (by kernel_rfl) (by kernel_rfl) (by kernel_rfl) (fun _ _ _ h => h) (Or.inl ⟨by rfl, fun w hSw => ?_⟩) hHeld ?_
  · have cst := HCB.out w hSw 6 (by omega)
    go_simp
  simp only [List.setIfInBounds_toArray, List.set_cons_zero, List.set_cons_succ]
  refine takeD (i := 24) (d := 62) (v := ?_) rfl rfl (by kernel_rfl) (by kernel_rfl) (by kernel_rfl) (fun _ _ _ h => h) (Or.inl ⟨by rfl, ?_⟩) hHeld ?_
  rotate_left 1
  · (intro w hSw; (try dsimp only at hSw); go_simp; (try with_reducible rfl))
  simp only [List.setIfInBounds_toArray, List.set_cons_zero, List.set_cons_succ]
  refine takeD (i := 25) (d := 63) (v := ?_) rfl rfl (by kernel_rfl) (by kernel_rfl) (by kernel_rfl) (fun _ _ _ h => h) (Or.inl ⟨by rfl, ?_⟩) hHeld ?_
  rotate_left 1
  · (intro w hSw; (try dsimp only at hSw); go_simp; (try with_reducible rfl))
  simp only [List.setIfInBounds_toArray, List.set_cons_zero, List.set_cons_succ]
  refine takeD (i := 26) (d := 64) (v := ?_) rfl rfl (by kernel_rfl) (by kernel_rfl) (by kernel_rfl) (fun _ _ _ h => h) (Or.inl ⟨by rfl, ?_⟩) hHeld ?_
  rotate_left 1
  · (intro w hSw; (try dsimp only at hSw); go_simp; (try with_reducible rfl))
  simp only [List.setIfInBounds_toArray, List.set_cons_zero, List.set_cons_succ]
  refine takeD (i := 27) (d := 65) (v := ?_) rfl rfl (by kernel_rfl) (by kernel_rfl) (by kernel_rfl) (fun _ _ _ h => h) (Or.inl ⟨by rfl, ?_⟩) hHeld ?_
  rotate_left 1
  · (intro w hSw; (try dsimp only at hSw); go_simp; (try with_reducible rfl))
  simp only [List.setIfInBounds_toArray, List.set_cons_zero, List.set_cons_succ]
  refine takeD (i := 28) (d := 66) (v := ?_) rfl rfl (by kernel_rfl) (by kernel_rfl) (by kernel_rfl) (fun _ _ _ h => h) (Or.inl ⟨by rfl, ?_⟩) hHeld ?_
  rotate_left 1
  · (intro w hSw; (try dsimp only at hSw); go_simp; (try with_reducible rfl))
  simp only [List.setIfInBounds_toArray, List.set_cons_zero, List.set_cons_succ]
  refine takeD (i := 29) (d := 67) (v := .int .u8 (b8 X 6 : Nat)) rfl rfl (by kernel_rfl) (by kernel_rfl) (by kernel_rfl) (fun _ _ _ h => h) (Or.inl ⟨by rfl, fun w hSw => ?_⟩) hHeld ?_
  · have cst := HCB.out w hSw 6 (by omega)
    go_simp
  simp only [List.setIfInBounds_toArray, List.set_cons_zero, List.set_cons_succ]
  refine takeD (i := 30) (d := 68) (v := ?_) rfl rfl (by kernel_rfl) (by kernel_rfl) (by kernel_rfl) (fun _ _ _ h => h) (Or.inl ⟨by rfl, ?_⟩) hHeld ?_
  rotate_left 1
  · (intro w hSw; (try dsimp only at hSw); go_simp; (try with_reducible rfl))
  simp only [List.setIfInBounds_toArray, List.set_cons_zero, List.set_cons_succ]
  refine takeD (i := 31) (d := 69) (v := ?_) rfl rfl (by kernel_rfl) (by kernel_rfl) (by kernel_rfl) (fun _ _ _ h => h) (Or.inl ⟨by rfl, ?_⟩) hHeld ?_
  rotate_left 1
  · (intro w hSw; (try dsimp only at hSw); go_simp; (try with_reducible rfl))
  simp only [List.setIfInBounds_toArray, List.set_cons_zero, List.set_cons_succ]
  refine takeD (i := 32) (d := 70) (v := ?_) rfl rfl (by kernel_rfl) (by kernel_rfl) (by kernel_rfl) (fun _ _ _ h => h) (Or.inl ⟨by rfl, ?_⟩) hHeld ?_
  rotate_left 1
  · (intro w hSw; (try dsimp only at hSw); go_simp; (try with_reducible rfl))
  simp only [List.setIfInBounds_toArray, List.set_cons_zero, List.set_cons_succ]
  refine wpAnyH_ready (rs := [33]) (by kernel_rfl) (by simp) ?_
  refine AllReadyH.cons rfl (fun K hK => ?_) AllReadyH.nil
  go_simp
  refine hK.out _ _ ?_ (fun hHeld => ?_)
  · exact hHeld.alloc _
  clear hK K
  have RG2 : (w1.drew.alloc (.cells zS.cells 32)).heap[w1.heap.size]? = some (.cells zS.cells 32 (0, 0)) := heap_alloc_new w1.drew _
  refine wpAnyH_ready (rs := [34]) (by kernel_rfl) (by simp) ?_
  refine AllReadyH.cons rfl (fun K hK => ?_) AllReadyH.nil
  refine exec_store rfl rfl rfl RG2 rfl rfl (by rfl) (Sen.infoS zS) (by simp [Value.oneCell']) (fun w3 R3 M3 => ?_)
  refine hK.out _ _ ?_ (fun hHeld => ?_)
  · exact hHeld.comp M3 (fun k hk => by simp at hk; exact .inr (by omega))
  clear hK K
  refine wpAnyH_done (by kernel_rfl) ?_ _
  have HM3 := Lib.hid (show Mods [] w1 w3 from hHeld)
  have HG3 : Hid (w3.heap[w1.heap.size]? = some (.cells (hdrS X ⟨#[]⟩).cells 32 (0, 0))) := Lib.hid (by rw [eHD.out]; refine R3.trans ?_; simp [Sen.cells, zC])
  have RA3 := Lib.hid (HM3.out.heap RA1.out (by simp))
  have RB3 := Lib.hid (HM3.out.heap RB1.out (by simp))
  have HX3 := Lib.hid (HM1.out.trans HM3.out)
  have hgs : w.heap.size + 1 < w1.heap.size := lt_of_block RB1.out
  have hgg : g < w1.heap.size := (HO1.out.lt g rfl).2
  clear hHeld R3 M3 RG2 hA1 hA2 ew6 eu2 eHD hT1 hT2 hW4
  obtain ⟨at0, hat0⟩ : ∃ at0 : Nat, at0 = 8 + b8 X 7 := ⟨_, rfl⟩
  have ew : IntKind.i64.wrap (b8 X 7 : Int) = (b8 X 7 : Int) := IntWalk.i64_in _ (by omega)
  have eAT : 8 + (b8 X 7 : Int) = (at0 : Int) := by omega
  have q8 : decide ((X.length : Int) < (at0 : Int)) = false := decide_eq_false (by omega)
  have x7 := HCB.out w3 HM3.out 7 (by omega)
  have z1 : (8 : Int) ≤ (at0 : Int) := by omega
  have z2 : (at0 : Int) ≤ (c : Int) := by omega
  have hat8 : 8 ≤ at0 := by omega
  have hatX : at0 ≤ X.length := by omega
  have HAT := Lib.hid hat0
  clear hat0
  obtain ⟨ad8, had8⟩ : ∃ ad8 : Option Addr, ad8 = if c = 8 then some ⟨g, 0, none⟩ else some ⟨g, 8, none⟩ := ⟨_, rfl⟩
  have HSL : Hid (∀ W, Mods [] w1 W → (Instr.sliceAt 33 (.slice (some ⟨g, 0, none⟩) X.length c) (some (.int .i64 8)) (some (.int .i64 (at0 : Int))) none).run Try.prog W = .ok (.slice ad8 (at0 - 8) (c - 8)) W) := Lib.hid (fun W M => by
    rw [had8]
    go_simp
    try (split <;> simp_all))
  have HCV : Hid (∀ W, Mods [] w1 W → (convert 33 9 (.slice ad8 (at0 - 8) (c - 8))).run Try.prog W = .ok (.string (nmX X)) W) := Lib.hid (fun W M => by
    have e7 : at0 - 8 = b8 X 7 := by have := HAT.out; omega
    rw [e7]
    have hR : ∀ b o, ad8 = some ⟨b, o, none⟩ → ∀ i, i < b8 X 7 → W.cell? ⟨b, o + i, none⟩ = some (.int .u8 (((X.drop 8).take (b8 X 7)).getD i 0)) := by
      intro b o h i hi
      have h5 : W.cell? ⟨g, 8 + i, none⟩ = _ := HCB.out W M (8 + i) (by omega)
      rw [had8] at h
      have hc8 : ¬ c = 8 := by omega
      rw [if_neg hc8] at h
      cases h
      rw [h5, b8_cast HXB.out, List.getD_eq_getElem?_getD, List.getD_eq_getElem?_getD, List.getElem?_take, if_pos hi, List.getElem?_drop]
    have hN : (nmX X) = strOfNums ((X.drop 8).take (b8 X 7)) := by unfold nmX; exact strOf_nums _
    rw [hN]
    obtain ⟨b, o, h⟩ : ∃ b o, ad8 = some ⟨b, o, none⟩ := by rw [had8]; split; exact ⟨_, _, rfl⟩; exact ⟨_, _, rfl⟩
    have h6 := hR b o h
    rw [h]
    exact run_convert_bytes_arg (P := Try.prog) W _ _ Try.underlying33 Try.underlying5 b o _ _ _ (by simp; omega) h6 _ Try.underlying9)
  have hsl3 := HSL.out w3 HM3.out
  have hcv3 := HCV.out w3 HM3.out
  clear had8 HSL HCV
  generalize w1.heap.size = gs at HG3 hgs hgg ⊢
  have cx3 : w3.cell? ⟨gs, 3, none⟩ = some (.string ⟨#[]⟩) := (cell_blk HG3.out 3).trans rfl
  have fx3 : w3.frozen? ⟨gs, 3, none⟩ = false := froz_blk HG3.out 3
  have cx6 : w3.cell? ⟨gs, 6, none⟩ = some (.bool (dsX X)) := (cell_blk HG3.out 6).trans rfl
  -- the world with the name
  have HG4 : Hid ((w3.setCell ⟨gs, 3, none⟩ (.string (nmX X))).heap[gs]? = some (.cells (hdrS X (nmX X)).cells 32 (0, 0))) := Lib.hid (heap_setCell (i := 3) (v := .string (nmX X)) HG3.out)
  have RA4 : Hid ((w3.setCell ⟨gs, 3, none⟩ (.string (nmX X))).heap[w.heap.size]? = some (.cells zS.cells 32 (0, 0))) := Lib.hid (heap_setCell_ne RA3.out (by show w.heap.size ≠ gs; omega))
  have RB4 : Hid ((w3.setCell ⟨gs, 3, none⟩ (.string (nmX X))).heap[w.heap.size + 1]? = some (.cells zS.cells 32 (0, 0))) := Lib.hid (heap_setCell_ne RB3.out (by show w.heap.size + 1 ≠ gs; omega))
  have HM4 := Lib.hid (HX3.out.setCell (p := ⟨gs, 3, none⟩) (.inr (by show w.heap.size ≤ gs; omega)) (.string (nmX X)))
  have HK4 := Lib.hid ((Mods.refl (S := [gs]) (w := w3)).setCell (p := ⟨gs, 3, none⟩) (.inl (by simp)) (.string (nmX X)))
  rw [HD.out] at cx6
  have y0 : (0 : Int) ≤ (at0 : Int) := by omega
  have y1 : (at0 : Int) ≤ (X.length : Int) := by omega
  have HRB := Lib.hid (show Bytes (rsX X) from HXB.out.drop _)
  have H6 := Lib.hid (show (rsX X).length = X.length - at0 by unfold rsX; rw [List.length_drop, HAT.out])
  obtain ⟨adE, hadE⟩ : ∃ adE : Option Addr, adE = if c = at0 then some ⟨g, 0, none⟩ else some ⟨g, at0, none⟩ := ⟨_, rfl⟩
  have HRD : Hid (∀ W, Mods [gs] w3 W → Rd W (.slice adE (X.length - at0) (c - at0)) (u8s (rsX X))) := Lib.hid (fun W M => by
    have hr := (HO1.out.rd.mods0 HM3.out).mods M (fun _ q hq => by simp [Value.ownBlock] at hq; subst hq; simp; omega)
    obtain ⟨_, _, he, q1, q2, hc⟩ := hr.u8
    injection he with he1 _ he3
    subst he1 he3
    have hl := H6.out
    refine ⟨adE, c - at0, by rw [u8s_length, hl], by rw [u8s_length, hl]; omega, by unfold maxLen at *; omega, fun i hi => ?_⟩
    rw [u8s_length, hl] at hi
    have hne : ¬ c = at0 := by omega
    refine ⟨g, at0, by rw [hadE, if_neg hne], ?_⟩
    obtain ⟨b', o', h', hx⟩ := hc (at0 + i) (by omega)
    cases h'
    rw [Nat.zero_add] at hx
    rw [hx, u8s_getD _ _ (by rw [hl]; omega)]
    unfold rsX
    rw [← HAT.out, List.getD_eq_getElem?_getD, List.getD_eq_getElem?_getD, List.getElem?_drop])
  have HSE2 : Hid (∀ W, (Instr.sliceAt 33 (.slice (some ⟨g, 0, none⟩) X.length c) (some (.int .i64 (at0 : Int))) none none).run Try.prog W = .ok (.slice adE (X.length - at0) (c - at0)) W) := Lib.hid (fun W => by
    rw [hadE]
    go_simp
    try (split <;> simp_all))
  have hse := HSE2.out (w3.setCell ⟨gs, 3, none⟩ (.string (nmX X)))
  clear hadE
  -- the conversion is decoded and stored: block gs holds it; nn bytes; at1 behind them
  go_wp2_with fail
  refine (refDec_ok _ _ (rsX X) (HRD.out _ HK4.out) HRB.out).mono ?_
  rintro e w5 h5
  unfold DecRes at h5
  rw [if_pos HZ.out] at h5
  obtain ⟨pv, rfl, OP5, M5⟩ := h5
  obtain ⟨hz1, hz2, hz3⟩ := errC_zero HZ.out
  obtain ⟨nn, hnn⟩ : ∃ nn : Nat, (lenC (rsX X)).1 = (nn : Int) := ⟨(lenC (rsX X)).1.toNat, by have := lenC_facts hz1; have := HRB.out 1; omega⟩
  rw [hnn] at hz2 ⊢
  have HNN := Lib.hid hnn
  have hnX : at0 + nn ≤ X.length := by have := H6.out; omega
  have HM5 := Lib.hid (HM4.out.trans M5)
  have RA5 := Lib.hid (M5.heap RA4.out (by simp))
  have RB5 := Lib.hid (M5.heap RB4.out (by simp))
  have HG5 := Lib.hid (M5.heap HG4.out (by simp))
  have HK5 := Lib.hid (HK4.out.comp0 M5)
  have hpv : (decC (rsX X) pv).pts = pv := by unfold decC; split <;> rfl
  have hpc : (decC (rsX X) pv).pts.oneCell' = true := by rw [hpv]; exact OP5.rd.one
  have HO5 := Lib.hid (OP5.down (show w3.heap.size ≤ _ from HK4.out.size))
  obtain ⟨CC, hCC⟩ : ∃ CC, CC = decC (rsX X) pv := ⟨_, rfl⟩
  rw [← hCC] at hpc ⊢
  have HCC := Lib.hid hCC
  clear M5 hCC hpv OP5 hnn hz1 hz2 hz3 cx3 fx3 cx6 hse hsl3 hcv3 x7 y1 z1 z2
  generalize w3.setCell ⟨gs, 3, none⟩ (.string (nmX X)) = w4 at HG4 RA4 RB4 HM4 HK4 ⊢
  obtain ⟨a1, ha1⟩ : ∃ a1 : Nat, a1 = at0 + nn := ⟨_, rfl⟩
  have eA1 : (at0 : Int) + (nn : Int) = (a1 : Int) := by omega
  have HA1 := Lib.hid ha1
  have l1 : a1 ≤ X.length := by omega
  have HRL := Lib.hid (show ((rsX X).drop (lenC (rsX X)).1.toNat).length = X.length - a1 by rw [HNN.out, Int.toNat_natCast, List.length_drop, H6.out]; omega)
  clear ha1 hnX
  have HR := Lib.hid (show errX X = 4 by
    have he : restErr false (rsX X) = 4 := by unfold restErr; rw [if_neg (by decide), if_neg (fun h => h HZ.out), if_pos (by have := H13.out; omega)]
    rw [HXX.out, HD.out, he, if_pos (by decide)])
  have t9 : decide ((X.length : Int) < (a1 : Int) + 9) = true := decide_eq_true (by have := H13.out; have := HRL.out; omega)
  clear H13 HRL
  go_wp2_with (first
  | (refine wpList_store_row (cs := CC.cells) rfl 26 (.tmp 9) (.tmp 94) rfl (heap_alloc_new w5 _) (by rfl) (by rfl) (by rfl) (Conv.infoCC _) (Conv.one _ hpc) ?_; intro w6 R6 M6; have HF6 := Lib.hid (fresh M6); have HQ6 := Lib.hid R6; have HM6 := Lib.hid (HM5.out.trans HF6.out); have RA6 := Lib.hid (HF6.out.heap RA5.out (by simp)); have RB6 := Lib.hid (HF6.out.heap RB5.out (by simp)); have HG6 := Lib.hid (HF6.out.heap HG5.out (by simp)); clear R6 M6)
  | (refine wpList_load_row rfl 26 (.tmp 9) rfl w5.heap.size (by rfl) _ _ _ _ HQ6.out Try.underlying26 rfl (Conv.infoCC _) ?_)
  | (refine wpList_store_part (cs := CC.cells) rfl 26 (.tmp 102) (.tmp 101) rfl HG6.out 7 (by rfl) (by rfl) (show 7 + 7 ≤ 28 by decide) (Conv.infoCC _) (Conv.one _ hpc) ?_; intro w7 R7 M7; rw [setAll_conv] at R7; have HG7 := Lib.hid R7; have HM7 := Lib.hid (HM6.out.comp M7 (fun k hk => by simp at hk; subst hk; exact .inr (by omega))); have RA7 := Lib.hid (M7.heap RA6.out (by simp; omega)); have RB7 := Lib.hid (M7.heap RB6.out (by simp; omega)); have HK7 := Lib.hid ((HK5.out.comp0 HF6.out).trans M7); skip; clear R7 M7)
    | (refine wpList_load_sen rfl (.tmp 4) rfl (SenBox.mk RB7.out) (by rfl) ?_)
    | (refine wpList_store_row (cs := zS.cells) rfl 32 (.tmp 2) (.tmp 111) rfl RA7.out (by rfl) (by rfl) rfl (Sen.infoS _) zS_one ?_; intro wz Rz Mz))
  have HMX := HM7.out.comp Mz (fun k hk => by simp at hk; exact .inr (by omega))
  refine bodyPost_ret (results_cell_row2 rfl _ _ w.heap.size _ _ _ _ rfl Rz Try.underlying32 rfl (Sen.infoS _)) rfl ?_
  have := HSE.out wz (by rw [HR.out]; decide) HMX
  rw [HR.out] at this
  exact this
end Go.Proofs.Ytijjkonephjodaa

namespace Go.Proofs.Ytijjkonephjodaa
open Go.RowKit
set_option linter.unusedVariables false

/-- The sensor under way in block gs, beside the two results. -/
structure SBk (w w3 w5 W : World) (gs : Nat) (S : Sen) : Prop where
  g : W.heap[gs]? = some (.cells S.cells 32 (0, 0))
  a : W.heap[w.heap.size]? = some (.cells zS.cells 32 (0, 0))
  b : W.heap[w.heap.size + 1]? = some (.cells zS.cells 32 (0, 0))
  m : Mods [] w W
  k : Mods [gs] w3 W
  h : Mods [gs] w5 W
theorem SBk.set {w w3 w5 W : World} {gs : Nat} {S : Sen} (h : SBk w w3 w5 W gs S) (hg : w.heap.size + 1 < gs) (k : Nat) (v : Value) (S' : Sen) (hS : S.cells.setIfInBounds k v = S'.cells) : SBk w w3 w5 (W.setCell ⟨gs, k, none⟩ v) gs S' :=
  ⟨hS ▸ heap_setCell (i := k) (v := v) h.g, heap_setCell_ne h.a (by show w.heap.size ≠ gs; omega), heap_setCell_ne h.b (by show w.heap.size + 1 ≠ gs; omega), h.m.setCell (p := ⟨gs, k, none⟩) (.inr (by show w.heap.size ≤ gs; omega)) v, h.k.setCell (p := ⟨gs, k, none⟩) (.inl (by simp)) v, h.h.setCell (p := ⟨gs, k, none⟩) (.inl (by simp)) v⟩
theorem SBk.mods0 {w w3 w5 W W' : World} {gs : Nat} {S : Sen} (h : SBk w w3 w5 W gs S) (M : Mods [] W W') : SBk w w3 w5 W' gs S :=
  ⟨M.heap h.g (by simp), M.heap h.a (by simp), M.heap h.b (by simp), h.m.trans M, h.k.comp0 M, h.h.comp0 M⟩
def rawK (S : Sen) (f : Nat → Nat) : Nat → Sen
  | 0 => S
  | k + 1 => (rawK S f k).setRaw k (f k)
theorem raw_cell (S : Sen) {j : Nat} (hj : j < 6) : S.cells[15 + j]? = some (.int .u8 ((S.raw j : Nat) : Int)) := by
  match j, hj with
  | 0, _ | 1, _ | 2, _ | 3, _ | 4, _ | 5, _ => rfl
theorem rawK_six (S : Sen) (f : Nat → Nat) : rawK S f 6 = { S with r0 := f 0, r1 := f 1, r2 := f 2, r3 := f 3, r4 := f 4, r5 := f 5 } := by simp only [rawK, Sen.setRaw]

set_option maxRecDepth 100000 in
set_option maxHeartbeats 8000000 in
theorem refSenDec_a10 (w : World) (v : Value) (A : List Int) (hv : Rd w v (u8s A)) (hb : Bytes A) (hl : A.length ≤ 100000) (h9 : ¬ A.length < 9) (hs : sum8 A = 0) (hc : A.dropLast.getD 0 0 = 1 ∧ A.dropLast.getD 6 0 < 32 ∧ 8 + b8 A.dropLast 7 ≤ A.dropLast.length) (hd : dsX A.dropLast = false) (hz : errC (rsX A.dropLast) = 0) (h13 : ¬ ((rsX A.dropLast).drop (lenC (rsX A.dropLast)).1.toNat).length < 9) :
    Calls Try.prog 24 #[v] w fun e w' => SDecRes w A e w' := by
  have HV := Lib.hid hv
  have HB := Lib.hid hb
  have HL := Lib.hid hl
  have HE := Lib.hid (show ∀ W, errS A ≠ 0 → Mods [] w W → SDecRes w A (.returned (.tuple #[.agg zS.cells, .int .i64 (errS A)])) W from fun W h M => by unfold SDecRes; rw [if_neg h]; exact ⟨rfl, M⟩)
  have HU := Lib.hid (show errS A = if A.length < 9 then 4 else if sum8 A ≠ 0 then 5 else errX A.dropLast from rfl)
  obtain ⟨ad, cap, rfl, h1, h2, -⟩ := hv.u8
  have h3 : cap ≤ 9223372036854775807 := h2
  clear hv hb h2 hl
  have R0 := Lib.hid (heap_alloc_new w (.cells zS.cells 32))
  have M0 := Lib.hid ((Mods.refl (S := []) (w := w)).alloc (.cells zS.cells 32))
  have R1' : ((w.alloc (.cells zS.cells 32)).alloc (.cells zS.cells 32)).heap[w.heap.size + 1]? = some (.cells zS.cells 32 (0, 0)) := by
    have := heap_alloc_new (w.alloc (.cells zS.cells 32)) (.cells zS.cells 32)
    rwa [World.size_alloc] at this
  have RQ := Lib.hid R1'
  clear R1'
  have HZ := Lib.hid hz
  have H13 := Lib.hid h13
  clear hz h13
  -- hd : dsX X = false; up to the call of the conversion's Decode
  have HD := Lib.hid hd
  clear hd
  -- hc : the head is good; up to region 9, the sensor made in block gs
  have HF := Lib.hid hc
  clear hc
  -- hs : sum8 A = 0, h9 : ¬ A.length < 9
  have HRX := Lib.hid (show errS A = errX A.dropLast from (HU.out.trans (if_neg h9)).trans (if_neg (fun h => h hs)))
  have HS := Lib.hid hs
  have HN := Lib.hid (show A ≠ [] from fun h => h9 (by rw [h]; decide))
  have d1 : decide ((A.length : Int) < 9) = false := decide_eq_false (by omega)
  have hXl : A.dropLast.length = A.length - 1 := List.length_dropLast
  have hXb : Bytes A.dropLast := by rw [List.dropLast_eq_take]; exact HB.out.take _
  have hSD : ∀ e W, SDecRes w A e W = SDecRes w A e W := fun _ _ => rfl
  clear hSD
  have HSU : Hid (∀ e W, errX A.dropLast = 0 → (∃ pv, e = .returned (.tuple #[.agg (senX A.dropLast pv).cells, .int .i64 0]) ∧ OwnPts W w.heap.size pv (ptsX A.dropLast) ∧ Mods [] w W) → SDecRes w A e W) := Lib.hid (fun e W h0 h => by unfold SDecRes; rw [HRX.out, if_pos h0]; exact h)
  have HSE : Hid (∀ W, errX A.dropLast ≠ 0 → Mods [] w W → SDecRes w A (.returned (.tuple #[.agg zS.cells, .int .i64 (errX A.dropLast)])) W) := Lib.hid (fun W h M => by have := HE.out W (by rw [HRX.out]; exact h) M; rw [HRX.out] at this; exact this)
  have hX8 : 8 ≤ A.dropLast.length := by omega
  have hXc : A.dropLast.length ≤ 100000 := by have := HL.out; omega
  have HOP : Hid (∀ W, Mods [] w W → Calls Try.prog 59 #[.slice ad A.length cap] W (fun e w' => ∃ g c, e = .returned (.tuple #[.slice (some ⟨g, 0, none⟩) A.dropLast.length c, .int .i64 0]) ∧ OwnB w' W.heap.size (.slice (some ⟨g, 0, none⟩) A.dropLast.length c) A.dropLast ∧ Mods [] W w')) := Lib.hid (fun W M => by
    refine (refOpen8_ok _ _ A (HV.out.mods0 M) HB.out HL.out).mono ?_
    rintro e w1 hx
    unfold OpenRes at hx
    rw [if_neg HN.out, if_pos HS.out] at hx
    obtain ⟨v', rfl, O, M1⟩ := hx
    obtain ⟨g, c, cur, hv', _⟩ := owns_form O (by rw [u8s_length]; omega)
    rw [u8s_length] at hv'
    subst hv'
    exact ⟨g, c, rfl, O, M1⟩)
  clear hs h9 hXl HRX HS HN HV HE HU HL HB
  generalize A.dropLast = X at *
  go_enter Try.func24, Try.ntmps24
  go_wp2_with (refine wpList_store_row (cs := zS.cells) rfl 32 (.tmp 4) (.tmp 13) rfl RQ.out (by rfl) (by rfl) rfl (Sen.infoS _) zS_one ?_; intro wq Rq Mq; have RB0 := Lib.hid Rq; have RA0 := Lib.hid (Mq.heap (heap_alloc (o' := .cells zS.cells 32) R0.out) (by simp)); have MQ := Lib.hid ((M0.out.alloc (.cells zS.cells 32)).comp Mq (fun k hk => by simp at hk; exact .inr (by omega))); clear Rq Mq)
  have hwq := lt_of_block RB0.out
  refine (HOP.out _ MQ.out).mono ?_
  rintro e w1 ⟨g, c, rfl, O1, M1⟩
  have hg0 : w.heap.size + 2 ≤ g := by have hgl := (O1.lt g rfl).1; omega
  have HM1 := Lib.hid (MQ.out.trans M1)
  have RA1 := Lib.hid (M1.heap RA0.out (by simp))
  have HO1 := Lib.hid O1
  (have RB1 := Lib.hid (M1.heap RB0.out (by simp)))
  have HCB : Hid (∀ W, Mods [] w1 W → ∀ i, i < X.length → W.cell? ⟨g, i, none⟩ = some (.int .u8 (b8 X i : Nat))) := Lib.hid (fun W M i hi => by
    obtain ⟨_, _, he, _, _, hc⟩ := O1.rd.u8
    injection he with he1 _ _
    obtain ⟨b, o, h, hx⟩ := hc i hi
    rw [← he1] at h
    cases h
    rw [Nat.zero_add, u8_getD hXb] at hx
    exact M.cell hx (by simp))
  have hc1 : X.length ≤ c ∧ c ≤ 9223372036854775807 := by
    obtain ⟨_, _, he, h1, h2, hc⟩ := O1.rd.u8
    injection he with _ _ he3
    subst he3
    exact ⟨h1, h2⟩
  obtain ⟨hc1, hc2⟩ := hc1
  have HXB := Lib.hid hXb
  clear O1 M1 MQ RA0 HOP hXb
  have i0 : (0 : Int) < (X.length : Int) := by omega
  have i1 : (1 : Int) < (X.length : Int) := by omega
  have i2 : (2 : Int) < (X.length : Int) := by omega
  have i3 : (3 : Int) < (X.length : Int) := by omega
  have i4 : (4 : Int) < (X.length : Int) := by omega
  have i5 : (5 : Int) < (X.length : Int) := by omega
  have i6 : (6 : Int) < (X.length : Int) := by omega
  have i7 : (7 : Int) < (X.length : Int) := by omega
  have x0 := HCB.out w1 Mods.refl 0 (by omega)
  have x6 := HCB.out w1 Mods.refl 6 (by omega)
  have x7 := HCB.out w1 Mods.refl 7 (by omega)
  have HX0 := Lib.hid (u8_getD HXB.out 0)
  have HX6 := Lib.hid (u8_getD HXB.out 6)
  have b7 := b8_lt HXB.out 7
  have b6 := b8_lt HXB.out 6
  clear RB0
  obtain ⟨f0, f6, f7⟩ := HF.out
  have HXX := Lib.hid (show errX X = if restErr (dsX X) (rsX X) ≠ 0 then restErr (dsX X) (rsX X) else if validB (senX X (.slice none 0 0)) (ptsX X) then 0 else 1 by unfold errX; rw [if_neg (by omega), if_neg (by omega)])
  rw [HX0.out] at f0
  rw [HX6.out] at f6
  have q0 : ((b8 X 0 : Int) != 1) = false := by simpa using f0
  have q6 : decide ((b8 X 6 : Int) ≥ 32) = false := decide_eq_false (by omega)
  clear f0 HF HX0
  go_wp2_with fail
  try dsimp only [Act.put]
  have hA1 : ((b8 X 6 : Int) % 2 == 1) = decide ((b8 X 6 : Int) % 2 = 1) := by rw [Bool.eq_iff_iff]; simp
  have hA2 : ((b8 X 6 : Int) / 2 % 2 == 1) = decide ((b8 X 6 : Int) / 2 % 2 = 1) := by rw [Bool.eq_iff_iff]; simp
  have ew6 : IntKind.i64.wrap (b8 X 6 : Int) = (b8 X 6 : Int) := IntWalk.i64_in _ (by omega)
  have eu2 : IntKind.u8.wrap ((b8 X 6 : Int) / 2) = (b8 X 6 : Int) / 2 := by rw [IntKind.wrap_u8]; omega
  have hT1 : ((b8 X 6 : Int)).tmod 2 = (b8 X 6 : Int) % 2 := Int.tmod_eq_emod_of_nonneg (by omega)
  have hT2 : ((b8 X 6 : Int) / 2).tmod 2 = (b8 X 6 : Int) / 2 % 2 := Int.tmod_eq_emod_of_nonneg (by omega)
  have hW4 : IntKind.i64.wrap ((b8 X 6 : Int) / 4) = (b8 X 6 : Int) / 4 := IntWalk.i64_in _ (by omega)
  clear q0 q6 x0 x6 x7
  have eHD : Hid (hdrS X ⟨#[]⟩ = ⟨b8 X 1, b8 X 2, b8 X 3, ⟨#[]⟩, b8 X 4, b8 X 5, decide ((b8 X 6 : Int) % 2 = 1), zC, 0, 0, 0, 0, 0, 0, 0, 0, 0, 0, 0, 0, decide ((b8 X 6 : Int) / 2 % 2 = 1), (b8 X 6 : Int) / 4⟩) := Lib.hid (by unfold hdrS; rw [HX6.out])
  refine heldStart (S := fun W => Mods [] w1 W) 35 rfl (by kernel_rfl) (Mods.refl.drew) (fun hHeld => ?_)
  refine takeD (i := 0) (d := 38) (v := ?_) rfl rfl (by kernel_rfl) (by kernel_rfl) (by kernel_rfl) (fun _ _ _ h => h) (Or.inl ⟨by rfl, ?_⟩) hHeld ?_
  rotate_left 1
  · (intro w hSw; (try dsimp only at hSw); go_simp; (try with_reducible rfl))
  simp only [List.setIfInBounds_toArray, List.set_cons_zero, List.set_cons_succ]
  refine takeD (i := 1) (d := 39) (v := ?_) rfl rfl (by kernel_rfl) (by kernel_rfl) (by kernel_rfl) (fun _ _ _ h => h) (Or.inl ⟨by rfl, ?_⟩) hHeld ?_
  rotate_left 1
  · (intro w hSw; (try dsimp only at hSw); go_simp; (try with_reducible rfl))
  simp only [List.setIfInBounds_toArray, List.set_cons_zero, List.set_cons_succ]
  refine takeD (i := 2) (d := 40) (v := .int .u8 (b8 X 1 : Nat)) rfl rfl (by kernel_rfl) (by kernel_rfl) (by kernel_rfl) (fun _ _ _ h => h) (Or.inl ⟨by rfl, fun w hSw => ?_⟩) hHeld ?_
  · have cst := HCB.out w hSw 1 (by omega)
    go_simp
  simp only [List.setIfInBounds_toArray, List.set_cons_zero, List.set_cons_succ]
  refine takeD (i := 3) (d := 41) (v := ?_) rfl rfl (by kernel_rfl) (by kernel_rfl) (by kernel_rfl) (fun _ _ _ h => h) (Or.inl ⟨by rfl, ?_⟩) hHeld ?_
  rotate_left 1
  · (intro w hSw; (try dsimp only at hSw); go_simp; (try with_reducible rfl))
  simp only [List.setIfInBounds_toArray, List.set_cons_zero, List.set_cons_succ]
  refine takeD (i := 4) (d := 42) (v := ?_) rfl rfl (by kernel_rfl) (by kernel_rfl) (by kernel_rfl) (fun _ _ _ h => h) (Or.inl ⟨by rfl, ?_⟩) hHeld ?_
  rotate_left 1
  · (intro w hSw; (try dsimp only at hSw); go_simp; (try with_reducible rfl))
  simp only [List.setIfInBounds_toArray, List.set_cons_zero, List.set_cons_succ]
  refine takeD (i := 5) (d := 43) (v := .int .u8 (b8 X 2 : Nat)) rfl rfl (by kernel_rfl) (by kernel_rfl) (by kernel_rfl) (fun _ _ _ h => h) (Or.inl ⟨by rfl, fun w hSw => ?_⟩) hHeld ?_
  · have cst := HCB.out w hSw 2 (by omega)
    go_simp
  simp only [List.setIfInBounds_toArray, List.set_cons_zero, List.set_cons_succ]
  refine takeD (i := 6) (d := 44) (v := ?_) rfl rfl (by kernel_rfl) (by kernel_rfl) (by kernel_rfl) (fun _ _ _ h => h) (Or.inl ⟨by rfl, ?_⟩) hHeld ?_
  rotate_left 1
  · (intro w hSw; (try dsimp only at hSw); go_simp; (try with_reducible rfl))
  simp only [List.setIfInBounds_toArray, List.set_cons_zero, List.set_cons_succ]
  refine takeD (i := 7) (d := 45) (v := ?_) rfl rfl (by kernel_rfl) (by kernel_rfl) (by kernel_rfl) (fun _ _ _ h => h) (Or.inl ⟨by rfl, ?_⟩) hHeld ?_
  rotate_left 1
  · (intro w hSw; (try dsimp only at hSw); go_simp; (try with_reducible rfl))
  simp only [List.setIfInBounds_toArray, List.set_cons_zero, List.set_cons_succ]
  refine takeD (i := 8) (d := 46) (v := .int .u8 (b8 X 3 : Nat)) rfl rfl (by kernel_rfl) (by kernel_rfl) (by kernel_rfl) (fun _ _ _ h => h) (Or.inl ⟨by rfl, fun w hSw => ?_⟩) hHeld ?_
  · have cst := HCB.out w hSw 3 (by omega)
    go_simp
  simp only [List.setIfInBounds_toArray, List.set_cons_zero, List.set_cons_succ]
  refine takeD (i := 9) (d := 47) (v := ?_) rfl rfl (by kernel_rfl) (by kernel_rfl) (by kernel_rfl) (fun _ _ _ h => h) (Or.inl ⟨by rfl, ?_⟩) hHeld ?_
  rotate_left 1
  · (intro w hSw; (try dsimp only at hSw); go_simp; (try with_reducible rfl))
  simp only [List.setIfInBounds_toArray, List.set_cons_zero, List.set_cons_succ]
  refine takeD (i := 10) (d := 48) (v := ?_) rfl rfl (by kernel_rfl) (by kernel_rfl) (by kernel_rfl) (fun _ _ _ h => h) (Or.inl ⟨by rfl, ?_⟩) hHeld ?_
  rotate_left 1
  · (intro w hSw; (try dsimp only at hSw); go_simp; (try with_reducible rfl))
  simp only [List.setIfInBounds_toArray, List.set_cons_zero, List.set_cons_succ]
  refine takeD (i := 11) (d := 49) (v := .int .u8 (b8 X 4 : Nat)) rfl rfl (by kernel_rfl) (by kernel_rfl) (by kernel_rfl) (fun _ _ _ h => h) (Or.inl ⟨by rfl, fun w hSw => ?_⟩) hHeld ?_
  · have cst := HCB.out w hSw 4 (by omega)
    go_simp
  simp only [List.setIfInBounds_toArray, List.set_cons_zero, List.set_cons_succ]
  refine takeD (i := 12) (d := 50) (v := ?_) rfl rfl (by kernel_rfl) (by kernel_rfl) (by kernel_rfl) (fun _ _ _ h => h) (Or.inl ⟨by rfl, ?_⟩) hHeld ?_
  rotate_left 1
  · (intro w hSw; (try dsimp only at hSw); go_simp; (try with_reducible rfl))
  simp only [List.setIfInBounds_toArray, List.set_cons_zero, List.set_cons_succ]
  refine takeD (i := 13) (d := 51) (v := ?_) rfl rfl (by kernel_rfl) (by kernel_rfl) (by kernel_rfl) (fun _ _ _ h => h) (Or.inl ⟨by rfl, ?_⟩) hHeld ?_
  rotate_left 1
  · (intro w hSw; (try dsimp only at hSw); go_simp; (try with_reducible rfl))
  simp only [List.setIfInBounds_toArray, List.set_cons_zero, List.set_cons_succ]
  refine takeD (i := 14) (d := 52) (v := .int .u8 (b8 X 5 : Nat)) rfl rfl (by kernel_rfl) (by kernel_rfl) (by kernel_rfl) (fun _ _ _ h => h) (Or.inl ⟨by rfl, fun w hSw => ?_⟩) hHeld ?_
  · have cst := HCB.out w hSw 5 (by omega)
    go_simp
  simp only [List.setIfInBounds_toArray, List.set_cons_zero, List.set_cons_succ]
  refine takeD (i := 15) (d := 53) (v := ?_) rfl rfl (by kernel_rfl) (by kernel_rfl) (by kernel_rfl) (fun _ _ _ h => h) (Or.inl ⟨by rfl, ?_⟩) hHeld ?_
  rotate_left 1
  · (intro w hSw; (try dsimp only at hSw); go_simp; (try with_reducible rfl))
  simp only [List.setIfInBounds_toArray, List.set_cons_zero, List.set_cons_succ]
  refine takeD (i := 16) (d := 54) (v := ?_) rfl rfl (by kernel_rfl) (by kernel_rfl) (by kernel_rfl) (fun _ _ _ h => h) (Or.inl ⟨by rfl, ?_⟩) hHeld ?_
  rotate_left 1
  · (intro w hSw; (try dsimp only at hSw); go_simp; (try with_reducible rfl))
  simp only [List.setIfInBounds_toArray, List.set_cons_zero, List.set_cons_succ]
  refine takeD (i := 17) (d := 55) (v := ?_) rfl rfl (by kernel_rfl) (by kernel_rfl) (by kernel_rfl) (fun _ _ _ h => h) (Or.inl ⟨by rfl, ?_⟩) hHeld ?_
  rotate_left 1
  · (intro w hSw; (try dsimp only at hSw); go_simp; (try with_reducible rfl))
  simp only [List.setIfInBounds_toArray, List.set_cons_zero, List.set_cons_succ]
  refine takeD (i := 18) (d := 56) (v := .int .u8 (b8 X 6 : Nat)) rfl rfl (by kernel_rfl) (by kernel_rfl) (by kernel_rfl) (fun _ _ _ h => h) (Or.inl ⟨by rfl, fun w hSw => ?_⟩) hHeld ?_
  · have cst := HCB.out w hSw 6 (by omega)
    go_simp
  simp only [List.setIfInBounds_toArray, List.set_cons_zero, List.set_cons_succ]
  refine takeD (i := 19) (d := 57) (v := ?_) rfl rfl (by kernel_rfl) (by kernel_rfl) (by kernel_rfl) (fun _ _ _ h => h) (Or.inl ⟨by rfl, ?_⟩) hHeld ?_
  rotate_left 1
  · (intro w hSw; (try dsimp only at hSw); go_simp; (try with_reducible rfl))
  simp only [List.setIfInBounds_toArray, List.set_cons_zero, List.set_cons_succ]
  refine takeD (i := 20) (d := 58) (v := ?_) rfl rfl (by kernel_rfl) (by kernel_rfl) (by kernel_rfl) (fun _ _ _ h => h) (Or.inl ⟨by rfl, ?_⟩) hHeld ?_
  rotate_left 1
  · (intro w hSw; (try dsimp only at hSw); go_simp; (try with_reducible rfl))
  simp only [List.setIfInBounds_toArray, List.set_cons_zero, List.set_cons_succ]
  refine takeD (i := 21) (d := 59) (v := ?_) rfl rfl (by kernel_rfl) (by kernel_rfl) (by kernel_rfl) (fun _ _ _ h => h) (Or.inl ⟨by rfl, ?_⟩) hHeld ?_
  rotate_left 1
  · (intro w hSw; (try dsimp only at hSw); go_simp; (try with_reducible rfl))
  simp only [List.setIfInBounds_toArray, List.set_cons_zero, List.set_cons_succ]
  refine takeD (i := 22) (d := 60) (v := ?_) rfl rfl (by kernel_rfl) (by kernel_rfl) (by kernel_rfl) (fun _ _ _ h => h) (Or.inl ⟨by rfl, ?_⟩) hHeld ?_
  rotate_left 1
  · (intro w hSw; (try dsimp only at hSw); go_simp; (try with_reducible rfl))
  simp only [List.setIfInBounds_toArray, List.set_cons_zero, List.set_cons_succ]
  refine takeD (i := 23) (d := 61) (v := .int .u8 (b8 X 6 : Nat)) rfl rfl (by kernel_rfl) (by kernel_rfl) (by kernel_rfl) (fun _ _ _ h => h) (Or.inl ⟨by rfl, fun w hSw => ?_⟩) hHeld ?_
  · have cst := HCB.out w hSw 6 (by omega)
    go_simp
  simp only [List.setIfInBounds_toArray, List.set_cons_zero, List.set_cons_succ]
  refine takeD (i := 24) (d := 62) (v := ?_) rfl rfl (by kernel_rfl) (by kernel_rfl) (by kernel_rfl) (fun _ _ _ h => h) (Or.inl ⟨by rfl, ?_⟩) hHeld ?_
  rotate_left 1
  · (intro w hSw; (try dsimp only at hSw); go_simp; (try with_reducible rfl))
  simp only [List.setIfInBounds_toArray, List.set_cons_zero, List.set_cons_succ]
  refine takeD (i := 25) (d := 63) (v := ?_) rfl rfl (by kernel_rfl) (by kernel_rfl) (by kernel_rfl) (fun _ _ _ h => h) (Or.inl ⟨by rfl, ?_⟩) hHeld ?_
  rotate_left 1
  · (intro w hSw; (try dsimp only at hSw); go_simp; (try with_reducible rfl))
  simp only [List.setIfInBounds_toArray, List.set_cons_zero, List.set_cons_succ]
  refine takeD (i := 26) (d := 64) (v := ?_) rfl rfl (by kernel_rfl) (by kernel_rfl) (by kernel_rfl) (fun _ _ _ h => h) (Or.inl ⟨by rfl, ?_⟩) hHeld ?_
  rotate_left 1
  · (intro w hSw; (try dsimp only at hSw); go_simp; (try with_reducible rfl))
  simp only [List.setIfInBounds_toArray, List.set_cons_zero, List.set_cons_succ]
  refine takeD (i := 27) (d := 65) (v := ?_) rfl rfl (by kernel_rfl) (by kernel_rfl) (by kernel_rfl) (fun _ _ _ h => h) (Or.inl ⟨by rfl, ?_⟩) hHeld ?_
  rotate_left 1
  · (intro w hSw; (try dsimp only at hSw); go_simp; (try with_reducible rfl))
  simp only [List.setIfInBounds_toArray, List.set_cons_zero, List.set_cons_succ]
  refine takeD (i := 28) (d := 66) (v := ?_) rfl rfl (by kernel_rfl) (by kernel_rfl) (by kernel_rfl) (fun _ _ _ h => h) (Or.inl ⟨by rfl, ?_⟩) hHeld ?_
  rotate_left 1
  · (intro w hSw; (try dsimp only at hSw); go_simp; (try with_reducible rfl))
  simp only [List.setIfInBounds_toArray, List.set_cons_zero, List.set_cons_succ]
  refine takeD (i := 29) (d := 67) (v := .int .u8 (b8 X 6 : Nat)) rfl rfl (by kernel_rfl) (by kernel_rfl) (by kernel_rfl) (fun _ _ _ h => h) (Or.inl ⟨by rfl, fun w hSw => ?_⟩) hHeld ?_
  · have cst := HCB.out w hSw 6 (by omega)
    go_simp
  simp only [List.setIfInBounds_toArray, List.set_cons_zero, List.set_cons_succ]
  refine takeD (i := 30) (d := 68) (v := ?_) rfl rfl (by kernel_rfl) (by kernel_rfl) (by kernel_rfl) (fun _ _ _ h => h) (Or.inl ⟨by rfl, ?_⟩) hHeld ?_
  rotate_left 1
  · (intro w hSw; (try dsimp only at hSw); go_simp; (try with_reducible rfl))
  simp only [List.setIfInBounds_toArray, List.set_cons_zero, List.set_cons_succ]
  refine takeD (i := 31) (d := 69) (v := ?_) rfl rfl (by kernel_rfl) (by kernel_rfl) (by kernel_rfl) (fun _ _ _ h => h) (Or.inl ⟨by rfl, ?_⟩) hHeld ?_
  rotate_left 1
  · (intro w hSw; (try dsimp only at hSw); go_simp; (try with_reducible rfl))
  simp only [List.setIfInBounds_toArray, List.set_cons_zero, List.set_cons_succ]
  refine takeD (i := 32) (d := 70) (v := ?_) rfl rfl (by kernel_rfl) (by kernel_rfl) (by kernel_rfl) (fun _ _ _ h => h) (Or.inl ⟨by rfl, ?_⟩) hHeld ?_
  rotate_left 1
  · (intro w hSw; (try dsimp only at hSw); go_simp; (try with_reducible rfl))
  simp only [List.setIfInBounds_toArray, List.set_cons_zero, List.set_cons_succ]
  refine wpAnyH_ready (rs := [33]) (by kernel_rfl) (by simp) ?_
  refine AllReadyH.cons rfl (fun K hK => ?_) AllReadyH.nil
  go_simp
  refine hK.out _ _ ?_ (fun hHeld => ?_)
  · exact hHeld.alloc _
  clear hK K
  have RG2 : (w1.drew.alloc (.cells zS.cells 32)).heap[w1.heap.size]? = some (.cells zS.cells 32 (0, 0)) := heap_alloc_new w1.drew _
  refine wpAnyH_ready (rs := [34]) (by kernel_rfl) (by simp) ?_
  refine AllReadyH.cons rfl (fun K hK => ?_) AllReadyH.nil
  refine exec_store rfl rfl rfl RG2 rfl rfl (by rfl) (Sen.infoS zS) (by simp [Value.oneCell']) (fun w3 R3 M3 => ?_)
  refine hK.out _ _ ?_ (fun hHeld => ?_)
  · exact hHeld.comp M3 (fun k hk => by simp at hk; exact .inr (by omega))
  clear hK K
  refine wpAnyH_done (by kernel_rfl) ?_ _
  have HM3 := Lib.hid (show Mods [] w1 w3 from hHeld)
  have HG3 : Hid (w3.heap[w1.heap.size]? = some (.cells (hdrS X ⟨#[]⟩).cells 32 (0, 0))) := Lib.hid (by rw [eHD.out]; refine R3.trans ?_; simp [Sen.cells, zC])
  have RA3 := Lib.hid (HM3.out.heap RA1.out (by simp))
  have RB3 := Lib.hid (HM3.out.heap RB1.out (by simp))
  have HX3 := Lib.hid (HM1.out.trans HM3.out)
  have hgs : w.heap.size + 1 < w1.heap.size := lt_of_block RB1.out
  have hgg : g < w1.heap.size := (HO1.out.lt g rfl).2
  clear hHeld R3 M3 RG2 hA1 hA2 ew6 eu2 eHD hT1 hT2 hW4
  obtain ⟨at0, hat0⟩ : ∃ at0 : Nat, at0 = 8 + b8 X 7 := ⟨_, rfl⟩
  have ew : IntKind.i64.wrap (b8 X 7 : Int) = (b8 X 7 : Int) := IntWalk.i64_in _ (by omega)
  have eAT : 8 + (b8 X 7 : Int) = (at0 : Int) := by omega
  have q8 : decide ((X.length : Int) < (at0 : Int)) = false := decide_eq_false (by omega)
  have x7 := HCB.out w3 HM3.out 7 (by omega)
  have z1 : (8 : Int) ≤ (at0 : Int) := by omega
  have z2 : (at0 : Int) ≤ (c : Int) := by omega
  have hat8 : 8 ≤ at0 := by omega
  have hatX : at0 ≤ X.length := by omega
  have HAT := Lib.hid hat0
  clear hat0
  obtain ⟨ad8, had8⟩ : ∃ ad8 : Option Addr, ad8 = if c = 8 then some ⟨g, 0, none⟩ else some ⟨g, 8, none⟩ := ⟨_, rfl⟩
  have HSL : Hid (∀ W, Mods [] w1 W → (Instr.sliceAt 33 (.slice (some ⟨g, 0, none⟩) X.length c) (some (.int .i64 8)) (some (.int .i64 (at0 : Int))) none).run Try.prog W = .ok (.slice ad8 (at0 - 8) (c - 8)) W) := Lib.hid (fun W M => by
    rw [had8]
    go_simp
    try (split <;> simp_all))
  have HCV : Hid (∀ W, Mods [] w1 W → (convert 33 9 (.slice ad8 (at0 - 8) (c - 8))).run Try.prog W = .ok (.string (nmX X)) W) := Lib.hid (fun W M => by
    have e7 : at0 - 8 = b8 X 7 := by have := HAT.out; omega
    rw [e7]
    have hR : ∀ b o, ad8 = some ⟨b, o, none⟩ → ∀ i, i < b8 X 7 → W.cell? ⟨b, o + i, none⟩ = some (.int .u8 (((X.drop 8).take (b8 X 7)).getD i 0)) := by
      intro b o h i hi
      have h5 : W.cell? ⟨g, 8 + i, none⟩ = _ := HCB.out W M (8 + i) (by omega)
      rw [had8] at h
      have hc8 : ¬ c = 8 := by omega
      rw [if_neg hc8] at h
      cases h
      rw [h5, b8_cast HXB.out, List.getD_eq_getElem?_getD, List.getD_eq_getElem?_getD, List.getElem?_take, if_pos hi, List.getElem?_drop]
    have hN : (nmX X) = strOfNums ((X.drop 8).take (b8 X 7)) := by unfold nmX; exact strOf_nums _
    rw [hN]
    obtain ⟨b, o, h⟩ : ∃ b o, ad8 = some ⟨b, o, none⟩ := by rw [had8]; split; exact ⟨_, _, rfl⟩; exact ⟨_, _, rfl⟩
    have h6 := hR b o h
    rw [h]
    exact run_convert_bytes_arg (P := Try.prog) W _ _ Try.underlying33 Try.underlying5 b o _ _ _ (by simp; omega) h6 _ Try.underlying9)
  have hsl3 := HSL.out w3 HM3.out
  have hcv3 := HCV.out w3 HM3.out
  clear had8 HSL HCV
  generalize w1.heap.size = gs at HG3 hgs hgg ⊢
  have cx3 : w3.cell? ⟨gs, 3, none⟩ = some (.string ⟨#[]⟩) := (cell_blk HG3.out 3).trans rfl
  have fx3 : w3.frozen? ⟨gs, 3, none⟩ = false := froz_blk HG3.out 3
  have cx6 : w3.cell? ⟨gs, 6, none⟩ = some (.bool (dsX X)) := (cell_blk HG3.out 6).trans rfl
  -- the world with the name
  have HG4 : Hid ((w3.setCell ⟨gs, 3, none⟩ (.string (nmX X))).heap[gs]? = some (.cells (hdrS X (nmX X)).cells 32 (0, 0))) := Lib.hid (heap_setCell (i := 3) (v := .string (nmX X)) HG3.out)
  have RA4 : Hid ((w3.setCell ⟨gs, 3, none⟩ (.string (nmX X))).heap[w.heap.size]? = some (.cells zS.cells 32 (0, 0))) := Lib.hid (heap_setCell_ne RA3.out (by show w.heap.size ≠ gs; omega))
  have RB4 : Hid ((w3.setCell ⟨gs, 3, none⟩ (.string (nmX X))).heap[w.heap.size + 1]? = some (.cells zS.cells 32 (0, 0))) := Lib.hid (heap_setCell_ne RB3.out (by show w.heap.size + 1 ≠ gs; omega))
  have HM4 := Lib.hid (HX3.out.setCell (p := ⟨gs, 3, none⟩) (.inr (by show w.heap.size ≤ gs; omega)) (.string (nmX X)))
  have HK4 := Lib.hid ((Mods.refl (S := [gs]) (w := w3)).setCell (p := ⟨gs, 3, none⟩) (.inl (by simp)) (.string (nmX X)))
  rw [HD.out] at cx6
  have y0 : (0 : Int) ≤ (at0 : Int) := by omega
  have y1 : (at0 : Int) ≤ (X.length : Int) := by omega
  have HRB := Lib.hid (show Bytes (rsX X) from HXB.out.drop _)
  have H6 := Lib.hid (show (rsX X).length = X.length - at0 by unfold rsX; rw [List.length_drop, HAT.out])
  obtain ⟨adE, hadE⟩ : ∃ adE : Option Addr, adE = if c = at0 then some ⟨g, 0, none⟩ else some ⟨g, at0, none⟩ := ⟨_, rfl⟩
  have HRD : Hid (∀ W, Mods [gs] w3 W → Rd W (.slice adE (X.length - at0) (c - at0)) (u8s (rsX X))) := Lib.hid (fun W M => by
    have hr := (HO1.out.rd.mods0 HM3.out).mods M (fun _ q hq => by simp [Value.ownBlock] at hq; subst hq; simp; omega)
    obtain ⟨_, _, he, q1, q2, hc⟩ := hr.u8
    injection he with he1 _ he3
    subst he1 he3
    have hl := H6.out
    refine ⟨adE, c - at0, by rw [u8s_length, hl], by rw [u8s_length, hl]; omega, by unfold maxLen at *; omega, fun i hi => ?_⟩
    rw [u8s_length, hl] at hi
    have hne : ¬ c = at0 := by omega
    refine ⟨g, at0, by rw [hadE, if_neg hne], ?_⟩
    obtain ⟨b', o', h', hx⟩ := hc (at0 + i) (by omega)
    cases h'
    rw [Nat.zero_add] at hx
    rw [hx, u8s_getD _ _ (by rw [hl]; omega)]
    unfold rsX
    rw [← HAT.out, List.getD_eq_getElem?_getD, List.getD_eq_getElem?_getD, List.getElem?_drop])
  have HSE2 : Hid (∀ W, (Instr.sliceAt 33 (.slice (some ⟨g, 0, none⟩) X.length c) (some (.int .i64 (at0 : Int))) none none).run Try.prog W = .ok (.slice adE (X.length - at0) (c - at0)) W) := Lib.hid (fun W => by
    rw [hadE]
    go_simp
    try (split <;> simp_all))
  have hse := HSE2.out (w3.setCell ⟨gs, 3, none⟩ (.string (nmX X)))
  clear hadE
  -- the conversion is decoded and stored: block gs holds it; nn bytes; at1 behind them
  go_wp2_with fail
  refine (refDec_ok _ _ (rsX X) (HRD.out _ HK4.out) HRB.out).mono ?_
  rintro e w5 h5
  unfold DecRes at h5
  rw [if_pos HZ.out] at h5
  obtain ⟨pv, rfl, OP5, M5⟩ := h5
  obtain ⟨hz1, hz2, hz3⟩ := errC_zero HZ.out
  obtain ⟨nn, hnn⟩ : ∃ nn : Nat, (lenC (rsX X)).1 = (nn : Int) := ⟨(lenC (rsX X)).1.toNat, by have := lenC_facts hz1; have := HRB.out 1; omega⟩
  rw [hnn] at hz2 ⊢
  have HNN := Lib.hid hnn
  have hnX : at0 + nn ≤ X.length := by have := H6.out; omega
  have HM5 := Lib.hid (HM4.out.trans M5)
  have RA5 := Lib.hid (M5.heap RA4.out (by simp))
  have RB5 := Lib.hid (M5.heap RB4.out (by simp))
  have HG5 := Lib.hid (M5.heap HG4.out (by simp))
  have HK5 := Lib.hid (HK4.out.comp0 M5)
  have hpv : (decC (rsX X) pv).pts = pv := by unfold decC; split <;> rfl
  have hpc : (decC (rsX X) pv).pts.oneCell' = true := by rw [hpv]; exact OP5.rd.one
  have HO5 := Lib.hid (OP5.down (show w3.heap.size ≤ _ from HK4.out.size))
  obtain ⟨CC, hCC⟩ : ∃ CC, CC = decC (rsX X) pv := ⟨_, rfl⟩
  rw [← hCC] at hpc ⊢
  have HCC := Lib.hid hCC
  clear M5 hCC hpv OP5 hnn hz1 hz2 hz3 cx3 fx3 cx6 hse hsl3 hcv3 x7 y1 z1 z2
  generalize w3.setCell ⟨gs, 3, none⟩ (.string (nmX X)) = w4 at HG4 RA4 RB4 HM4 HK4 ⊢
  obtain ⟨a1, ha1⟩ : ∃ a1 : Nat, a1 = at0 + nn := ⟨_, rfl⟩
  have eA1 : (at0 : Int) + (nn : Int) = (a1 : Int) := by omega
  have HA1 := Lib.hid ha1
  have l1 : a1 ≤ X.length := by omega
  have HRL := Lib.hid (show ((rsX X).drop (lenC (rsX X)).1.toNat).length = X.length - a1 by rw [HNN.out, Int.toNat_natCast, List.length_drop, H6.out]; omega)
  clear ha1 hnX
  have ha9 : a1 + 9 ≤ X.length := by have := H13.out; have := HRL.out; omega
  have t9 : decide ((X.length : Int) < (a1 : Int) + 9) = false := decide_eq_false (by omega)
  have u0 : (0 : Int) ≤ (a1 : Int) := by omega
  have u1 : (a1 : Int) < (X.length : Int) := by omega
  have hgs7 : gs ≠ g := by omega
  have HGS := Lib.hid hgs
  -- the bytes, wherever block gs alone has turned
  have HCG : Hid (∀ W, Mods [gs] w3 W → ∀ i, i < X.length → W.cell? ⟨g, i, none⟩ = some (.int .u8 (b8 X i : Nat))) := Lib.hid (fun W M i hi => M.cell (HCB.out w3 HM3.out i hi) (by simp; omega))
  have HW : Hid (∀ W, Mods [gs] w3 W → ∀ i, i + 2 ≤ X.length → Calls Try.prog 61 #[.slice (some ⟨g, i, none⟩) 2 (c - i)] W fun e w' => e = .returned (.int .u64 (w16 X i : Nat)) ∧ W = w') := Lib.hid (fun W M i hi => by
    have hr := ((HO1.out.rd.mods0 HM3.out).mods M (fun _ q hq => by simp [Value.ownBlock] at hq; subst hq; simp; omega)).part i 2 hi
    have := refNumber_ok' W _ _ hr ((HXB.out.drop i).take 2) (by simp; omega)
    rwa [leN_two HXB.out i hi] at this)
  have hu16 : ∀ i, IntKind.u16.wrap ((w16 X i : Nat) : Int) = ((w16 X i : Nat) : Int) := fun i => by have := w16_lt HXB.out i; rw [IntKind.wrap_u16]; omega
  have HU16 := Lib.hid hu16
  clear hu16
  have hsm : ({ (hdrS X (nmX X)) with conv := CC } : Sen).cells.setIfInBounds 14 (.int .u8 ((b8 X a1 : Nat) : Int)) = ({ (hdrS X (nmX X)) with conv := CC, mask := b8 X a1 } : Sen).cells := rfl
  have HSM := Lib.hid hsm
  clear hsm H13
  go_wp2_with (first
  | (refine wpList_store_row (cs := CC.cells) rfl 26 (.tmp 9) (.tmp 94) rfl (heap_alloc_new w5 _) (by rfl) (by rfl) (by rfl) (Conv.infoCC _) (Conv.one _ hpc) ?_; intro w6 R6 M6; have HF6 := Lib.hid (fresh M6); have HQ6 := Lib.hid R6; have HM6 := Lib.hid (HM5.out.trans HF6.out); have RA6 := Lib.hid (HF6.out.heap RA5.out (by simp)); have RB6 := Lib.hid (HF6.out.heap RB5.out (by simp)); have HG6 := Lib.hid (HF6.out.heap HG5.out (by simp)); clear R6 M6)
  | (refine wpList_load_row rfl 26 (.tmp 9) rfl w5.heap.size (by rfl) _ _ _ _ HQ6.out Try.underlying26 rfl (Conv.infoCC _) ?_)
  | (refine wpList_store_part (cs := CC.cells) rfl 26 (.tmp 102) (.tmp 101) rfl HG6.out 7 (by rfl) (by rfl) (show 7 + 7 ≤ 28 by decide) (Conv.infoCC _) (Conv.one _ hpc) ?_; intro w7 R7 M7; rw [setAll_conv] at R7; have HG7 := Lib.hid R7; have HM7 := Lib.hid (HM6.out.comp M7 (fun k hk => by simp at hk; subst hk; exact .inr (by omega))); have RA7 := Lib.hid (M7.heap RA6.out (by simp; omega)); have RB7 := Lib.hid (M7.heap RB6.out (by simp; omega)); have HK7 := Lib.hid ((HK5.out.comp0 HF6.out).trans M7); have HB7 := Lib.hid (SBk.mk HG7.out RA7.out RB7.out HM7.out HK7.out ((Mods.refl.comp0 HF6.out).trans M7) : SBk w w3 w5 w7 gs { (hdrS X (nmX X)) with conv := CC }); have HB8 := Lib.hid (HB7.out.set HGS.out 14 _ _ HSM.out); have ca := HCG.out w7 HK7.out a1 (by omega); have cm := (cell_blk HG7.out 14).trans (show _ = some (Value.int .u8 ((0 : Nat) : Int)) from rfl); have fm := froz_blk HG7.out 14; clear R7 M7)
    | (fail))
  clear ca cm fm HB7 HG7 RA7 RB7 HM7 HK7 HG6 RA6 RB6 HM6 HF6 HQ6
  generalize w7.setCell ⟨gs, 14, none⟩ (.int .u8 ((b8 X a1 : Nat) : Int)) = w8 at HB8 ⊢
  obtain ⟨SM, hSM⟩ : ∃ SM : Sen, SM = { (hdrS X (nmX X)) with conv := CC, mask := b8 X a1 } := ⟨_, rfl⟩
  rw [← hSM] at HB8
  have HSMD := Lib.hid hSM
  clear hSM
  go_loopw [12] (fun i wx => ∃ k : Nat, k ≤ 6 ∧ i = .int .i64 k ∧ SBk w w3 w5 wx gs (rawK SM (fun i => b8 X (a1 + 1 + i)) k)) (fun i _ => 6 - (intOf i).toNat)
  case atStart => exact ⟨0, by omega, rfl, HB8.out⟩
  case round =>
    obtain ⟨k, hk, rfl, hB⟩ := hrel
    have HB := Lib.hid hB
    have i0 : (0 : Int) ≤ (k : Int) := by omega
    clear hB
    by_cases hlt : k < 6
    · have i1 : (k : Int) < 6 := by omega
      obtain ⟨m, hm⟩ : ∃ m : Nat, m = a1 + 1 + k := ⟨_, rfl⟩
      have ca := HCG.out wr HB.out.k m (by omega)
      have cm := (cell_blk HB.out.g (15 + k)).trans (raw_cell _ hlt)
      have fm := froz_blk HB.out.g (15 + k)
      have HN := Lib.hid (show SBk w w3 w5 (wr.setCell ⟨gs, 15 + k, none⟩ (.int .u8 ((b8 X m : Nat) : Int))) gs (rawK SM (fun i => b8 X (a1 + 1 + i)) (k + 1)) by rw [hm]; exact HB.out.set HGS.out (15 + k) _ _ (setRaw_cells _ hlt _))
      have ew : IntKind.i64.wrap ((a1 : Int) + 1 + (k : Int)) = (m : Int) := by rw [IntWalk.i64_in _ (by omega)]; omega
      have e2 : (m : Int) < (X.length : Int) := by omega
      have e3 : (0 : Int) ≤ (m : Int) := by omega
      have e4 : m < X.length := by omega
      have HMM := Lib.hid hm
      clear hm
      go_wp2_with fail
      go_roundw
      case rel => exact ⟨k + 1, by omega, by go_num, HN.out⟩
      case measure => simp [intOf]; omega
    · have i1 : ¬ (k : Int) < 6 := by omega
      obtain rfl : k = 6 := by omega
      obtain ⟨SR, hSR⟩ : ∃ SR : Sen, SR = rawK SM (fun i => b8 X (a1 + 1 + i)) 6 := ⟨_, rfl⟩
      rw [← hSR] at HB
      have HSRD := Lib.hid hSR
      clear hSR HB8
      have ca7 := HCG.out wr HB.out.k (a1 + 7) (by omega)
      have cm7 := (cell_blk HB.out.g 21).trans (show _ = some (Value.int .u8 ((SR.hl : Nat) : Int)) from rfl)
      have fm7 := froz_blk HB.out.g 21
      have HB9 := Lib.hid (HB.out.set HGS.out 21 (.int .u8 ((b8 X (a1 + 7) : Nat) : Int)) { SR with hl := b8 X (a1 + 7) } rfl)
      have ca8 := HCG.out _ HB9.out.k (a1 + 8) (by omega)
      have cm8 := (cell_blk HB9.out.g 22).trans (show _ = some (Value.int .u8 ((SR.hu : Nat) : Int)) from rfl)
      have fm8 := froz_blk HB9.out.g 22
      have HB10 := Lib.hid (HB9.out.set HGS.out 22 (.int .u8 ((b8 X (a1 + 8) : Nat) : Int)) { SR with hl := b8 X (a1 + 7), hu := b8 X (a1 + 8) } rfl)
      obtain ⟨a2, ha2⟩ : ∃ a2 : Nat, a2 = a1 + 9 := ⟨_, rfl⟩
      have eA2 : (a1 : Int) + 9 = (a2 : Int) := by omega
      have HA2 := Lib.hid ha2
      have l0 : (0 : Int) ≤ (a2 : Int) := by omega
      have l2 : (a2 : Int) ≤ (X.length : Int) := by omega
      have HRE := Lib.hid (show restErr false (rsX X) = if X.length < a2 + 4 then 4 else if a2 + 4 < X.length then 6 else 0 by
        unfold restErr
        rw [if_neg (by decide), if_neg (fun h => h HZ.out), HRL.out, HA2.out]
        split <;> split <;> first | rfl | (split <;> first | rfl | omega) | omega)
      clear i1 ha2 HB
      go_upto_region 34 with (fail)
      generalize (wr.setCell ⟨gs, 21, none⟩ (.int .u8 ((b8 X (a1 + 7) : Nat) : Int))).setCell ⟨gs, 22, none⟩ (.int .u8 ((b8 X (a1 + 8) : Nat) : Int)) = w9 at HB10 ⊢
      clear ca7 cm7 fm7 ca8 cm8 fm8 HB9
      obtain ⟨SU, hSU⟩ : ∃ SU : Sen, SU = { SR with hl := b8 X (a1 + 7), hu := b8 X (a1 + 8) } := ⟨_, rfl⟩
      rw [← hSU] at HB10
      have HSUD := Lib.hid hSU
      clear hSU
      have RA9 := Lib.hid HB10.out.a
      have RB9 := Lib.hid HB10.out.b
      have HM9 := Lib.hid HB10.out.m
      by_cases hlt : X.length < a2 + 4
      · have HR := Lib.hid (show errX X = 4 by rw [HXX.out, HD.out, HRE.out, if_pos hlt, if_pos (by decide)])
        have t4 : decide ((X.length : Int) < (a2 : Int) + 4) = true := decide_eq_true (by omega)
        clear hlt HXX HRE
        go_wp2_with (first
          | (refine wpList_load_sen rfl (.tmp 4) rfl (SenBox.mk RB9.out) (by rfl) ?_)
          | (refine wpList_store_row (cs := zS.cells) rfl 32 (.tmp 2) (.tmp 168) rfl RA9.out (by rfl) (by rfl) rfl (Sen.infoS _) zS_one ?_; intro wz Rz Mz))
        have HMX := HM9.out.comp Mz (fun k hk => by simp at hk; exact .inr (by omega))
        refine bodyPost_ret (results_cell_row2 rfl _ _ w.heap.size _ _ _ _ rfl Rz Try.underlying32 rfl (Sen.infoS _)) rfl ?_
        have := HSE.out wz (by rw [HR.out]; decide) HMX
        rw [HR.out] at this
        exact this
      · by_cases hgt : a2 + 4 < X.length
        · have HR := Lib.hid (show errX X = 6 by rw [HXX.out, HD.out, HRE.out, if_neg hlt, if_pos hgt, if_pos (by decide)])
          have t4 : decide ((X.length : Int) < (a2 : Int) + 4) = false := decide_eq_false (by omega)
          have t5 : decide ((X.length : Int) > (a2 : Int) + 4) = true := decide_eq_true (by omega)
          clear hlt HXX hgt HRE
          go_wp2_with (first
            | (refine wpList_load_sen rfl (.tmp 4) rfl (SenBox.mk RB9.out) (by rfl) ?_)
            | (refine wpList_store_row (cs := zS.cells) rfl 32 (.tmp 2) (.tmp 174) rfl RA9.out (by rfl) (by rfl) rfl (Sen.infoS _) zS_one ?_; intro wz Rz Mz))
          have HMX := HM9.out.comp Mz (fun k hk => by simp at hk; exact .inr (by omega))
          refine bodyPost_ret (results_cell_row2 rfl _ _ w.heap.size _ _ _ _ rfl Rz Try.underlying32 rfl (Sen.infoS _)) rfl ?_
          have := HSE.out wz (by rw [HR.out]; decide) HMX
          rw [HR.out] at this
          exact this
        · have he0 : restErr (dsX X) (rsX X) = 0 := by rw [HD.out, HRE.out, if_neg hlt, if_neg hgt]
          have HE0 := Lib.hid he0
          have t4 : decide ((X.length : Int) < (a2 : Int) + 4) = false := decide_eq_false (by omega)
          have t5 : decide ((X.length : Int) > (a2 : Int) + 4) = false := decide_eq_false (by omega)
          have y1 : (a2 : Int) + 2 ≤ (c : Int) := by omega
          have y2 : ((a2 : Int) + 2).toNat = a2 + 2 := by omega
          have k1 : ¬ c = a2 := by omega
          have hl6 : a2 + 4 ≤ X.length := by omega
          have hc6 : a2 + 4 ≤ c := by omega
          clear hlt hgt he0 RA9 RB9 HM9 HRE
          go_wp2_with fail
          refine (HW.out _ HB10.out.k a2 (by omega)).mono ?_
          rintro e wn ⟨rfl, rfl⟩
          have cx := (cell_blk HB10.out.g 24).trans (show _ = some (Value.int .u16 ((SU.asrt : Nat) : Int)) from rfl)
          have fx := froz_blk HB10.out.g 24
          have HB11 := Lib.hid (HB10.out.set HGS.out 24 (.int .u16 ((w16 X a2 : Nat) : Int)) { SU with asrt := w16 X a2 } rfl)
          have hub := HU16.out a2
          have y3 : (a2 : Int) + 2 ≤ (a2 : Int) + 4 := by omega
          have y4 : ((a2 : Int) + 4).toNat = a2 + 4 := by omega
          have y5 : (a2 : Int) + 4 ≤ (c : Int) := by omega
          have y6 : (0 : Int) ≤ (a2 : Int) + 2 := by omega
          have k2 : ¬ c = a2 + 2 := by omega
          have l22 : a2 + 4 - (a2 + 2) = 2 := by omega
          clear t4 t5 y1 k1
          go_wp2_with fail
          refine (HW.out _ HB11.out.k (a2 + 2) (by omega)).mono ?_
          rintro e wn ⟨rfl, rfl⟩
          clear cx fx hub y3 y4 y5 y6 k2 l22 y2
          generalize w9.setCell ⟨gs, 24, none⟩ (.int .u16 ((w16 X a2 : Nat) : Int)) = w10 at HB11 ⊢
          have cx := (cell_blk HB11.out.g 25).trans (show _ = some (Value.int .u16 ((SU.deas : Nat) : Int)) from rfl)
          have fx := froz_blk HB11.out.g 25
          have HB12 := Lib.hid (HB11.out.set HGS.out 25 (.int .u16 ((w16 X (a2 + 2) : Nat) : Int)) { SU with asrt := w16 X a2, deas := w16 X (a2 + 2) } rfl)
          have huc := HU16.out (a2 + 2)
          have hb8 : ∀ i, b8 ((rsX X).drop (lenC (rsX X)).1.toNat) i = b8 X (a1 + i) := fun i => by
            rw [HA1.out, HNN.out, Int.toNat_natCast]
            unfold rsX
            rw [← HAT.out]
            unfold b8
            simp only [List.getD_eq_getElem?_getD, List.getElem?_drop, Nat.add_assoc]
          have hw16 : ∀ i, w16 ((rsX X).drop (lenC (rsX X)).1.toNat) i = w16 X (a1 + i) := fun i => by
            rw [HA1.out, HNN.out, Int.toNat_natCast]
            unfold rsX
            rw [← HAT.out]
            unfold w16
            simp only [List.getD_eq_getElem?_getD, List.getElem?_drop, Nat.add_assoc]
          have hsx : senX X pv = { SU with asrt := w16 X a2, deas := w16 X (a2 + 2) } := by
            unfold senX restS
            rw [if_neg (show ¬ (hdrS X (nmX X)).disc = true from by rw [show (hdrS X (nmX X)).disc = dsX X from rfl, HD.out]; decide)]
            unfold ana13
            rw [hb8, hb8, hb8, hb8, hb8, hb8, hb8, hb8, hb8, hw16, hw16, HSUD.out, HSRD.out, rawK_six, HSMD.out, HA2.out, HCC.out]
            rfl
          have HSX := Lib.hid hsx
          have HPX := Lib.hid (show ptsX X = decP (rsX X) from by unfold ptsX restP; rw [if_neg (by rw [HD.out]; decide)])
          have HOW : Hid (∀ W, Mods [gs] w5 W → OwnPts W w.heap.size pv (ptsX X)) := Lib.hid (fun W M => by
            rw [HPX.out]
            have hg3 := lt_of_block HG3.out
            exact OwnPts.down (M.owns HO5.out (fun q hq => by have := HO5.out.own q hq; simp; omega)) (by omega))
          have HIS : Hid (∀ W, Mods [gs] w5 W → IsSen W (senX X pv) (ptsX X)) := Lib.hid (fun W M => senX_is HXB.out HE0.out (HOW.out W M).rd)
          have HXY := Lib.hid (show errX X = if validB (senX X pv) (ptsX X) then 0 else 1 by rw [HXX.out, if_neg (fun h => h HE0.out), senX_valid X pv (.slice none 0 0)])
          rw [← HSX.out] at HB12
          clear hsx hw16 hb8 HXX
          have hone : (senX X pv).conv.pts.oneCell' = true := (HIS.out _ HB12.out.h).conv.rd.one
          generalize hSZ : senX X pv = SZ at HB12 HIS HXY hone
          have HSZ := Lib.hid hSZ
          clear hSZ
          go_wp2_with (refine wpList_load_sen rfl (.tmp 7) rfl (SenBox.mk HB12.out.g) (by rfl) ?_)
          clear cx fx huc
          generalize w10.setCell ⟨gs, 25, none⟩ (.int .u16 ((w16 X (a2 + 2) : Nat) : Int)) = w11 at HB12 ⊢
          refine (refValid_ok w11 SZ (ptsX X) (HIS.out w11 HB12.out.h)).mono ?_
          rintro e w12 ⟨rfl, M12⟩
          have HB13 := Lib.hid (HB12.out.mods0 M12)
          have RA9 := Lib.hid HB13.out.a
          have RB9 := Lib.hid HB13.out.b
          have HM9 := Lib.hid HB13.out.m
          clear M12
          cases hvb : validB SZ (ptsX X) with
          | false =>
            have HR := Lib.hid (show errX X = 1 by rw [HXY.out, hvb]; rfl)
            clear hvb
            go_wp2_with (first
              | (refine wpList_load_sen rfl (.tmp 4) rfl (SenBox.mk RB9.out) (by rfl) ?_)
              | (refine wpList_store_row (cs := zS.cells) rfl 32 (.tmp 2) (.tmp 195) rfl RA9.out (by rfl) (by rfl) rfl (Sen.infoS _) zS_one ?_; intro wz Rz Mz))
            have HMX := HM9.out.comp Mz (fun k hk => by simp at hk; exact .inr (by omega))
            refine bodyPost_ret (results_cell_row2 rfl _ _ w.heap.size _ _ _ _ rfl Rz Try.underlying32 rfl (Sen.infoS _)) rfl ?_
            have := HSE.out wz (by rw [HR.out]; decide) HMX
            rw [HR.out] at this
            exact this
          | true =>
            have HR := Lib.hid (show errX X = 0 by rw [HXY.out, hvb]; rfl)
            clear hvb
            go_wp2_with (first
              | (refine wpList_load_sen rfl (.tmp 7) rfl (SenBox.mk HB13.out.g) (by rfl) ?_)
              | (refine wpList_store_row (cs := SZ.cells) rfl 32 (.tmp 2) (.tmp 196) rfl RA9.out (by rfl) (by rfl) rfl (Sen.infoS _) (Sen.one _ hone) ?_; intro wz Rz Mz))
            have HMX := HM9.out.comp Mz (fun k hk => by simp at hk; exact .inr (by omega))
            refine bodyPost_ret (results_cell_row2 rfl _ _ w.heap.size _ _ _ _ rfl Rz Try.underlying32 rfl (Sen.infoS _)) rfl ?_
            have hO := HOW.out _ HB13.out.h
            exact HSU.out _ _ HR.out ⟨pv, by rw [HSZ.out]; rfl, Mz.owns hO (fun q hq => by
              have h1 := HO5.out.own q hq
              have h2 := lt_of_block HG3.out
              simp; omega), HMX⟩
end Go.Proofs.Ytijjkonephjodaa

namespace Go.Proofs.Ytijjkonephjodaa
open Go.RowKit
set_option linter.unusedVariables false

set_option maxRecDepth 100000 in
set_option maxHeartbeats 8000000 in
theorem refSenDec_nshort (w : World) (v : Value) (A : List Int) (hv : Rd w v (u8s A)) (hb : Bytes A) (hl : A.length ≤ 100000) (h9 : ¬ A.length < 9) (hs : sum8 A = 0) (hc : A.dropLast.getD 0 0 = 1 ∧ A.dropLast.getD 6 0 < 32 ∧ A.dropLast.length < 8 + b8 A.dropLast 7) :
    Calls Try.prog 24 #[v] w fun e w' => SDecRes w A e w' := by
  have HV := Lib.hid hv
  have HB := Lib.hid hb
  have HL := Lib.hid hl
  have HE := Lib.hid (show ∀ W, errS A ≠ 0 → Mods [] w W → SDecRes w A (.returned (.tuple #[.agg zS.cells, .int .i64 (errS A)])) W from fun W h M => by unfold SDecRes; rw [if_neg h]; exact ⟨rfl, M⟩)
  have HU := Lib.hid (show errS A = if A.length < 9 then 4 else if sum8 A ≠ 0 then 5 else errX A.dropLast from rfl)
  obtain ⟨ad, cap, rfl, h1, h2, -⟩ := hv.u8
  have h3 : cap ≤ 9223372036854775807 := h2
  clear hv hb h2 hl
  have R0 := Lib.hid (heap_alloc_new w (.cells zS.cells 32))
  have M0 := Lib.hid ((Mods.refl (S := []) (w := w)).alloc (.cells zS.cells 32))
  have R1' : ((w.alloc (.cells zS.cells 32)).alloc (.cells zS.cells 32)).heap[w.heap.size + 1]? = some (.cells zS.cells 32 (0, 0)) := by
    have := heap_alloc_new (w.alloc (.cells zS.cells 32)) (.cells zS.cells 32)
    rwa [World.size_alloc] at this
  have RQ := Lib.hid R1'
  clear R1'
  -- hc : the head is good; up to region 9, the sensor made in block gs
  have HF := Lib.hid hc
  clear hc
  -- hs : sum8 A = 0, h9 : ¬ A.length < 9
  have HRX := Lib.hid (show errS A = errX A.dropLast from (HU.out.trans (if_neg h9)).trans (if_neg (fun h => h hs)))
  have HS := Lib.hid hs
  have HN := Lib.hid (show A ≠ [] from fun h => h9 (by rw [h]; decide))
  have d1 : decide ((A.length : Int) < 9) = false := decide_eq_false (by omega)
  have hXl : A.dropLast.length = A.length - 1 := List.length_dropLast
  have hXb : Bytes A.dropLast := by rw [List.dropLast_eq_take]; exact HB.out.take _
  have hSD : ∀ e W, SDecRes w A e W = SDecRes w A e W := fun _ _ => rfl
  clear hSD
  have HSU : Hid (∀ e W, errX A.dropLast = 0 → (∃ pv, e = .returned (.tuple #[.agg (senX A.dropLast pv).cells, .int .i64 0]) ∧ OwnPts W w.heap.size pv (ptsX A.dropLast) ∧ Mods [] w W) → SDecRes w A e W) := Lib.hid (fun e W h0 h => by unfold SDecRes; rw [HRX.out, if_pos h0]; exact h)
  have HSE : Hid (∀ W, errX A.dropLast ≠ 0 → Mods [] w W → SDecRes w A (.returned (.tuple #[.agg zS.cells, .int .i64 (errX A.dropLast)])) W) := Lib.hid (fun W h M => by have := HE.out W (by rw [HRX.out]; exact h) M; rw [HRX.out] at this; exact this)
  have hX8 : 8 ≤ A.dropLast.length := by omega
  have hXc : A.dropLast.length ≤ 100000 := by have := HL.out; omega
  have HOP : Hid (∀ W, Mods [] w W → Calls Try.prog 59 #[.slice ad A.length cap] W (fun e w' => ∃ g c, e = .returned (.tuple #[.slice (some ⟨g, 0, none⟩) A.dropLast.length c, .int .i64 0]) ∧ OwnB w' W.heap.size (.slice (some ⟨g, 0, none⟩) A.dropLast.length c) A.dropLast ∧ Mods [] W w')) := Lib.hid (fun W M => by
    refine (refOpen8_ok _ _ A (HV.out.mods0 M) HB.out HL.out).mono ?_
    rintro e w1 hx
    unfold OpenRes at hx
    rw [if_neg HN.out, if_pos HS.out] at hx
    obtain ⟨v', rfl, O, M1⟩ := hx
    obtain ⟨g, c, cur, hv', _⟩ := owns_form O (by rw [u8s_length]; omega)
    rw [u8s_length] at hv'
    subst hv'
    exact ⟨g, c, rfl, O, M1⟩)
  clear hs h9 hXl HRX HS HN HV HE HU HL HB
  generalize A.dropLast = X at *
  go_enter Try.func24, Try.ntmps24
  go_wp2_with (refine wpList_store_row (cs := zS.cells) rfl 32 (.tmp 4) (.tmp 13) rfl RQ.out (by rfl) (by rfl) rfl (Sen.infoS _) zS_one ?_; intro wq Rq Mq; have RB0 := Lib.hid Rq; have RA0 := Lib.hid (Mq.heap (heap_alloc (o' := .cells zS.cells 32) R0.out) (by simp)); have MQ := Lib.hid ((M0.out.alloc (.cells zS.cells 32)).comp Mq (fun k hk => by simp at hk; exact .inr (by omega))); clear Rq Mq)
  have hwq := lt_of_block RB0.out
  refine (HOP.out _ MQ.out).mono ?_
  rintro e w1 ⟨g, c, rfl, O1, M1⟩
  have hg0 : w.heap.size + 2 ≤ g := by have hgl := (O1.lt g rfl).1; omega
  have HM1 := Lib.hid (MQ.out.trans M1)
  have RA1 := Lib.hid (M1.heap RA0.out (by simp))
  have HO1 := Lib.hid O1
  (have RB1 := Lib.hid (M1.heap RB0.out (by simp)))
  have HCB : Hid (∀ W, Mods [] w1 W → ∀ i, i < X.length → W.cell? ⟨g, i, none⟩ = some (.int .u8 (b8 X i : Nat))) := Lib.hid (fun W M i hi => by
    obtain ⟨_, _, he, _, _, hc⟩ := O1.rd.u8
    injection he with he1 _ _
    obtain ⟨b, o, h, hx⟩ := hc i hi
    rw [← he1] at h
    cases h
    rw [Nat.zero_add, u8_getD hXb] at hx
    exact M.cell hx (by simp))
  have hc1 : X.length ≤ c ∧ c ≤ 9223372036854775807 := by
    obtain ⟨_, _, he, h1, h2, hc⟩ := O1.rd.u8
    injection he with _ _ he3
    subst he3
    exact ⟨h1, h2⟩
  obtain ⟨hc1, hc2⟩ := hc1
  have HXB := Lib.hid hXb
  clear O1 M1 MQ RA0 HOP hXb
  have i0 : (0 : Int) < (X.length : Int) := by omega
  have i1 : (1 : Int) < (X.length : Int) := by omega
  have i2 : (2 : Int) < (X.length : Int) := by omega
  have i3 : (3 : Int) < (X.length : Int) := by omega
  have i4 : (4 : Int) < (X.length : Int) := by omega
  have i5 : (5 : Int) < (X.length : Int) := by omega
  have i6 : (6 : Int) < (X.length : Int) := by omega
  have i7 : (7 : Int) < (X.length : Int) := by omega
  have x0 := HCB.out w1 Mods.refl 0 (by omega)
  have x6 := HCB.out w1 Mods.refl 6 (by omega)
  have x7 := HCB.out w1 Mods.refl 7 (by omega)
  have HX0 := Lib.hid (u8_getD HXB.out 0)
  have HX6 := Lib.hid (u8_getD HXB.out 6)
  have b7 := b8_lt HXB.out 7
  have b6 := b8_lt HXB.out 6
  clear RB0
  obtain ⟨f0, f6, f7⟩ := HF.out
  have HR := Lib.hid (show errX X = 4 by unfold errX; rw [if_neg (by omega), if_pos (by omega)])
  rw [HX0.out] at f0
  rw [HX6.out] at f6
  have q0 : ((b8 X 0 : Int) != 1) = false := by simpa using f0
  have q6 : decide ((b8 X 6 : Int) ≥ 32) = false := decide_eq_false (by omega)
  clear f0 HF HX0
  go_wp2_with fail
  try dsimp only [Act.put]
  have hA1 : ((b8 X 6 : Int) % 2 == 1) = decide ((b8 X 6 : Int) % 2 = 1) := by rw [Bool.eq_iff_iff]; simp
  have hA2 : ((b8 X 6 : Int) / 2 % 2 == 1) = decide ((b8 X 6 : Int) / 2 % 2 = 1) := by rw [Bool.eq_iff_iff]; simp
  have ew6 : IntKind.i64.wrap (b8 X 6 : Int) = (b8 X 6 : Int) := IntWalk.i64_in _ (by omega)
  have eu2 : IntKind.u8.wrap ((b8 X 6 : Int) / 2) = (b8 X 6 : Int) / 2 := by rw [IntKind.wrap_u8]; omega
  have hT1 : ((b8 X 6 : Int)).tmod 2 = (b8 X 6 : Int) % 2 := Int.tmod_eq_emod_of_nonneg (by omega)
  have hT2 : ((b8 X 6 : Int) / 2).tmod 2 = (b8 X 6 : Int) / 2 % 2 := Int.tmod_eq_emod_of_nonneg (by omega)
  have hW4 : IntKind.i64.wrap ((b8 X 6 : Int) / 4) = (b8 X 6 : Int) / 4 := IntWalk.i64_in _ (by omega)
  clear q0 q6 x0 x6 x7
  have eHD : Hid (hdrS X ⟨#[]⟩ = ⟨b8 X 1, b8 X 2, b8 X 3, ⟨#[]⟩, b8 X 4, b8 X 5, decide ((b8 X 6 : Int) % 2 = 1), zC, 0, 0, 0, 0, 0, 0, 0, 0, 0, 0, 0, 0, decide ((b8 X 6 : Int) / 2 % 2 = 1), (b8 X 6 : Int) / 4⟩) := Lib.hid (by unfold hdrS; rw [HX6.out])
  refine heldStart (S := fun W => Mods [] w1 W) 35 rfl (by kernel_rfl) (Mods.refl.drew) (fun hHeld => ?_)
  refine takeD (i := 0) (d := 38) (v := ?_) rfl rfl (by kernel_rfl) (by kernel_rfl) (by kernel_rfl) (fun _ _ _ h => h) (Or.inl ⟨by rfl, ?_⟩) hHeld ?_
  rotate_left 1
  · (intro w hSw; (try dsimp only at hSw); go_simp; (try with_reducible rfl))
  simp only [List.setIfInBounds_toArray, List.set_cons_zero, List.set_cons_succ]
  refine takeD (i := 1) (d := 39) (v := ?_) rfl rfl (by kernel_rfl) (by kernel_rfl) (by kernel_rfl) (fun _ _ _ h => h) (Or.inl ⟨by rfl, ?_⟩) hHeld ?_
  rotate_left 1
  · (intro w hSw; (try dsimp only at hSw); go_simp; (try with_reducible rfl))
  simp only [List.setIfInBounds_toArray, List.set_cons_zero, List.set_cons_succ]
  refine takeD (i := 2) (d := 40) (v := .int .u8 (b8 X 1 : Nat)) rfl rfl (by kernel_rfl) (by kernel_rfl) (by kernel_rfl) (fun _ _ _ h => h) (Or.inl ⟨by rfl, fun w hSw => ?_⟩) hHeld ?_
  · have cst := HCB.out w hSw 1 (by omega)
    go_simp
  simp only [List.setIfInBounds_toArray, List.set_cons_zero, List.set_cons_succ]
  refine takeD (i := 3) (d := 41) (v := ?_) rfl rfl (by kernel_rfl) (by kernel_rfl) (by kernel_rfl) (fun _ _ _ h => h) (Or.inl ⟨by rfl, ?_⟩) hHeld ?_
  rotate_left 1
  · (intro w hSw; (try dsimp only at hSw); go_simp; (try with_reducible rfl))
  simp only [List.setIfInBounds_toArray, List.set_cons_zero, List.set_cons_succ]
  refine takeD (i := 4) (d := 42) (v := ?_) rfl rfl (by kernel_rfl) (by kernel_rfl) (by kernel_rfl) (fun _ _ _ h => h) (Or.inl ⟨by rfl, ?_⟩) hHeld ?_
  rotate_left 1
  · (intro w hSw; (try dsimp only at hSw); go_simp; (try with_reducible rfl))
  simp only [List.setIfInBounds_toArray, List.set_cons_zero, List.set_cons_succ]
  refine takeD (i := 5) (d := 43) (v := .int .u8 (b8 X 2 : Nat)) rfl rfl (by kernel_rfl) (by kernel_rfl) (by kernel_rfl) (fun _ _ _ h => h) (Or.inl ⟨by rfl, fun w hSw => ?_⟩) hHeld ?_
  · have cst := HCB.out w hSw 2 (by omega)
    go_simp
  simp only [List.setIfInBounds_toArray, List.set_cons_zero, List.set_cons_succ]
  refine takeD (i := 6) (d := 44) (v := ?_) rfl rfl (by kernel_rfl) (by kernel_rfl) (by kernel_rfl) (fun _ _ _ h => h) (Or.inl ⟨by rfl, ?_⟩) hHeld ?_
  rotate_left 1
  · (intro w hSw; (try dsimp only at hSw); go_simp; (try with_reducible rfl))
  simp only [List.setIfInBounds_toArray, List.set_cons_zero, List.set_cons_succ]
  refine takeD (i := 7) (d := 45) (v := ?_) rfl rfl (by kernel_rfl) (by kernel_rfl) (by kernel_rfl) (fun _ _ _ h => h) (Or.inl ⟨by rfl, ?_⟩) hHeld ?_
  rotate_left 1
  · (intro w hSw; (try dsimp only at hSw); go_simp; (try with_reducible rfl))
  simp only [List.setIfInBounds_toArray, List.set_cons_zero, List.set_cons_succ]
  refine takeD (i := 8) (d := 46) (v := .int .u8 (b8 X 3 : Nat)) rfl rfl (by kernel_rfl) (by kernel_rfl) (by kernel_rfl) (fun _ _ _ h => h) (Or.inl ⟨by rfl, fun w hSw => ?_⟩) hHeld ?_
  · have cst := HCB.out w hSw 3 (by omega)
    go_simp
  simp only [List.setIfInBounds_toArray, List.set_cons_zero, List.set_cons_succ]
  refine takeD (i := 9) (d := 47) (v := ?_) rfl rfl (by kernel_rfl) (by kernel_rfl) (by kernel_rfl) (fun _ _ _ h => h) (Or.inl ⟨by rfl, ?_⟩) hHeld ?_
  rotate_left 1
  · (intro w hSw; (try dsimp only at hSw); go_simp; (try with_reducible rfl))
  simp only [List.setIfInBounds_toArray, List.set_cons_zero, List.set_cons_succ]
  refine takeD (i := 10) (d := 48) (v := ?_) rfl rfl (by kernel_rfl) (by kernel_rfl) (by kernel_rfl) (fun _ _ _ h => h) (Or.inl ⟨by rfl, ?_⟩) hHeld ?_
  rotate_left 1
  · (intro w hSw; (try dsimp only at hSw); go_simp; (try with_reducible rfl))
  simp only [List.setIfInBounds_toArray, List.set_cons_zero, List.set_cons_succ]
  refine takeD (i := 11) (d := 49) (v := .int .u8 (b8 X 4 : Nat)) rfl rfl (by kernel_rfl) (by kernel_rfl) (by kernel_rfl) (fun _ _ _ h => h) (Or.inl ⟨by rfl, fun w hSw => ?_⟩) hHeld ?_
  · have cst := HCB.out w hSw 4 (by omega)
    go_simp
  simp only [List.setIfInBounds_toArray, List.set_cons_zero, List.set_cons_succ]
  refine takeD (i := 12) (d := 50) (v := ?_) rfl rfl (by kernel_rfl) (by kernel_rfl) (by kernel_rfl) (fun _ _ _ h => h) (Or.inl ⟨by rfl, ?_⟩) hHeld ?_
  rotate_left 1
  · (intro w hSw; (try dsimp only at hSw); go_simp; (try with_reducible rfl))
  simp only [List.setIfInBounds_toArray, List.set_cons_zero, List.set_cons_succ]
  refine takeD (i := 13) (d := 51) (v := ?_) rfl rfl (by kernel_rfl) (by kernel_rfl) (by kernel_rfl) (fun _ _ _ h => h) (Or.inl ⟨by rfl, ?_⟩) hHeld ?_
  rotate_left 1
  · (intro w hSw; (try dsimp only at hSw); go_simp; (try with_reducible rfl))
  simp only [List.setIfInBounds_toArray, List.set_cons_zero, List.set_cons_succ]
  refine takeD (i := 14) (d := 52) (v := .int .u8 (b8 X 5 : Nat)) rfl rfl (by kernel_rfl) (by kernel_rfl) (by kernel_rfl) (fun _ _ _ h => h) (Or.inl ⟨by rfl, fun w hSw => ?_⟩) hHeld ?_
  · have cst := HCB.out w hSw 5 (by omega)
    go_simp
  simp only [List.setIfInBounds_toArray, List.set_cons_zero, List.set_cons_succ]
  refine takeD (i := 15) (d := 53) (v := ?_) rfl rfl (by kernel_rfl) (by kernel_rfl) (by kernel_rfl) (fun _ _ _ h => h) (Or.inl ⟨by rfl, ?_⟩) hHeld ?_
  rotate_left 1
  · (intro w hSw; (try dsimp only at hSw); go_simp; (try with_reducible rfl))
  simp only [List.setIfInBounds_toArray, List.set_cons_zero, List.set_cons_succ]
  refine takeD (i := 16) (d := 54) (v := ?_) rfl rfl (by kernel_rfl) (by kernel_rfl) (by kernel_rfl) (fun _ _ _ h => h) (Or.inl ⟨by rfl, ?_⟩) hHeld ?_
  rotate_left 1
  · (intro w hSw; (try dsimp only at hSw); go_simp; (try with_reducible rfl))
  simp only [List.setIfInBounds_toArray, List.set_cons_zero, List.set_cons_succ]
  refine takeD (i := 17) (d := 55) (v := ?_) rfl rfl (by kernel_rfl) (by kernel_rfl) (by kernel_rfl) (fun _ _ _ h => h) (Or.inl ⟨by rfl, ?_⟩) hHeld ?_
  rotate_left 1
  · (intro w hSw; (try dsimp only at hSw); go_simp; (try with_reducible rfl))
  simp only [List.setIfInBounds_toArray, List.set_cons_zero, List.set_cons_succ]
  refine takeD (i := 18) (d := 56) (v := .int .u8 (b8 X 6 : Nat)) rfl rfl (by kernel_rfl) (by kernel_rfl) (by kernel_rfl) (fun _ _ _ h => h) (Or.inl ⟨by rfl, fun w hSw => ?_⟩) hHeld ?_
  · have cst := HCB.out w hSw 6 (by omega)
    go_simp
  simp only [List.setIfInBounds_toArray, List.set_cons_zero, List.set_cons_succ]
  refine takeD (i := 19) (d := 57) (v := ?_) rfl rfl (by kernel_rfl) (by kernel_rfl) (by kernel_rfl) (fun _ _ _ h => h) (Or.inl ⟨by rfl, ?_⟩) hHeld ?_
  rotate_left 1
  · (intro w hSw; (try dsimp only at hSw); go_simp; (try with_reducible rfl))
  simp only [List.setIfInBounds_toArray, List.set_cons_zero, List.set_cons_succ]
  refine takeD (i := 20) (d := 58) (v := ?_) rfl rfl (by kernel_rfl) (by kernel_rfl) (by kernel_rfl) (fun _ _ _ h => h) (Or.inl ⟨by rfl, ?_⟩) hHeld ?_
  rotate_left 1
  · (intro w hSw; (try dsimp only at hSw); go_simp; (try with_reducible rfl))
  simp only [List.setIfInBounds_toArray, List.set_cons_zero, List.set_cons_succ]
  refine takeD (i := 21) (d := 59) (v := ?_) rfl rfl (by kernel_rfl) (by kernel_rfl) (by kernel_rfl) (fun _ _ _ h => h) (Or.inl ⟨by rfl, ?_⟩) hHeld ?_
  rotate_left 1
  · (intro w hSw; (try dsimp only at hSw); go_simp; (try with_reducible rfl))
  simp only [List.setIfInBounds_toArray, List.set_cons_zero, List.set_cons_succ]
  refine takeD (i := 22) (d := 60) (v := ?_) rfl rfl (by kernel_rfl) (by kernel_rfl) (by kernel_rfl) (fun _ _ _ h => h) (Or.inl ⟨by rfl, ?_⟩) hHeld ?_
  rotate_left 1
  · (intro w hSw; (try dsimp only at hSw); go_simp; (try with_reducible rfl))
  simp only [List.setIfInBounds_toArray, List.set_cons_zero, List.set_cons_succ]
  refine takeD (i := 23) (d := 61) (v := .int .u8 (b8 X 6 : Nat)) rfl rfl (by kernel_rfl) (by kernel_rfl) (by kernel_rfl) (fun _ _ _ h => h) (Or.inl ⟨by rfl, fun w hSw => ?_⟩) hHeld ?_
  · have cst := HCB.out w hSw 6 (by omega)
    go_simp
  simp only [List.setIfInBounds_toArray, List.set_cons_zero, List.set_cons_succ]
  refine takeD (i := 24) (d := 62) (v := ?_) rfl rfl (by kernel_rfl) (by kernel_rfl) (by kernel_rfl) (fun _ _ _ h => h) (Or.inl ⟨by rfl, ?_⟩) hHeld ?_
  rotate_left 1
  · (intro w hSw; (try dsimp only at hSw); go_simp; (try with_reducible rfl))
  simp only [List.setIfInBounds_toArray, List.set_cons_zero, List.set_cons_succ]
  refine takeD (i := 25) (d := 63) (v := ?_) rfl rfl (by kernel_rfl) (by kernel_rfl) (by kernel_rfl) (fun _ _ _ h => h) (Or.inl ⟨by rfl, ?_⟩) hHeld ?_
  rotate_left 1
  · (intro w hSw; (try dsimp only at hSw); go_simp; (try with_reducible rfl))
  simp only [List.setIfInBounds_toArray, List.set_cons_zero, List.set_cons_succ]
  refine takeD (i := 26) (d := 64) (v := ?_) rfl rfl (by kernel_rfl) (by kernel_rfl) (by kernel_rfl) (fun _ _ _ h => h) (Or.inl ⟨by rfl, ?_⟩) hHeld ?_
  rotate_left 1
  · (intro w hSw; (try dsimp only at hSw); go_simp; (try with_reducible rfl))
  simp only [List.setIfInBounds_toArray, List.set_cons_zero, List.set_cons_succ]
  refine takeD (i := 27) (d := 65) (v := ?_) rfl rfl (by kernel_rfl) (by kernel_rfl) (by kernel_rfl) (fun _ _ _ h => h) (Or.inl ⟨by rfl, ?_⟩) hHeld ?_
  rotate_left 1
  · (intro w hSw; (try dsimp only at hSw); go_simp; (try with_reducible rfl))
  simp only [List.setIfInBounds_toArray, List.set_cons_zero, List.set_cons_succ]
  refine takeD (i := 28) (d := 66) (v := ?_) rfl rfl (by kernel_rfl) (by kernel_rfl) (by kernel_rfl) (fun _ _ _ h => h) (Or.inl ⟨by rfl, ?_⟩) hHeld ?_
  rotate_left 1
  · (intro w hSw; (try dsimp only at hSw); go_simp; (try with_reducible rfl))
  simp only [List.setIfInBounds_toArray, List.set_cons_zero, List.set_cons_succ]
  refine takeD (i := 29) (d := 67) (v := .int .u8 (b8 X 6 : Nat)) rfl rfl (by kernel_rfl) (by kernel_rfl) (by kernel_rfl) (fun _ _ _ h => h) (Or.inl ⟨by rfl, fun w hSw => ?_⟩) hHeld ?_
  · have cst := HCB.out w hSw 6 (by omega)
    go_simp
  simp only [List.setIfInBounds_toArray, List.set_cons_zero, List.set_cons_succ]
  refine takeD (i := 30) (d := 68) (v := ?_) rfl rfl (by kernel_rfl) (by kernel_rfl) (by kernel_rfl) (fun _ _ _ h => h) (Or.inl ⟨by rfl, ?_⟩) hHeld ?_
  rotate_left 1
  · (intro w hSw; (try dsimp only at hSw); go_simp; (try with_reducible rfl))
  simp only [List.setIfInBounds_toArray, List.set_cons_zero, List.set_cons_succ]
  refine takeD (i := 31) (d := 69) (v := ?_) rfl rfl (by kernel_rfl) (by kernel_rfl) (by kernel_rfl) (fun _ _ _ h => h) (Or.inl ⟨by rfl, ?_⟩) hHeld ?_
  rotate_left 1
  · (intro w hSw; (try dsimp only at hSw); go_simp; (try with_reducible rfl))
  simp only [List.setIfInBounds_toArray, List.set_cons_zero, List.set_cons_succ]
  refine takeD (i := 32) (d := 70) (v := ?_) rfl rfl (by kernel_rfl) (by kernel_rfl) (by kernel_rfl) (fun _ _ _ h => h) (Or.inl ⟨by rfl, ?_⟩) hHeld ?_
  rotate_left 1
  · (intro w hSw; (try dsimp only at hSw); go_simp; (try with_reducible rfl))
  simp only [List.setIfInBounds_toArray, List.set_cons_zero, List.set_cons_succ]
  refine wpAnyH_ready (rs := [33]) (by kernel_rfl) (by simp) ?_
  refine AllReadyH.cons rfl (fun K hK => ?_) AllReadyH.nil
  go_simp
  refine hK.out _ _ ?_ (fun hHeld => ?_)
  · exact hHeld.alloc _
  clear hK K
  have RG2 : (w1.drew.alloc (.cells zS.cells 32)).heap[w1.heap.size]? = some (.cells zS.cells 32 (0, 0)) := heap_alloc_new w1.drew _
  refine wpAnyH_ready (rs := [34]) (by kernel_rfl) (by simp) ?_
  refine AllReadyH.cons rfl (fun K hK => ?_) AllReadyH.nil
  refine exec_store rfl rfl rfl RG2 rfl rfl (by rfl) (Sen.infoS zS) (by simp [Value.oneCell']) (fun w3 R3 M3 => ?_)
  refine hK.out _ _ ?_ (fun hHeld => ?_)
  · exact hHeld.comp M3 (fun k hk => by simp at hk; exact .inr (by omega))
  clear hK K
  refine wpAnyH_done (by kernel_rfl) ?_ _
  have HM3 := Lib.hid (show Mods [] w1 w3 from hHeld)
  have HG3 : Hid (w3.heap[w1.heap.size]? = some (.cells (hdrS X ⟨#[]⟩).cells 32 (0, 0))) := Lib.hid (by rw [eHD.out]; refine R3.trans ?_; simp [Sen.cells, zC])
  have RA3 := Lib.hid (HM3.out.heap RA1.out (by simp))
  have RB3 := Lib.hid (HM3.out.heap RB1.out (by simp))
  have HX3 := Lib.hid (HM1.out.trans HM3.out)
  have hgs : w.heap.size + 1 < w1.heap.size := lt_of_block RB1.out
  have hgg : g < w1.heap.size := (HO1.out.lt g rfl).2
  clear hHeld R3 M3 RG2 hA1 hA2 ew6 eu2 eHD hT1 hT2 hW4
  obtain ⟨at0, hat0⟩ : ∃ at0 : Nat, at0 = 8 + b8 X 7 := ⟨_, rfl⟩
  have ew : IntKind.i64.wrap (b8 X 7 : Int) = (b8 X 7 : Int) := IntWalk.i64_in _ (by omega)
  have eAT : 8 + (b8 X 7 : Int) = (at0 : Int) := by omega
  have q8 : decide ((X.length : Int) < (at0 : Int)) = true := decide_eq_true (by omega)
  have x7 := HCB.out w3 HM3.out 7 (by omega)
  clear hat0
  generalize w1.heap.size = gs at HG3 hgs hgg ⊢
  go_wp2_with (first
    | (refine wpList_load_sen rfl (.tmp 4) rfl (SenBox.mk RB3.out) (by rfl) ?_)
    | (refine wpList_store_row (cs := zS.cells) rfl 32 (.tmp 2) (.tmp 80) rfl RA3.out (by rfl) (by rfl) rfl (Sen.infoS _) zS_one ?_; intro wz Rz Mz))
  have HMX := HX3.out.comp Mz (fun k hk => by simp at hk; exact .inr (by omega))
  refine bodyPost_ret (results_cell_row2 rfl _ _ w.heap.size _ _ _ _ rfl Rz Try.underlying32 rfl (Sen.infoS _)) rfl ?_
  have := HSE.out wz (by rw [HR.out]; decide) HMX
  rw [HR.out] at this
  exact this
theorem refSenDec_ok (w : World) (v : Value) (A : List Int) (hv : Rd w v (u8s A)) (hb : Bytes A) (hl : A.length ≤ 100000) :
    Calls Try.prog 24 #[v] w fun e w' => SDecRes w A e w' := by
  by_cases h9 : A.length < 9
  · exact refSenDec_err w v A hv hb hl (.inl h9)
  · by_cases hs : sum8 A = 0
    · by_cases hc : A.dropLast.getD 0 0 = 1 ∧ A.dropLast.getD 6 0 < 32
      · by_cases hn : 8 + b8 A.dropLast 7 ≤ A.dropLast.length
        · cases hd : dsX A.dropLast with
          | true =>
            by_cases h2 : A.dropLast.length < 8 + b8 A.dropLast 7 + 2
            · exact refSenDec_dshort w v A hv hb hl h9 hs ⟨hc.1, hc.2, hn⟩ hd h2
            · exact refSenDec_disc w v A hv hb hl h9 hs ⟨hc.1, hc.2, hn⟩ hd h2
          | false =>
            by_cases hz : errC (rsX A.dropLast) = 0
            · by_cases h13 : ((rsX A.dropLast).drop (lenC (rsX A.dropLast)).1.toNat).length < 9
              · exact refSenDec_a9 w v A hv hb hl h9 hs ⟨hc.1, hc.2, hn⟩ hd hz h13
              · exact refSenDec_a10 w v A hv hb hl h9 hs ⟨hc.1, hc.2, hn⟩ hd hz h13
            · exact refSenDec_aerr w v A hv hb hl h9 hs ⟨hc.1, hc.2, hn⟩ hd hz
        · exact refSenDec_nshort w v A hv hb hl h9 hs ⟨hc.1, hc.2, by omega⟩
      · exact refSenDec_form w v A hv hb hl h9 hs (by omega)
    · exact refSenDec_err w v A hv hb hl (.inr hs)
end Go.Proofs.Ytijjkonephjodaa
