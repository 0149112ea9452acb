/- The reference's Decode of a conversion without points: contract. -/
import Derived.Test.YtgjjmiaiclhidaaDecC
namespace Go.Proofs.Ytgjjmiaiclhidaa
open Go.RowKit

theorem refSigned_at (W : World) (v : Value) (A : List Int) (i n : Nat) (x : Int) (hx : x = signA A i n) (hv : Rd W v (u8s ((A.drop i).take n))) (hb : Bytes A) (hn : 1 ≤ n) (h7 : n ≤ 7) (hi : i + n ≤ A.length) :
    Calls Try.prog 106 #[v] W fun e w' => e = .returned (.int .i64 x) ∧ W = w' := by
  subst hx
  exact refSigned_ok W v _ hv ((hb.drop _).take _) (by simp; omega) (by simp; omega)
set_option maxRecDepth 100000 in
set_option maxHeartbeats 4000000 in
theorem refDec_lin (w : World) (v : Value) (A : List Int) (hv : Rd w v (u8s A)) (hb : Bytes A) (h0 : A ≠ []) (hf1 : 1 ≤ A.getD 0 0 % 128) (hf5 : A.getD 0 0 % 128 ≤ 5) (hf : A.getD 0 0 % 128 ≠ 5) (hl : ¬ (A.length : Int) < 7) :
    Calls Try.prog 60 #[v] w fun e w' => DecRes w A e w' := by
  have HU := Lib.hid (errC_val (lenC_lin h0 hf1 hf5 hf) hl)
  have HLC := Lib.hid (lenC_lin h0 hf1 hf5 hf)
  have HV := Lib.hid hv
  have HB := Lib.hid hb
  obtain ⟨ad, cap, rfl, h1, h2, -⟩ := hv.u8
  have h3 : cap ≤ 9223372036854775807 := h2
  clear hv hb h2
  have HE : Hid (∀ W, errC A ≠ 0 → Mods [] w W → DecRes w A (.returned (.tuple #[.agg zK.cells, .int .i64 0, .int .i64 (errC A)])) W) := Lib.hid fun W h M => by unfold DecRes; rw [if_neg h]; exact ⟨rfl, M⟩
  have R0 := Lib.hid (heap_alloc_new w (.cells zK.cells 26))
  have M0 := Lib.hid ((Mods.refl (S := []) (w := w)).alloc (.cells zK.cells 26))
  have R1 : ((w.alloc (.cells zK.cells 26)).alloc (.cells zK.cells 26)).heap[w.heap.size + 1]? = some (.cells zK.cells 26 (0, 0)) := by
    have := heap_alloc_new (w.alloc (.cells zK.cells 26)) (.cells zK.cells 26)
    rwa [World.size_alloc] at this
  have HR1 := Lib.hid R1
  clear R1
  have hp : 0 < A.length := List.length_pos_iff.2 h0
  obtain ⟨_, _, he, _, _, hc0⟩ := HV.out.u8
  obtain ⟨bb, off, rfl, x0⟩ := hc0 0 hp
  injection he with he1 he2 he3
  subst he1 he3
  have HCC := Lib.hid (fun i (hi : i < A.length) => show w.cell? ⟨bb, off + i, none⟩ = some (.int .u8 (A.getD i 0)) from by
    obtain ⟨b', o', he, hx⟩ := hc0 i hi
    cases he
    exact hx)
  clear hc0 he2 h0
  rw [Nat.add_zero] at x0
  have hbb : bb < w.heap.size := World.block_lt_of_cell? w _ x0
  have HX0 := Lib.hid x0
  have hb0 := HB.out 0
  have HDC := Lib.hid (show ∀ pv, decC A pv = if A.getD 0 0 % 128 = 5 then ⟨5, decide (128 ≤ A.getD 0 0), 0, 0, 0, 0, pv⟩ else ⟨A.getD 0 0 % 128, decide (128 ≤ A.getD 0 0), signA A 1 2, signA A 3 2, signA A 5 1, signA A 6 1, pv⟩ from fun _ => rfl)
  have HDP := Lib.hid (show decP A = if A.getD 0 0 % 128 = 5 then ptsOf A (A.getD 1 0).toNat else [] from rfl)
  clear x0
  generalize A.getD 0 0 = x at *
  obtain ⟨hb00, hb01⟩ := hb0
  have ea : x.tmod 128 = x % 128 := Int.tmod_eq_emod_of_nonneg hb00
  have ew : IntKind.i64.wrap x = x := IntWalk.i64_in _ (by omega)
  have i0 : (0 : Int) < (A.length : Int) := by omega
  have hfr : 0 ≤ x % 128 ∧ x % 128 ≤ 127 := by omega
  generalize x % 128 = f at *
  obtain ⟨hfa, hfb⟩ := hfr
  have es : ∀ W : World, True := fun _ => trivial
  clear es
  generalize hsg : decide (128 ≤ x) = sg at HDC
  have es : decide (x ≥ 128) = sg := hsg
  clear hsg
  have d1 : decide (f < 1) = false := decide_eq_false (by omega)
  have d2 : decide (f > 5) = false := decide_eq_false (by omega)
  have d3 : (f == 5) = false := by simpa using hf
  have d4 : decide ((A.length : Int) < 7) = false := decide_eq_false hl
  have HDK : ∀ pv, decC A pv = _ := fun pv => (HDC.out pv).trans (if_neg hf)
  have HDQ := HDP.out.trans (if_neg hf)
  have h7 : 7 ≤ A.length := by omega
  have sm := signA_bd HB.out 1 2 (by omega) (by omega) (by omega)
  have sb := signA_bd HB.out 3 2 (by omega) (by omega) (by omega)
  have s1 := signA_bd HB.out 5 1 (by omega) (by omega) (by omega)
  have s2 := signA_bd HB.out 6 1 (by omega) (by omega) (by omega)
  obtain ⟨nm, hm⟩ : ∃ nm, nm = signA A 1 2 := ⟨_, rfl⟩
  obtain ⟨nb, hnb⟩ : ∃ nb, nb = signA A 3 2 := ⟨_, rfl⟩
  obtain ⟨n1, hn1⟩ : ∃ n1, n1 = signA A 5 1 := ⟨_, rfl⟩
  obtain ⟨n2, hn2⟩ : ∃ n2, n2 = signA A 6 1 := ⟨_, rfl⟩
  rw [← hm, ← hnb, ← hn1, ← hn2] at HDK
  rw [← hm] at sm
  rw [← hnb] at sb
  rw [← hn1] at s1
  rw [← hn2] at s2
  replace HDK := Lib.hid HDK
  replace HDQ := Lib.hid HDQ
  replace hm := Lib.hid hm
  replace hnb := Lib.hid hnb
  replace hn1 := Lib.hid hn1
  replace hn2 := Lib.hid hn2
  have HS := Lib.hid (⟨sm, sb, s1, s2⟩ : I64 nm ∧ I64 nb ∧ I64 n1 ∧ I64 n2)
  clear sm sb s1 s2 hf HDC HDP hl
  go_enter Try.func60, Try.ntmps60
  go_wp2_with (refine wpList_store_row (cs := zK.cells) rfl 26 (.tmp 5) (.tmp 10) rfl HR1.out (by rfl) (by rfl) rfl Try.infoC zK_one ?_; intro w2 R2 M2; have HR2 := Lib.hid R2; have HQ2 := Lib.hid (M2.heap (heap_alloc (o' := .cells zK.cells 26) R0.out) (by simp)); have HM2 := Lib.hid ((M0.out.alloc (.cells zK.cells 26)).comp M2 (fun k hk => by simp at hk; exact .inr (by omega))); have hz2 := lt_of_block R2; clear R2 M2)
  go_wp2_with fail
  try dsimp only [Act.put]
  refine heldStart (S := fun W => W.cell? ⟨bb, off, none⟩ = some (.int .u8 x)) 12 rfl (by kernel_rfl) (HM2.out.drew.cell HX0.out (by simp)) (fun hHeld => ?_)
  refine takeD (i := 0) (d := 15) (v := ?_) rfl rfl (by kernel_rfl) (by kernel_rfl) (by kernel_rfl) (fun _ _ _ h => h) (Or.inl ⟨by rfl, ?_⟩) hHeld ?_
  rotate_left 1
  · (intro w hSw; (try dsimp only at hSw); go_simp; (try with_reducible rfl))
  simp only [List.setIfInBounds_toArray, List.set_cons_zero, List.set_cons_succ]
  refine takeD (i := 1) (d := 16) (v := ?_) rfl rfl (by kernel_rfl) (by kernel_rfl) (by kernel_rfl) (fun _ _ _ h => h) (Or.inl ⟨by rfl, ?_⟩) hHeld ?_
  rotate_left 1
  · (intro w hSw; (try dsimp only at hSw); go_simp; (try with_reducible rfl))
  simp only [List.setIfInBounds_toArray, List.set_cons_zero, List.set_cons_succ]
  refine takeD (i := 2) (d := 17) (v := ?_) rfl rfl (by kernel_rfl) (by kernel_rfl) (by kernel_rfl) (fun _ _ _ h => h) (Or.inl ⟨by rfl, ?_⟩) hHeld ?_
  rotate_left 1
  · (intro w hSw; (try dsimp only at hSw); go_simp; (try with_reducible rfl))
  simp only [List.setIfInBounds_toArray, List.set_cons_zero, List.set_cons_succ]
  refine takeD (i := 3) (d := 18) (v := ?_) rfl rfl (by kernel_rfl) (by kernel_rfl) (by kernel_rfl) (fun _ _ _ h => h) (Or.inl ⟨by rfl, ?_⟩) hHeld ?_
  rotate_left 1
  · (intro w hSw; (try dsimp only at hSw); go_simp; (try with_reducible rfl))
  simp only [List.setIfInBounds_toArray, List.set_cons_zero, List.set_cons_succ]
  refine takeD (i := 4) (d := 19) (v := ?_) rfl rfl (by kernel_rfl) (by kernel_rfl) (by kernel_rfl) (fun _ _ _ h => h) (Or.inl ⟨by rfl, ?_⟩) hHeld ?_
  rotate_left 1
  · (intro w hSw; (try dsimp only at hSw); go_simp; (try with_reducible rfl))
  simp only [List.setIfInBounds_toArray, List.set_cons_zero, List.set_cons_succ]
  refine takeD (i := 5) (d := 20) (v := ?_) rfl rfl (by kernel_rfl) (by kernel_rfl) (by kernel_rfl) (fun _ _ _ h => h) (Or.inl ⟨by rfl, ?_⟩) hHeld ?_
  rotate_left 1
  · (intro w hSw; (try dsimp only at hSw); go_simp; (try with_reducible rfl))
  simp only [List.setIfInBounds_toArray, List.set_cons_zero, List.set_cons_succ]
  refine takeD (i := 6) (d := 21) (v := ?_) rfl rfl (by kernel_rfl) (by kernel_rfl) (by kernel_rfl) (fun _ _ _ h => h) (Or.inl ⟨by rfl, ?_⟩) hHeld ?_
  rotate_left 1
  · (intro w hSw; (try dsimp only at hSw); go_simp; (try with_reducible rfl))
  simp only [List.setIfInBounds_toArray, List.set_cons_zero, List.set_cons_succ]
  refine takeD (i := 7) (d := 22) (v := ?_) rfl rfl (by kernel_rfl) (by kernel_rfl) (by kernel_rfl) (fun _ _ _ h => h) (Or.inl ⟨by rfl, ?_⟩) hHeld ?_
  rotate_left 1
  · (intro w hSw; (try dsimp only at hSw); go_simp; (try with_reducible rfl))
  simp only [List.setIfInBounds_toArray, List.set_cons_zero, List.set_cons_succ]
  refine takeD (i := 8) (d := 23) (v := ?_) rfl rfl (by kernel_rfl) (by kernel_rfl) (by kernel_rfl) (fun _ _ _ h => h) (Or.inl ⟨by rfl, ?_⟩) hHeld ?_
  rotate_left 1
  · (intro w hSw; (try dsimp only at hSw); go_simp; (try with_reducible rfl))
  simp only [List.setIfInBounds_toArray, List.set_cons_zero, List.set_cons_succ]
  refine takeD (i := 9) (d := 24) (v := ?_) rfl rfl (by kernel_rfl) (by kernel_rfl) (by kernel_rfl) (fun _ _ _ h => h) (Or.inl ⟨by rfl, ?_⟩) hHeld ?_
  rotate_left 1
  · (intro w hSw; (try dsimp only at hSw); go_simp; (try with_reducible rfl))
  simp only [List.setIfInBounds_toArray, List.set_cons_zero, List.set_cons_succ]
  refine wpAnyH_ready (rs := [10]) (by kernel_rfl) (by simp) ?_
  refine AllReadyH.cons rfl (fun K hK => ?_) AllReadyH.nil
  go_simp
  refine hK.out _ _ ?_ (fun hHeld => ?_)
  · exact ((Mods.refl (S := [])).alloc _).cell hHeld (by simp)
  clear hK K
  have HMA := Lib.hid (HM2.out.drew.alloc (.cells zK.cells 26))
  have HRA := Lib.hid (heap_alloc (o' := .cells zK.cells 26) (heap_drew HR2.out))
  have HQA := Lib.hid (heap_alloc (o' := .cells zK.cells 26) (heap_drew HQ2.out))
  have RGA : (w2.drew.alloc (.cells zK.cells 26)).heap[w2.heap.size]? = some (.cells zK.cells 26 (0, 0)) := heap_alloc_new w2.drew _
  have hz3 : w.heap.size + 1 < w2.heap.size := hz2
  refine wpAnyH_ready (rs := [11]) (by kernel_rfl) (by simp) ?_
  refine AllReadyH.cons rfl (fun K hK => ?_) AllReadyH.nil
  refine exec_store rfl rfl rfl RGA rfl rfl (by rfl) Try.infoC (cvC_one f sg 0 0 0 0 none 0 0) (fun w3 R3 M3 => ?_)
  refine hK.out _ _ ?_ (fun hHeld => ?_)
  · exact M3.cell hHeld (by simp; omega)
  clear hK K
  refine wpAnyH_done (by kernel_rfl) ?_ _
  have HM3 := Lib.hid (HMA.out.comp M3 (fun k hk => by simp at hk; exact .inr (by omega)))
  have HR3 := Lib.hid (M3.heap HRA.out (by simp; omega))
  have HQ3 := Lib.hid (M3.heap HQA.out (by simp; omega))
  have HG3 : Hid (w3.heap[w2.heap.size]? = some (.cells (cvC f sg 0 0 0 0 (.slice none 0 0)) 26 (0, 0))) := Lib.hid R3
  have cg0 : w3.cell? ⟨w2.heap.size, 0, none⟩ = some (.int .i64 f) := (cell_blk R3 0).trans rfl
  clear hHeld HMA HRA HQA RGA R3 M3 HM2 HR2 HQ2
  generalize w2.heap.size = g6 at HG3 cg0 hz3 ⊢
  clear ea es ew
  have i7 : (7 : Int) ≤ (A.length : Int) := by omega
  have j3 : (3 : Int) ≤ (cap : Int) := by omega
  have j5 : (5 : Int) ≤ (cap : Int) := by omega
  have j6 : (6 : Int) ≤ (cap : Int) := by omega
  have j7 : (7 : Int) ≤ (cap : Int) := by omega
  have k1 : ¬ cap = 1 := by omega
  have k3 : ¬ cap = 3 := by omega
  have k5 : ¬ cap = 5 := by omega
  have k6 : ¬ cap = 6 := by omega
  have cx : w3.cell? ⟨g6, 2, none⟩ = some (.int .i64 0) := (cell_blk HG3.out 2).trans rfl
  have fx : w3.frozen? ⟨g6, 2, none⟩ = false := froz_blk HG3.out 2
  go_wp2_with fail
  clear cg0
  refine (refSigned_at _ _ A 1 2 nm hm.out ((HV.out.mods0 HM3.out).sub 1 3 (by omega) (by omega)) HB.out (by decide) (by decide) (by omega)).mono ?_
  rintro e w' ⟨rfl, rfl⟩
  clear cx fx
  have HM4 := Lib.hid (HM3.out.setCell (p := ⟨g6, 2, none⟩) (.inr (by show w.heap.size ≤ g6; omega)) (.int .i64 nm))
  have HG4 := Lib.hid (heap_setCell (i := 2) (v := .int .i64 nm) HG3.out)
  have HQ4 := Lib.hid (heap_setCell_ne (a := ⟨g6, 2, none⟩) (v := .int .i64 nm) HQ3.out (by show w.heap.size ≠ g6; omega))
  have HR4 := Lib.hid (heap_setCell_ne (a := ⟨g6, 2, none⟩) (v := .int .i64 nm) HR3.out (by show w.heap.size + 1 ≠ g6; omega))
  have cx : w3.cell? ⟨g6, 2, none⟩ = some (.int .i64 0) := (cell_blk HG3.out 2).trans rfl
  have fx : w3.frozen? ⟨g6, 2, none⟩ = false := froz_blk HG3.out 2
  clear HM3 HG3 HQ3 HR3
  go_wp2_with fail
  generalize w3.setCell ⟨g6, 2, none⟩ (.int .i64 nm) = w4 at HM4 HG4 HQ4 HR4 ⊢
  refine (refSigned_at _ _ A 3 2 nb hnb.out ((HV.out.mods0 HM4.out).sub 3 5 (by omega) (by omega)) HB.out (by decide) (by decide) (by omega)).mono ?_
  rintro e w' ⟨rfl, rfl⟩
  clear cx fx
  have HM5 := Lib.hid (HM4.out.setCell (p := ⟨g6, 3, none⟩) (.inr (by show w.heap.size ≤ g6; omega)) (.int .i64 nb))
  have HG5 := Lib.hid (heap_setCell (i := 3) (v := .int .i64 nb) HG4.out)
  have HQ5 := Lib.hid (heap_setCell_ne (a := ⟨g6, 3, none⟩) (v := .int .i64 nb) HQ4.out (by show w.heap.size ≠ g6; omega))
  have HR5 := Lib.hid (heap_setCell_ne (a := ⟨g6, 3, none⟩) (v := .int .i64 nb) HR4.out (by show w.heap.size + 1 ≠ g6; omega))
  have cx : w4.cell? ⟨g6, 3, none⟩ = some (.int .i64 0) := (cell_blk HG4.out 3).trans rfl
  have fx : w4.frozen? ⟨g6, 3, none⟩ = false := froz_blk HG4.out 3
  clear HM4 HG4 HQ4 HR4
  go_wp2_with fail
  generalize w4.setCell ⟨g6, 3, none⟩ (.int .i64 nb) = w5 at HM5 HG5 HQ5 HR5 ⊢
  refine (refSigned_at _ _ A 5 1 n1 hn1.out ((HV.out.mods0 HM5.out).sub 5 6 (by omega) (by omega)) HB.out (by decide) (by decide) (by omega)).mono ?_
  rintro e w' ⟨rfl, rfl⟩
  clear cx fx
  have HM6 := Lib.hid (HM5.out.setCell (p := ⟨g6, 4, none⟩) (.inr (by show w.heap.size ≤ g6; omega)) (.int .i64 n1))
  have HG6 := Lib.hid (heap_setCell (i := 4) (v := .int .i64 n1) HG5.out)
  have HQ6 := Lib.hid (heap_setCell_ne (a := ⟨g6, 4, none⟩) (v := .int .i64 n1) HQ5.out (by show w.heap.size ≠ g6; omega))
  have HR6 := Lib.hid (heap_setCell_ne (a := ⟨g6, 4, none⟩) (v := .int .i64 n1) HR5.out (by show w.heap.size + 1 ≠ g6; omega))
  have cx : w5.cell? ⟨g6, 4, none⟩ = some (.int .i64 0) := (cell_blk HG5.out 4).trans rfl
  have fx : w5.frozen? ⟨g6, 4, none⟩ = false := froz_blk HG5.out 4
  clear HM5 HG5 HQ5 HR5
  go_wp2_with fail
  generalize w5.setCell ⟨g6, 4, none⟩ (.int .i64 n1) = w6 at HM6 HG6 HQ6 HR6 ⊢
  refine (refSigned_at _ _ A 6 1 n2 hn2.out ((HV.out.mods0 HM6.out).sub 6 7 (by omega) (by omega)) HB.out (by decide) (by decide) (by omega)).mono ?_
  rintro e w' ⟨rfl, rfl⟩
  clear cx fx
  have HM7 := Lib.hid (HM6.out.setCell (p := ⟨g6, 5, none⟩) (.inr (by show w.heap.size ≤ g6; omega)) (.int .i64 n2))
  have HG7 := Lib.hid (heap_setCell (i := 5) (v := .int .i64 n2) HG6.out)
  have HQ7 := Lib.hid (heap_setCell_ne (a := ⟨g6, 5, none⟩) (v := .int .i64 n2) HQ6.out (by show w.heap.size ≠ g6; omega))
  have HR7 := Lib.hid (heap_setCell_ne (a := ⟨g6, 5, none⟩) (v := .int .i64 n2) HR6.out (by show w.heap.size + 1 ≠ g6; omega))
  have cx : w6.cell? ⟨g6, 5, none⟩ = some (.int .i64 0) := (cell_blk HG6.out 5).trans rfl
  have fx : w6.frozen? ⟨g6, 5, none⟩ = false := froz_blk HG6.out 5
  clear HM6 HG6 HQ6 HR6
  have HG7 : Hid ((w6.setCell ⟨g6, 5, none⟩ (.int .i64 n2)).heap[g6]? = some (.cells (cvC f sg nm nb n1 n2 (.slice none 0 0)) 26 (0, 0))) := Lib.hid HG7.out
  obtain ⟨sm, sb, s1, s2⟩ := HS.out
  have HC : Hid (IsConv (w6.setCell ⟨g6, 5, none⟩ (.int .i64 n2)) ⟨f, sg, nm, nb, n1, n2, .slice none 0 0⟩ []) := Lib.hid ⟨(RdPts.nil _), PtsOk.nil, show I64 f from i64_small ⟨by omega, by omega⟩, sm, sb, s1, s2⟩
  have HE0 : Hid (errC A = if convB ⟨f, sg, nm, nb, n1, n2, .slice none 0 0⟩ [] then 0 else 1) := Lib.hid (by rw [HU.out, HDK.out, HDQ.out] <;> rfl)
  clear HU sm sb s1 s2
  go_wp2_with (refine wpList_load_row rfl 26 (.tmp 6) rfl g6 (by rfl) _ _ _ _ HG7.out Try.underlying26 rfl Try.infoC ?_)
  refine (refConvValid_ok _ ⟨f, sg, nm, nb, n1, n2, .slice none 0 0⟩ [] HC.out).mono ?_
  rintro e w8 ⟨rfl, M8⟩
  have HM8 := Lib.hid (HM7.out.trans M8)
  have HM78 := Lib.hid M8
  have HG8 := Lib.hid (M8.heap HG7.out (by simp))
  have HQ8 := Lib.hid (M8.heap HQ7.out (by simp))
  have HR8 := Lib.hid (M8.heap HR7.out (by simp))
  clear HM7 HG7 HQ7 HR7 HC
  cases hv : convB ⟨f, sg, nm, nb, n1, n2, .slice none 0 0⟩ [] with
  | false =>
    have HR := Lib.hid (show errC A = 1 by rw [HE0.out, hv]; rfl)
    clear hv HE0
    go_wp2_with (first
      | (refine wpList_load_row rfl 26 (.tmp 5) rfl (w.heap.size + 1) (by rfl) _ _ _ _ HR8.out Try.underlying26 rfl Try.infoC ?_)
      | (refine wpList_store_row (cs := zK.cells) rfl 26 (.tmp 2) (.tmp 113) rfl HQ8.out (by rfl) (by rfl) rfl Try.infoC zK_one ?_; intro w9 R9 M9))
    have HMX := HM8.out.comp M9 (fun k hk => by simp at hk; exact .inr (by omega))
    refine bodyPost_ret (results_cell_row3 rfl _ _ w.heap.size _ _ _ _ rfl R9 Try.underlying26 rfl Try.infoC) rfl ?_
    have := HE.out _ (by rw [HR.out]; decide) HMX
    rw [HR.out] at this
    exact this
  | true =>
    have HR := Lib.hid (show errC A = 0 by rw [HE0.out, hv]; rfl)
    clear hv HE0
    go_wp2_with (first
      | (refine wpList_load_row rfl 26 (.tmp 6) rfl g6 (by rfl) _ _ _ _ HG8.out Try.underlying26 rfl Try.infoC ?_)
      | (refine wpList_store_row (cs := (cvC f sg nm nb n1 n2 (.slice none 0 0))) rfl 26 (.tmp 2) (.tmp 114) rfl HQ8.out (by rfl) (by rfl) rfl Try.infoC (cvC_one _ _ _ _ _ _ _ _ _) ?_; intro w9 R9 M9))
    have HM9 := HM8.out.comp M9 (fun k hk => by simp at hk; exact .inr (by omega))
    refine bodyPost_ret (results_cell_row3 rfl _ _ w.heap.size _ _ _ _ rfl R9 Try.underlying26 rfl Try.infoC) rfl ?_
    show DecRes w A _ _
    unfold DecRes
    rw [if_pos HR.out, HDQ.out, HLC.out]
    exact ⟨_, (by rw [HDK.out]; rfl), (OwnPts.nil _ _), HM9⟩
end Go.Proofs.Ytgjjmiaiclhidaa
