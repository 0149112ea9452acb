/- Joined texts. The reference's Decode of conversions: where it gives an error; contract. | The reference's Decode of a conversion without points: contract. | The reference's Decode of a table: contract. | The reference's Decode of conversions: contract. -/
import Derived.Test.YtijjkonephjodaaCdx
import Derived.Test.YtijjkonephjodaaRdx
import Derived.Test.YtijjkonephjodaaRefConv
import Derived.BigGuardPart
namespace Go.Proofs.Ytijjkonephjodaa
open Go.RowKit

theorem lenC_nil {A : List Int} (h : A = []) : lenC A = (0, 4) := by unfold lenC; rw [if_pos h]
theorem lenC_form {A : List Int} (h0 : A ≠ []) (h : A.getD 0 0 % 128 < 1 ∨ 5 < A.getD 0 0 % 128) : lenC A = (0, 6) := by unfold lenC; rw [if_neg h0, if_pos h]
theorem lenC_lin {A : List Int} (h0 : A ≠ []) (h1 : 1 ≤ A.getD 0 0 % 128) (h2 : A.getD 0 0 % 128 ≤ 5) (h5 : A.getD 0 0 % 128 ≠ 5) : lenC A = (7, 0) := by unfold lenC; rw [if_neg h0, if_neg (by omega), if_pos h5]
theorem lenC_one {A : List Int} (h0 : A ≠ []) (h5 : A.getD 0 0 % 128 = 5) (h1 : A.length = 1) : lenC A = (0, 4) := by unfold lenC; rw [if_neg h0, if_neg (by omega), if_neg (by omega), if_pos h1]
theorem lenC_pts {A : List Int} (h0 : A ≠ []) (h5 : A.getD 0 0 % 128 = 5) (h1 : A.length ≠ 1) (h : A.getD 1 0 < 2 ∨ 12 < A.getD 1 0) : lenC A = (0, 6) := by unfold lenC; rw [if_neg h0, if_neg (by omega), if_neg (by omega), if_neg h1, if_pos h]
theorem lenC_tab {A : List Int} (h0 : A ≠ []) (h5 : A.getD 0 0 % 128 = 5) (h1 : A.length ≠ 1) (h : ¬ (A.getD 1 0 < 2 ∨ 12 < A.getD 1 0)) : lenC A = (2 + 7 * A.getD 1 0, 0) := by unfold lenC; rw [if_neg h0, if_neg (by omega), if_neg (by omega), if_neg h1, if_neg h]
theorem errC_len {A : List Int} {x y : Int} (h : lenC A = (x, y)) (hy : y ≠ 0) : errC A = y := by unfold errC; rw [h, if_pos hy]
theorem errC_cut {A : List Int} {x : Int} (h : lenC A = (x, 0)) (hl : (A.length : Int) < x) : errC A = 4 := by unfold errC; rw [h, if_neg (by simp), if_pos hl]
theorem errC_val {A : List Int} {x : Int} (h : lenC A = (x, 0)) (hl : ¬ (A.length : Int) < x) : errC A = if convB (decC A (.slice none 0 0)) (decP A) then 0 else 1 := by unfold errC; rw [h, if_neg (by simp), if_neg hl]

set_option maxRecDepth 100000 in
set_option maxHeartbeats 4000000 in
theorem refDec_nil (w : World) (v : Value) (A : List Int) (hv : Rd w v (u8s A)) (hb : Bytes A) (h0 : A = []) :
    Calls Try.prog 60 #[v] w fun e w' => DecRes w A e w' := by
  have HV := Lib.hid hv
  have HB := Lib.hid hb
  obtain ⟨ad, cap, rfl, h1, h2, -⟩ := hv.u8
  have h3 : cap ≤ 9223372036854775807 := h2
  clear hv hb h2
  have HE : Hid (∀ W, errC A ≠ 0 → Mods [] w W → DecRes w A (.returned (.tuple #[.agg zK.cells, .int .i64 0, .int .i64 (errC A)])) W) := Lib.hid fun W h M => by unfold DecRes; rw [if_neg h]; exact ⟨rfl, M⟩
  have R0 := Lib.hid (heap_alloc_new w (.cells zK.cells 26))
  have M0 := Lib.hid ((Mods.refl (S := []) (w := w)).alloc (.cells zK.cells 26))
  have R1 : ((w.alloc (.cells zK.cells 26)).alloc (.cells zK.cells 26)).heap[w.heap.size + 1]? = some (.cells zK.cells 26 (0, 0)) := by
    have := heap_alloc_new (w.alloc (.cells zK.cells 26)) (.cells zK.cells 26)
    rwa [World.size_alloc] at this
  have HR1 := Lib.hid R1
  clear R1
  have HR := Lib.hid (errC_len (lenC_nil h0) (by decide))
  subst h0
  go_enter Try.func60, Try.ntmps60
  go_wp2_with (first
    | (refine wpList_store_row (cs := zK.cells) rfl 26 (.tmp 5) (.tmp 10) rfl HR1.out (by rfl) (by rfl) rfl Try.infoC zK_one ?_; intro w2 R2 M2; have HR2 := Lib.hid R2; have HQ2 := Lib.hid (M2.heap (heap_alloc (o' := .cells zK.cells 26) R0.out) (by simp)); have HM2 := Lib.hid ((M0.out.alloc (.cells zK.cells 26)).comp M2 (fun k hk => by simp at hk; exact .inr (by omega))); clear R2 M2)
    | (refine wpList_load_row rfl 26 (.tmp 5) rfl (w.heap.size + 1) (by rfl) _ _ _ _ HR2.out Try.underlying26 rfl Try.infoC ?_)
    | (refine wpList_store_row (cs := zK.cells) rfl 26 (.tmp 2) (.tmp 14) rfl HQ2.out (by rfl) (by rfl) rfl Try.infoC zK_one ?_; intro w9 R9 M9))
  have HMX := HM2.out.comp M9 (fun k hk => by simp at hk; exact .inr (by omega))
  refine bodyPost_ret (results_cell_row3 rfl _ _ w.heap.size _ _ _ _ rfl R9 Try.underlying26 rfl Try.infoC) rfl ?_
  have := HE.out _ (by rw [HR.out]; decide) HMX
  rw [HR.out] at this
  exact this

set_option maxRecDepth 100000 in
set_option maxHeartbeats 4000000 in
theorem refDec_form (w : World) (v : Value) (A : List Int) (hv : Rd w v (u8s A)) (hb : Bytes A) (h0 : A ≠ []) (hf : A.getD 0 0 % 128 < 1 ∨ 5 < A.getD 0 0 % 128) :
    Calls Try.prog 60 #[v] w fun e w' => DecRes w A e w' := by
  have HR := Lib.hid (errC_len (lenC_form h0 hf) (by decide))
  rcases hf with hf | hf
  · skip
    have HV := Lib.hid hv
    have HB := Lib.hid hb
    obtain ⟨ad, cap, rfl, h1, h2, -⟩ := hv.u8
    have h3 : cap ≤ 9223372036854775807 := h2
    clear hv hb h2
    have HE : Hid (∀ W, errC A ≠ 0 → Mods [] w W → DecRes w A (.returned (.tuple #[.agg zK.cells, .int .i64 0, .int .i64 (errC A)])) W) := Lib.hid fun W h M => by unfold DecRes; rw [if_neg h]; exact ⟨rfl, M⟩
    have R0 := Lib.hid (heap_alloc_new w (.cells zK.cells 26))
    have M0 := Lib.hid ((Mods.refl (S := []) (w := w)).alloc (.cells zK.cells 26))
    have R1 : ((w.alloc (.cells zK.cells 26)).alloc (.cells zK.cells 26)).heap[w.heap.size + 1]? = some (.cells zK.cells 26 (0, 0)) := by
      have := heap_alloc_new (w.alloc (.cells zK.cells 26)) (.cells zK.cells 26)
      rwa [World.size_alloc] at this
    have HR1 := Lib.hid R1
    clear R1
    have hp : 0 < A.length := List.length_pos_iff.2 h0
    obtain ⟨_, _, he, _, _, hc0⟩ := HV.out.u8
    obtain ⟨bb, off, rfl, x0⟩ := hc0 0 hp
    injection he with he1 he2 he3
    subst he1 he3
    have HCC := Lib.hid (fun i (hi : i < A.length) => show w.cell? ⟨bb, off + i, none⟩ = some (.int .u8 (A.getD i 0)) from by
      obtain ⟨b', o', he, hx⟩ := hc0 i hi
      cases he
      exact hx)
    clear hc0 he2 h0
    rw [Nat.add_zero] at x0
    have hbb : bb < w.heap.size := World.block_lt_of_cell? w _ x0
    have HX0 := Lib.hid x0
    have hb0 := HB.out 0
    have HDC := Lib.hid (show ∀ pv, decC A pv = if A.getD 0 0 % 128 = 5 then ⟨5, decide (128 ≤ A.getD 0 0), 0, 0, 0, 0, pv⟩ else ⟨A.getD 0 0 % 128, decide (128 ≤ A.getD 0 0), signA A 1 2, signA A 3 2, signA A 5 1, signA A 6 1, pv⟩ from fun _ => rfl)
    have HDP := Lib.hid (show decP A = if A.getD 0 0 % 128 = 5 then ptsOf A (A.getD 1 0).toNat else [] from rfl)
    clear x0
    generalize A.getD 0 0 = x at *
    obtain ⟨hb00, hb01⟩ := hb0
    have ea : x.tmod 128 = x % 128 := Int.tmod_eq_emod_of_nonneg hb00
    have ew : IntKind.i64.wrap x = x := IntWalk.i64_in _ (by omega)
    have i0 : (0 : Int) < (A.length : Int) := by omega
    have hfr : 0 ≤ x % 128 ∧ x % 128 ≤ 127 := by omega
    generalize x % 128 = f at *
    obtain ⟨hfa, hfb⟩ := hfr
    have es : ∀ W : World, True := fun _ => trivial
    clear es
    generalize hsg : decide (128 ≤ x) = sg at HDC
    have es : decide (x ≥ 128) = sg := hsg
    clear hsg
    have d1 : decide (f < 1) = true := decide_eq_true hf
    go_enter Try.func60, Try.ntmps60
    go_wp2_with (refine wpList_store_row (cs := zK.cells) rfl 26 (.tmp 5) (.tmp 10) rfl HR1.out (by rfl) (by rfl) rfl Try.infoC zK_one ?_; intro w2 R2 M2; have HR2 := Lib.hid R2; have HQ2 := Lib.hid (M2.heap (heap_alloc (o' := .cells zK.cells 26) R0.out) (by simp)); have HM2 := Lib.hid ((M0.out.alloc (.cells zK.cells 26)).comp M2 (fun k hk => by simp at hk; exact .inr (by omega))); have hz2 := lt_of_block R2; clear R2 M2)
    go_wp2_with fail
    try dsimp only [Act.put]
    refine heldStart (S := fun W => W.cell? ⟨bb, off, none⟩ = some (.int .u8 x)) 12 rfl (by kernel_rfl) (HM2.out.drew.cell HX0.out (by simp)) (fun hHeld => ?_)
    refine takeD (i := 0) (d := 15) (v := ?_) rfl rfl (by kernel_rfl) (by kernel_rfl) (by kernel_rfl) (fun _ _ _ h => h) (Or.inl ⟨by rfl, ?_⟩) hHeld ?_
    rotate_left 1
    · (intro w hSw; (try dsimp only at hSw); go_simp; (try with_reducible rfl))
    simp only [List.setIfInBounds_toArray, List.set_cons_zero, List.set_cons_succ]
    refine takeD (i := 1) (d := 16) (v := ?_) rfl rfl (by kernel_rfl) (by kernel_rfl) (by kernel_rfl) (fun _ _ _ h => h) (Or.inl ⟨by rfl, ?_⟩) hHeld ?_
    rotate_left 1
    · (intro w hSw; (try dsimp only at hSw); go_simp; (try with_reducible rfl))
    simp only [List.setIfInBounds_toArray, List.set_cons_zero, List.set_cons_succ]
    refine takeD (i := 2) (d := 17) (v := ?_) rfl rfl (by kernel_rfl) (by kernel_rfl) (by kernel_rfl) (fun _ _ _ h => h) (Or.inl ⟨by rfl, ?_⟩) hHeld ?_
    rotate_left 1
    · (intro w hSw; (try dsimp only at hSw); go_simp; (try with_reducible rfl))
    simp only [List.setIfInBounds_toArray, List.set_cons_zero, List.set_cons_succ]
    refine takeD (i := 3) (d := 18) (v := ?_) rfl rfl (by kernel_rfl) (by kernel_rfl) (by kernel_rfl) (fun _ _ _ h => h) (Or.inl ⟨by rfl, ?_⟩) hHeld ?_
    rotate_left 1
    · (intro w hSw; (try dsimp only at hSw); go_simp; (try with_reducible rfl))
    simp only [List.setIfInBounds_toArray, List.set_cons_zero, List.set_cons_succ]
    refine takeD (i := 4) (d := 19) (v := ?_) rfl rfl (by kernel_rfl) (by kernel_rfl) (by kernel_rfl) (fun _ _ _ h => h) (Or.inl ⟨by rfl, ?_⟩) hHeld ?_
    rotate_left 1
    · (intro w hSw; (try dsimp only at hSw); go_simp; (try with_reducible rfl))
    simp only [List.setIfInBounds_toArray, List.set_cons_zero, List.set_cons_succ]
    refine takeD (i := 5) (d := 20) (v := ?_) rfl rfl (by kernel_rfl) (by kernel_rfl) (by kernel_rfl) (fun _ _ _ h => h) (Or.inl ⟨by rfl, ?_⟩) hHeld ?_
    rotate_left 1
    · (intro w hSw; (try dsimp only at hSw); go_simp; (try with_reducible rfl))
    simp only [List.setIfInBounds_toArray, List.set_cons_zero, List.set_cons_succ]
    refine takeD (i := 6) (d := 21) (v := ?_) rfl rfl (by kernel_rfl) (by kernel_rfl) (by kernel_rfl) (fun _ _ _ h => h) (Or.inl ⟨by rfl, ?_⟩) hHeld ?_
    rotate_left 1
    · (intro w hSw; (try dsimp only at hSw); go_simp; (try with_reducible rfl))
    simp only [List.setIfInBounds_toArray, List.set_cons_zero, List.set_cons_succ]
    refine takeD (i := 7) (d := 22) (v := ?_) rfl rfl (by kernel_rfl) (by kernel_rfl) (by kernel_rfl) (fun _ _ _ h => h) (Or.inl ⟨by rfl, ?_⟩) hHeld ?_
    rotate_left 1
    · (intro w hSw; (try dsimp only at hSw); go_simp; (try with_reducible rfl))
    simp only [List.setIfInBounds_toArray, List.set_cons_zero, List.set_cons_succ]
    refine takeD (i := 8) (d := 23) (v := ?_) rfl rfl (by kernel_rfl) (by kernel_rfl) (by kernel_rfl) (fun _ _ _ h => h) (Or.inl ⟨by rfl, ?_⟩) hHeld ?_
    rotate_left 1
    · (intro w hSw; (try dsimp only at hSw); go_simp; (try with_reducible rfl))
    simp only [List.setIfInBounds_toArray, List.set_cons_zero, List.set_cons_succ]
    refine takeD (i := 9) (d := 24) (v := ?_) rfl rfl (by kernel_rfl) (by kernel_rfl) (by kernel_rfl) (fun _ _ _ h => h) (Or.inl ⟨by rfl, ?_⟩) hHeld ?_
    rotate_left 1
    · (intro w hSw; (try dsimp only at hSw); go_simp; (try with_reducible rfl))
    simp only [List.setIfInBounds_toArray, List.set_cons_zero, List.set_cons_succ]
    refine wpAnyH_ready (rs := [10]) (by kernel_rfl) (by simp) ?_
    refine AllReadyH.cons rfl (fun K hK => ?_) AllReadyH.nil
    go_simp
    refine hK.out _ _ ?_ (fun hHeld => ?_)
    · exact ((Mods.refl (S := [])).alloc _).cell hHeld (by simp)
    clear hK K
    have HMA := Lib.hid (HM2.out.drew.alloc (.cells zK.cells 26))
    have HRA := Lib.hid (heap_alloc (o' := .cells zK.cells 26) (heap_drew HR2.out))
    have HQA := Lib.hid (heap_alloc (o' := .cells zK.cells 26) (heap_drew HQ2.out))
    have RGA : (w2.drew.alloc (.cells zK.cells 26)).heap[w2.heap.size]? = some (.cells zK.cells 26 (0, 0)) := heap_alloc_new w2.drew _
    have hz3 : w.heap.size + 1 < w2.heap.size := hz2
    refine wpAnyH_ready (rs := [11]) (by kernel_rfl) (by simp) ?_
    refine AllReadyH.cons rfl (fun K hK => ?_) AllReadyH.nil
    refine exec_store rfl rfl rfl RGA rfl rfl (by rfl) Try.infoC (cvC_one f sg 0 0 0 0 none 0 0) (fun w3 R3 M3 => ?_)
    refine hK.out _ _ ?_ (fun hHeld => ?_)
    · exact M3.cell hHeld (by simp; omega)
    clear hK K
    refine wpAnyH_done (by kernel_rfl) ?_ _
    have HM3 := Lib.hid (HMA.out.comp M3 (fun k hk => by simp at hk; exact .inr (by omega)))
    have HR3 := Lib.hid (M3.heap HRA.out (by simp; omega))
    have HQ3 := Lib.hid (M3.heap HQA.out (by simp; omega))
    have HG3 : Hid (w3.heap[w2.heap.size]? = some (.cells (cvC f sg 0 0 0 0 (.slice none 0 0)) 26 (0, 0))) := Lib.hid R3
    have cg0 : w3.cell? ⟨w2.heap.size, 0, none⟩ = some (.int .i64 f) := (cell_blk R3 0).trans rfl
    clear hHeld HMA HRA HQA RGA R3 M3 HM2 HR2 HQ2
    generalize w2.heap.size = g6 at HG3 cg0 hz3 ⊢
    clear ea es ew
    go_wp2_with (first
      | (refine wpList_load_row rfl 26 (.tmp 5) rfl (w.heap.size + 1) (by rfl) _ _ _ _ HR3.out Try.underlying26 rfl Try.infoC ?_)
      | (refine wpList_store_row (cs := zK.cells) rfl 26 (.tmp 2) (.tmp 33) rfl HQ3.out (by rfl) (by rfl) rfl Try.infoC zK_one ?_; intro w9 R9 M9))
    have HMX := HM3.out.comp M9 (fun k hk => by simp at hk; exact .inr (by omega))
    refine bodyPost_ret (results_cell_row3 rfl _ _ w.heap.size _ _ _ _ rfl R9 Try.underlying26 rfl Try.infoC) rfl ?_
    have := HE.out _ (by rw [HR.out]; decide) HMX
    rw [HR.out] at this
    exact this
  · skip
    have HV := Lib.hid hv
    have HB := Lib.hid hb
    obtain ⟨ad, cap, rfl, h1, h2, -⟩ := hv.u8
    have h3 : cap ≤ 9223372036854775807 := h2
    clear hv hb h2
    have HE : Hid (∀ W, errC A ≠ 0 → Mods [] w W → DecRes w A (.returned (.tuple #[.agg zK.cells, .int .i64 0, .int .i64 (errC A)])) W) := Lib.hid fun W h M => by unfold DecRes; rw [if_neg h]; exact ⟨rfl, M⟩
    have R0 := Lib.hid (heap_alloc_new w (.cells zK.cells 26))
    have M0 := Lib.hid ((Mods.refl (S := []) (w := w)).alloc (.cells zK.cells 26))
    have R1 : ((w.alloc (.cells zK.cells 26)).alloc (.cells zK.cells 26)).heap[w.heap.size + 1]? = some (.cells zK.cells 26 (0, 0)) := by
      have := heap_alloc_new (w.alloc (.cells zK.cells 26)) (.cells zK.cells 26)
      rwa [World.size_alloc] at this
    have HR1 := Lib.hid R1
    clear R1
    have hp : 0 < A.length := List.length_pos_iff.2 h0
    obtain ⟨_, _, he, _, _, hc0⟩ := HV.out.u8
    obtain ⟨bb, off, rfl, x0⟩ := hc0 0 hp
    injection he with he1 he2 he3
    subst he1 he3
    have HCC := Lib.hid (fun i (hi : i < A.length) => show w.cell? ⟨bb, off + i, none⟩ = some (.int .u8 (A.getD i 0)) from by
      obtain ⟨b', o', he, hx⟩ := hc0 i hi
      cases he
      exact hx)
    clear hc0 he2 h0
    rw [Nat.add_zero] at x0
    have hbb : bb < w.heap.size := World.block_lt_of_cell? w _ x0
    have HX0 := Lib.hid x0
    have hb0 := HB.out 0
    have HDC := Lib.hid (show ∀ pv, decC A pv = if A.getD 0 0 % 128 = 5 then ⟨5, decide (128 ≤ A.getD 0 0), 0, 0, 0, 0, pv⟩ else ⟨A.getD 0 0 % 128, decide (128 ≤ A.getD 0 0), signA A 1 2, signA A 3 2, signA A 5 1, signA A 6 1, pv⟩ from fun _ => rfl)
    have HDP := Lib.hid (show decP A = if A.getD 0 0 % 128 = 5 then ptsOf A (A.getD 1 0).toNat else [] from rfl)
    clear x0
    generalize A.getD 0 0 = x at *
    obtain ⟨hb00, hb01⟩ := hb0
    have ea : x.tmod 128 = x % 128 := Int.tmod_eq_emod_of_nonneg hb00
    have ew : IntKind.i64.wrap x = x := IntWalk.i64_in _ (by omega)
    have i0 : (0 : Int) < (A.length : Int) := by omega
    have hfr : 0 ≤ x % 128 ∧ x % 128 ≤ 127 := by omega
    generalize x % 128 = f at *
    obtain ⟨hfa, hfb⟩ := hfr
    have es : ∀ W : World, True := fun _ => trivial
    clear es
    generalize hsg : decide (128 ≤ x) = sg at HDC
    have es : decide (x ≥ 128) = sg := hsg
    clear hsg
    have d1 : decide (f < 1) = false := decide_eq_false (by omega)
    have d2 : decide (f > 5) = true := decide_eq_true hf
    go_enter Try.func60, Try.ntmps60
    go_wp2_with (refine wpList_store_row (cs := zK.cells) rfl 26 (.tmp 5) (.tmp 10) rfl HR1.out (by rfl) (by rfl) rfl Try.infoC zK_one ?_; intro w2 R2 M2; have HR2 := Lib.hid R2; have HQ2 := Lib.hid (M2.heap (heap_alloc (o' := .cells zK.cells 26) R0.out) (by simp)); have HM2 := Lib.hid ((M0.out.alloc (.cells zK.cells 26)).comp M2 (fun k hk => by simp at hk; exact .inr (by omega))); have hz2 := lt_of_block R2; clear R2 M2)
    go_wp2_with fail
    try dsimp only [Act.put]
    refine heldStart (S := fun W => W.cell? ⟨bb, off, none⟩ = some (.int .u8 x)) 12 rfl (by kernel_rfl) (HM2.out.drew.cell HX0.out (by simp)) (fun hHeld => ?_)
    refine takeD (i := 0) (d := 15) (v := ?_) rfl rfl (by kernel_rfl) (by kernel_rfl) (by kernel_rfl) (fun _ _ _ h => h) (Or.inl ⟨by rfl, ?_⟩) hHeld ?_
    rotate_left 1
    · (intro w hSw; (try dsimp only at hSw); go_simp; (try with_reducible rfl))
    simp only [List.setIfInBounds_toArray, List.set_cons_zero, List.set_cons_succ]
    refine takeD (i := 1) (d := 16) (v := ?_) rfl rfl (by kernel_rfl) (by kernel_rfl) (by kernel_rfl) (fun _ _ _ h => h) (Or.inl ⟨by rfl, ?_⟩) hHeld ?_
    rotate_left 1
    · (intro w hSw; (try dsimp only at hSw); go_simp; (try with_reducible rfl))
    simp only [List.setIfInBounds_toArray, List.set_cons_zero, List.set_cons_succ]
    refine takeD (i := 2) (d := 17) (v := ?_) rfl rfl (by kernel_rfl) (by kernel_rfl) (by kernel_rfl) (fun _ _ _ h => h) (Or.inl ⟨by rfl, ?_⟩) hHeld ?_
    rotate_left 1
    · (intro w hSw; (try dsimp only at hSw); go_simp; (try with_reducible rfl))
    simp only [List.setIfInBounds_toArray, List.set_cons_zero, List.set_cons_succ]
    refine takeD (i := 3) (d := 18) (v := ?_) rfl rfl (by kernel_rfl) (by kernel_rfl) (by kernel_rfl) (fun _ _ _ h => h) (Or.inl ⟨by rfl, ?_⟩) hHeld ?_
    rotate_left 1
    · (intro w hSw; (try dsimp only at hSw); go_simp; (try with_reducible rfl))
    simp only [List.setIfInBounds_toArray, List.set_cons_zero, List.set_cons_succ]
    refine takeD (i := 4) (d := 19) (v := ?_) rfl rfl (by kernel_rfl) (by kernel_rfl) (by kernel_rfl) (fun _ _ _ h => h) (Or.inl ⟨by rfl, ?_⟩) hHeld ?_
    rotate_left 1
    · (intro w hSw; (try dsimp only at hSw); go_simp; (try with_reducible rfl))
    simp only [List.setIfInBounds_toArray, List.set_cons_zero, List.set_cons_succ]
    refine takeD (i := 5) (d := 20) (v := ?_) rfl rfl (by kernel_rfl) (by kernel_rfl) (by kernel_rfl) (fun _ _ _ h => h) (Or.inl ⟨by rfl, ?_⟩) hHeld ?_
    rotate_left 1
    · (intro w hSw; (try dsimp only at hSw); go_simp; (try with_reducible rfl))
    simp only [List.setIfInBounds_toArray, List.set_cons_zero, List.set_cons_succ]
    refine takeD (i := 6) (d := 21) (v := ?_) rfl rfl (by kernel_rfl) (by kernel_rfl) (by kernel_rfl) (fun _ _ _ h => h) (Or.inl ⟨by rfl, ?_⟩) hHeld ?_
    rotate_left 1
    · (intro w hSw; (try dsimp only at hSw); go_simp; (try with_reducible rfl))
    simp only [List.setIfInBounds_toArray, List.set_cons_zero, List.set_cons_succ]
    refine takeD (i := 7) (d := 22) (v := ?_) rfl rfl (by kernel_rfl) (by kernel_rfl) (by kernel_rfl) (fun _ _ _ h => h) (Or.inl ⟨by rfl, ?_⟩) hHeld ?_
    rotate_left 1
    · (intro w hSw; (try dsimp only at hSw); go_simp; (try with_reducible rfl))
    simp only [List.setIfInBounds_toArray, List.set_cons_zero, List.set_cons_succ]
    refine takeD (i := 8) (d := 23) (v := ?_) rfl rfl (by kernel_rfl) (by kernel_rfl) (by kernel_rfl) (fun _ _ _ h => h) (Or.inl ⟨by rfl, ?_⟩) hHeld ?_
    rotate_left 1
    · (intro w hSw; (try dsimp only at hSw); go_simp; (try with_reducible rfl))
    simp only [List.setIfInBounds_toArray, List.set_cons_zero, List.set_cons_succ]
    refine takeD (i := 9) (d := 24) (v := ?_) rfl rfl (by kernel_rfl) (by kernel_rfl) (by kernel_rfl) (fun _ _ _ h => h) (Or.inl ⟨by rfl, ?_⟩) hHeld ?_
    rotate_left 1
    · (intro w hSw; (try dsimp only at hSw); go_simp; (try with_reducible rfl))
    simp only [List.setIfInBounds_toArray, List.set_cons_zero, List.set_cons_succ]
    refine wpAnyH_ready (rs := [10]) (by kernel_rfl) (by simp) ?_
    refine AllReadyH.cons rfl (fun K hK => ?_) AllReadyH.nil
    go_simp
    refine hK.out _ _ ?_ (fun hHeld => ?_)
    · exact ((Mods.refl (S := [])).alloc _).cell hHeld (by simp)
    clear hK K
    have HMA := Lib.hid (HM2.out.drew.alloc (.cells zK.cells 26))
    have HRA := Lib.hid (heap_alloc (o' := .cells zK.cells 26) (heap_drew HR2.out))
    have HQA := Lib.hid (heap_alloc (o' := .cells zK.cells 26) (heap_drew HQ2.out))
    have RGA : (w2.drew.alloc (.cells zK.cells 26)).heap[w2.heap.size]? = some (.cells zK.cells 26 (0, 0)) := heap_alloc_new w2.drew _
    have hz3 : w.heap.size + 1 < w2.heap.size := hz2
    refine wpAnyH_ready (rs := [11]) (by kernel_rfl) (by simp) ?_
    refine AllReadyH.cons rfl (fun K hK => ?_) AllReadyH.nil
    refine exec_store rfl rfl rfl RGA rfl rfl (by rfl) Try.infoC (cvC_one f sg 0 0 0 0 none 0 0) (fun w3 R3 M3 => ?_)
    refine hK.out _ _ ?_ (fun hHeld => ?_)
    · exact M3.cell hHeld (by simp; omega)
    clear hK K
    refine wpAnyH_done (by kernel_rfl) ?_ _
    have HM3 := Lib.hid (HMA.out.comp M3 (fun k hk => by simp at hk; exact .inr (by omega)))
    have HR3 := Lib.hid (M3.heap HRA.out (by simp; omega))
    have HQ3 := Lib.hid (M3.heap HQA.out (by simp; omega))
    have HG3 : Hid (w3.heap[w2.heap.size]? = some (.cells (cvC f sg 0 0 0 0 (.slice none 0 0)) 26 (0, 0))) := Lib.hid R3
    have cg0 : w3.cell? ⟨w2.heap.size, 0, none⟩ = some (.int .i64 f) := (cell_blk R3 0).trans rfl
    clear hHeld HMA HRA HQA RGA R3 M3 HM2 HR2 HQ2
    generalize w2.heap.size = g6 at HG3 cg0 hz3 ⊢
    clear ea es ew
    go_wp2_with (first
      | (refine wpList_load_row rfl 26 (.tmp 5) rfl (w.heap.size + 1) (by rfl) _ _ _ _ HR3.out Try.underlying26 rfl Try.infoC ?_)
      | (refine wpList_store_row (cs := zK.cells) rfl 26 (.tmp 2) (.tmp 33) rfl HQ3.out (by rfl) (by rfl) rfl Try.infoC zK_one ?_; intro w9 R9 M9))
    have HMX := HM3.out.comp M9 (fun k hk => by simp at hk; exact .inr (by omega))
    refine bodyPost_ret (results_cell_row3 rfl _ _ w.heap.size _ _ _ _ rfl R9 Try.underlying26 rfl Try.infoC) rfl ?_
    have := HE.out _ (by rw [HR.out]; decide) HMX
    rw [HR.out] at this
    exact this
set_option maxRecDepth 100000 in
set_option maxHeartbeats 4000000 in
theorem refDec_one (w : World) (v : Value) (A : List Int) (hv : Rd w v (u8s A)) (hb : Bytes A) (h0 : A ≠ []) (hf : A.getD 0 0 % 128 = 5) (hl : A.length = 1) :
    Calls Try.prog 60 #[v] w fun e w' => DecRes w A e w' := by
  have HR := Lib.hid (errC_len (lenC_one h0 hf hl) (by decide))
  have HV := Lib.hid hv
  have HB := Lib.hid hb
  obtain ⟨ad, cap, rfl, h1, h2, -⟩ := hv.u8
  have h3 : cap ≤ 9223372036854775807 := h2
  clear hv hb h2
  have HE : Hid (∀ W, errC A ≠ 0 → Mods [] w W → DecRes w A (.returned (.tuple #[.agg zK.cells, .int .i64 0, .int .i64 (errC A)])) W) := Lib.hid fun W h M => by unfold DecRes; rw [if_neg h]; exact ⟨rfl, M⟩
  have R0 := Lib.hid (heap_alloc_new w (.cells zK.cells 26))
  have M0 := Lib.hid ((Mods.refl (S := []) (w := w)).alloc (.cells zK.cells 26))
  have R1 : ((w.alloc (.cells zK.cells 26)).alloc (.cells zK.cells 26)).heap[w.heap.size + 1]? = some (.cells zK.cells 26 (0, 0)) := by
    have := heap_alloc_new (w.alloc (.cells zK.cells 26)) (.cells zK.cells 26)
    rwa [World.size_alloc] at this
  have HR1 := Lib.hid R1
  clear R1
  have hp : 0 < A.length := List.length_pos_iff.2 h0
  obtain ⟨_, _, he, _, _, hc0⟩ := HV.out.u8
  obtain ⟨bb, off, rfl, x0⟩ := hc0 0 hp
  injection he with he1 he2 he3
  subst he1 he3
  have HCC := Lib.hid (fun i (hi : i < A.length) => show w.cell? ⟨bb, off + i, none⟩ = some (.int .u8 (A.getD i 0)) from by
    obtain ⟨b', o', he, hx⟩ := hc0 i hi
    cases he
    exact hx)
  clear hc0 he2 h0
  rw [Nat.add_zero] at x0
  have hbb : bb < w.heap.size := World.block_lt_of_cell? w _ x0
  have HX0 := Lib.hid x0
  have hb0 := HB.out 0
  have HDC := Lib.hid (show ∀ pv, decC A pv = if A.getD 0 0 % 128 = 5 then ⟨5, decide (128 ≤ A.getD 0 0), 0, 0, 0, 0, pv⟩ else ⟨A.getD 0 0 % 128, decide (128 ≤ A.getD 0 0), signA A 1 2, signA A 3 2, signA A 5 1, signA A 6 1, pv⟩ from fun _ => rfl)
  have HDP := Lib.hid (show decP A = if A.getD 0 0 % 128 = 5 then ptsOf A (A.getD 1 0).toNat else [] from rfl)
  clear x0
  generalize A.getD 0 0 = x at *
  obtain ⟨hb00, hb01⟩ := hb0
  have ea : x.tmod 128 = x % 128 := Int.tmod_eq_emod_of_nonneg hb00
  have ew : IntKind.i64.wrap x = x := IntWalk.i64_in _ (by omega)
  have i0 : (0 : Int) < (A.length : Int) := by omega
  have hfr : 0 ≤ x % 128 ∧ x % 128 ≤ 127 := by omega
  generalize x % 128 = f at *
  obtain ⟨hfa, hfb⟩ := hfr
  have es : ∀ W : World, True := fun _ => trivial
  clear es
  generalize hsg : decide (128 ≤ x) = sg at HDC
  have es : decide (x ≥ 128) = sg := hsg
  clear hsg
  subst hf
  have d4 : decide ((A.length : Int) < 2) = true := decide_eq_true (by omega)
  go_enter Try.func60, Try.ntmps60
  go_wp2_with (refine wpList_store_row (cs := zK.cells) rfl 26 (.tmp 5) (.tmp 10) rfl HR1.out (by rfl) (by rfl) rfl Try.infoC zK_one ?_; intro w2 R2 M2; have HR2 := Lib.hid R2; have HQ2 := Lib.hid (M2.heap (heap_alloc (o' := .cells zK.cells 26) R0.out) (by simp)); have HM2 := Lib.hid ((M0.out.alloc (.cells zK.cells 26)).comp M2 (fun k hk => by simp at hk; exact .inr (by omega))); have hz2 := lt_of_block R2; clear R2 M2)
  go_wp2_with fail
  try dsimp only [Act.put]
  refine heldStart (S := fun W => W.cell? ⟨bb, off, none⟩ = some (.int .u8 x)) 12 rfl (by kernel_rfl) (HM2.out.drew.cell HX0.out (by simp)) (fun hHeld => ?_)
  refine takeD (i := 0) (d := 15) (v := ?_) rfl rfl (by kernel_rfl) (by kernel_rfl) (by kernel_rfl) (fun _ _ _ h => h) (Or.inl ⟨by rfl, ?_⟩) hHeld ?_
  rotate_left 1
  · (intro w hSw; (try dsimp only at hSw); go_simp; (try with_reducible rfl))
  simp only [List.setIfInBounds_toArray, List.set_cons_zero, List.set_cons_succ]
  refine takeD (i := 1) (d := 16) (v := ?_) rfl rfl (by kernel_rfl) (by kernel_rfl) (by kernel_rfl) (fun _ _ _ h => h) (Or.inl ⟨by rfl, ?_⟩) hHeld ?_
  rotate_left 1
  · (intro w hSw; (try dsimp only at hSw); go_simp; (try with_reducible rfl))
  simp only [List.setIfInBounds_toArray, List.set_cons_zero, List.set_cons_succ]
  refine takeD (i := 2) (d := 17) (v := ?_) rfl rfl (by kernel_rfl) (by kernel_rfl) (by kernel_rfl) (fun _ _ _ h => h) (Or.inl ⟨by rfl, ?_⟩) hHeld ?_
  rotate_left 1
  · (intro w hSw; (try dsimp only at hSw); go_simp; (try with_reducible rfl))
  simp only [List.setIfInBounds_toArray, List.set_cons_zero, List.set_cons_succ]
  refine takeD (i := 3) (d := 18) (v := ?_) rfl rfl (by kernel_rfl) (by kernel_rfl) (by kernel_rfl) (fun _ _ _ h => h) (Or.inl ⟨by rfl, ?_⟩) hHeld ?_
  rotate_left 1
  · (intro w hSw; (try dsimp only at hSw); go_simp; (try with_reducible rfl))
  simp only [List.setIfInBounds_toArray, List.set_cons_zero, List.set_cons_succ]
  refine takeD (i := 4) (d := 19) (v := ?_) rfl rfl (by kernel_rfl) (by kernel_rfl) (by kernel_rfl) (fun _ _ _ h => h) (Or.inl ⟨by rfl, ?_⟩) hHeld ?_
  rotate_left 1
  · (intro w hSw; (try dsimp only at hSw); go_simp; (try with_reducible rfl))
  simp only [List.setIfInBounds_toArray, List.set_cons_zero, List.set_cons_succ]
  refine takeD (i := 5) (d := 20) (v := ?_) rfl rfl (by kernel_rfl) (by kernel_rfl) (by kernel_rfl) (fun _ _ _ h => h) (Or.inl ⟨by rfl, ?_⟩) hHeld ?_
  rotate_left 1
  · (intro w hSw; (try dsimp only at hSw); go_simp; (try with_reducible rfl))
  simp only [List.setIfInBounds_toArray, List.set_cons_zero, List.set_cons_succ]
  refine takeD (i := 6) (d := 21) (v := ?_) rfl rfl (by kernel_rfl) (by kernel_rfl) (by kernel_rfl) (fun _ _ _ h => h) (Or.inl ⟨by rfl, ?_⟩) hHeld ?_
  rotate_left 1
  · (intro w hSw; (try dsimp only at hSw); go_simp; (try with_reducible rfl))
  simp only [List.setIfInBounds_toArray, List.set_cons_zero, List.set_cons_succ]
  refine takeD (i := 7) (d := 22) (v := ?_) rfl rfl (by kernel_rfl) (by kernel_rfl) (by kernel_rfl) (fun _ _ _ h => h) (Or.inl ⟨by rfl, ?_⟩) hHeld ?_
  rotate_left 1
  · (intro w hSw; (try dsimp only at hSw); go_simp; (try with_reducible rfl))
  simp only [List.setIfInBounds_toArray, List.set_cons_zero, List.set_cons_succ]
  refine takeD (i := 8) (d := 23) (v := ?_) rfl rfl (by kernel_rfl) (by kernel_rfl) (by kernel_rfl) (fun _ _ _ h => h) (Or.inl ⟨by rfl, ?_⟩) hHeld ?_
  rotate_left 1
  · (intro w hSw; (try dsimp only at hSw); go_simp; (try with_reducible rfl))
  simp only [List.setIfInBounds_toArray, List.set_cons_zero, List.set_cons_succ]
  refine takeD (i := 9) (d := 24) (v := ?_) rfl rfl (by kernel_rfl) (by kernel_rfl) (by kernel_rfl) (fun _ _ _ h => h) (Or.inl ⟨by rfl, ?_⟩) hHeld ?_
  rotate_left 1
  · (intro w hSw; (try dsimp only at hSw); go_simp; (try with_reducible rfl))
  simp only [List.setIfInBounds_toArray, List.set_cons_zero, List.set_cons_succ]
  refine wpAnyH_ready (rs := [10]) (by kernel_rfl) (by simp) ?_
  refine AllReadyH.cons rfl (fun K hK => ?_) AllReadyH.nil
  go_simp
  refine hK.out _ _ ?_ (fun hHeld => ?_)
  · exact ((Mods.refl (S := [])).alloc _).cell hHeld (by simp)
  clear hK K
  have HMA := Lib.hid (HM2.out.drew.alloc (.cells zK.cells 26))
  have HRA := Lib.hid (heap_alloc (o' := .cells zK.cells 26) (heap_drew HR2.out))
  have HQA := Lib.hid (heap_alloc (o' := .cells zK.cells 26) (heap_drew HQ2.out))
  have RGA : (w2.drew.alloc (.cells zK.cells 26)).heap[w2.heap.size]? = some (.cells zK.cells 26 (0, 0)) := heap_alloc_new w2.drew _
  have hz3 : w.heap.size + 1 < w2.heap.size := hz2
  refine wpAnyH_ready (rs := [11]) (by kernel_rfl) (by simp) ?_
  refine AllReadyH.cons rfl (fun K hK => ?_) AllReadyH.nil
  refine exec_store rfl rfl rfl RGA rfl rfl (by rfl) Try.infoC (cvC_one 5 sg 0 0 0 0 none 0 0) (fun w3 R3 M3 => ?_)
  refine hK.out _ _ ?_ (fun hHeld => ?_)
  · exact M3.cell hHeld (by simp; omega)
  clear hK K
  refine wpAnyH_done (by kernel_rfl) ?_ _
  have HM3 := Lib.hid (HMA.out.comp M3 (fun k hk => by simp at hk; exact .inr (by omega)))
  have HR3 := Lib.hid (M3.heap HRA.out (by simp; omega))
  have HQ3 := Lib.hid (M3.heap HQA.out (by simp; omega))
  have HG3 : Hid (w3.heap[w2.heap.size]? = some (.cells (cvC 5 sg 0 0 0 0 (.slice none 0 0)) 26 (0, 0))) := Lib.hid R3
  have cg0 : w3.cell? ⟨w2.heap.size, 0, none⟩ = some (.int .i64 5) := (cell_blk R3 0).trans rfl
  clear hHeld HMA HRA HQA RGA R3 M3 HM2 HR2 HQ2
  generalize w2.heap.size = g6 at HG3 cg0 hz3 ⊢
  clear ea es ew
  go_wp2_with (first
    | (refine wpList_load_row rfl 26 (.tmp 5) rfl (w.heap.size + 1) (by rfl) _ _ _ _ HR3.out Try.underlying26 rfl Try.infoC ?_)
    | (refine wpList_store_row (cs := zK.cells) rfl 26 (.tmp 2) (.tmp 40) rfl HQ3.out (by rfl) (by rfl) rfl Try.infoC zK_one ?_; intro w9 R9 M9))
  have HMX := HM3.out.comp M9 (fun k hk => by simp at hk; exact .inr (by omega))
  refine bodyPost_ret (results_cell_row3 rfl _ _ w.heap.size _ _ _ _ rfl R9 Try.underlying26 rfl Try.infoC) rfl ?_
  have := HE.out _ (by rw [HR.out]; decide) HMX
  rw [HR.out] at this
  exact this
set_option maxRecDepth 100000 in
set_option maxHeartbeats 4000000 in
theorem refDec_pts (w : World) (v : Value) (A : List Int) (hv : Rd w v (u8s A)) (hb : Bytes A) (h0 : A ≠ []) (hf : A.getD 0 0 % 128 = 5) (hl : A.length ≠ 1) (hy : A.getD 1 0 < 2 ∨ 12 < A.getD 1 0) :
    Calls Try.prog 60 #[v] w fun e w' => DecRes w A e w' := by
  have HR := Lib.hid (errC_len (lenC_pts h0 hf hl hy) (by decide))
  rcases hy with hy | hy
  · skip
    have HV := Lib.hid hv
    have HB := Lib.hid hb
    obtain ⟨ad, cap, rfl, h1, h2, -⟩ := hv.u8
    have h3 : cap ≤ 9223372036854775807 := h2
    clear hv hb h2
    have HE : Hid (∀ W, errC A ≠ 0 → Mods [] w W → DecRes w A (.returned (.tuple #[.agg zK.cells, .int .i64 0, .int .i64 (errC A)])) W) := Lib.hid fun W h M => by unfold DecRes; rw [if_neg h]; exact ⟨rfl, M⟩
    have R0 := Lib.hid (heap_alloc_new w (.cells zK.cells 26))
    have M0 := Lib.hid ((Mods.refl (S := []) (w := w)).alloc (.cells zK.cells 26))
    have R1 : ((w.alloc (.cells zK.cells 26)).alloc (.cells zK.cells 26)).heap[w.heap.size + 1]? = some (.cells zK.cells 26 (0, 0)) := by
      have := heap_alloc_new (w.alloc (.cells zK.cells 26)) (.cells zK.cells 26)
      rwa [World.size_alloc] at this
    have HR1 := Lib.hid R1
    clear R1
    have hp : 0 < A.length := List.length_pos_iff.2 h0
    obtain ⟨_, _, he, _, _, hc0⟩ := HV.out.u8
    obtain ⟨bb, off, rfl, x0⟩ := hc0 0 hp
    injection he with he1 he2 he3
    subst he1 he3
    have HCC := Lib.hid (fun i (hi : i < A.length) => show w.cell? ⟨bb, off + i, none⟩ = some (.int .u8 (A.getD i 0)) from by
      obtain ⟨b', o', he, hx⟩ := hc0 i hi
      cases he
      exact hx)
    clear hc0 he2 h0
    rw [Nat.add_zero] at x0
    have hbb : bb < w.heap.size := World.block_lt_of_cell? w _ x0
    have HX0 := Lib.hid x0
    have hb0 := HB.out 0
    have HDC := Lib.hid (show ∀ pv, decC A pv = if A.getD 0 0 % 128 = 5 then ⟨5, decide (128 ≤ A.getD 0 0), 0, 0, 0, 0, pv⟩ else ⟨A.getD 0 0 % 128, decide (128 ≤ A.getD 0 0), signA A 1 2, signA A 3 2, signA A 5 1, signA A 6 1, pv⟩ from fun _ => rfl)
    have HDP := Lib.hid (show decP A = if A.getD 0 0 % 128 = 5 then ptsOf A (A.getD 1 0).toNat else [] from rfl)
    clear x0
    generalize A.getD 0 0 = x at *
    obtain ⟨hb00, hb01⟩ := hb0
    have ea : x.tmod 128 = x % 128 := Int.tmod_eq_emod_of_nonneg hb00
    have ew : IntKind.i64.wrap x = x := IntWalk.i64_in _ (by omega)
    have i0 : (0 : Int) < (A.length : Int) := by omega
    have hfr : 0 ≤ x % 128 ∧ x % 128 ≤ 127 := by omega
    generalize x % 128 = f at *
    obtain ⟨hfa, hfb⟩ := hfr
    have es : ∀ W : World, True := fun _ => trivial
    clear es
    generalize hsg : decide (128 ≤ x) = sg at HDC
    have es : decide (x ≥ 128) = sg := hsg
    clear hsg
    have hl2 : 2 ≤ A.length := by omega
    have i1 : (1 : Int) < (A.length : Int) := by omega
    have d4 : decide ((A.length : Int) < 2) = false := decide_eq_false (by omega)
    have HX1 := Lib.hid (HCC.out 1 (by omega))
    have hb1 := HB.out 1
    generalize A.getD 1 0 = y at *
    subst hf
    have d5 : decide (y < 2) = true := decide_eq_true hy
    go_enter Try.func60, Try.ntmps60
    go_wp2_with (refine wpList_store_row (cs := zK.cells) rfl 26 (.tmp 5) (.tmp 10) rfl HR1.out (by rfl) (by rfl) rfl Try.infoC zK_one ?_; intro w2 R2 M2; have HR2 := Lib.hid R2; have HQ2 := Lib.hid (M2.heap (heap_alloc (o' := .cells zK.cells 26) R0.out) (by simp)); have HM2 := Lib.hid ((M0.out.alloc (.cells zK.cells 26)).comp M2 (fun k hk => by simp at hk; exact .inr (by omega))); have hz2 := lt_of_block R2; clear R2 M2)
    go_wp2_with fail
    try dsimp only [Act.put]
    refine heldStart (S := fun W => W.cell? ⟨bb, off, none⟩ = some (.int .u8 x)) 12 rfl (by kernel_rfl) (HM2.out.drew.cell HX0.out (by simp)) (fun hHeld => ?_)
    refine takeD (i := 0) (d := 15) (v := ?_) rfl rfl (by kernel_rfl) (by kernel_rfl) (by kernel_rfl) (fun _ _ _ h => h) (Or.inl ⟨by rfl, ?_⟩) hHeld ?_
    rotate_left 1
    · (intro w hSw; (try dsimp only at hSw); go_simp; (try with_reducible rfl))
    simp only [List.setIfInBounds_toArray, List.set_cons_zero, List.set_cons_succ]
    refine takeD (i := 1) (d := 16) (v := ?_) rfl rfl (by kernel_rfl) (by kernel_rfl) (by kernel_rfl) (fun _ _ _ h => h) (Or.inl ⟨by rfl, ?_⟩) hHeld ?_
    rotate_left 1
    · (intro w hSw; (try dsimp only at hSw); go_simp; (try with_reducible rfl))
    simp only [List.setIfInBounds_toArray, List.set_cons_zero, List.set_cons_succ]
    refine takeD (i := 2) (d := 17) (v := ?_) rfl rfl (by kernel_rfl) (by kernel_rfl) (by kernel_rfl) (fun _ _ _ h => h) (Or.inl ⟨by rfl, ?_⟩) hHeld ?_
    rotate_left 1
    · (intro w hSw; (try dsimp only at hSw); go_simp; (try with_reducible rfl))
    simp only [List.setIfInBounds_toArray, List.set_cons_zero, List.set_cons_succ]
    refine takeD (i := 3) (d := 18) (v := ?_) rfl rfl (by kernel_rfl) (by kernel_rfl) (by kernel_rfl) (fun _ _ _ h => h) (Or.inl ⟨by rfl, ?_⟩) hHeld ?_
    rotate_left 1
    · (intro w hSw; (try dsimp only at hSw); go_simp; (try with_reducible rfl))
    simp only [List.setIfInBounds_toArray, List.set_cons_zero, List.set_cons_succ]
    refine takeD (i := 4) (d := 19) (v := ?_) rfl rfl (by kernel_rfl) (by kernel_rfl) (by kernel_rfl) (fun _ _ _ h => h) (Or.inl ⟨by rfl, ?_⟩) hHeld ?_
    rotate_left 1
    · (intro w hSw; (try dsimp only at hSw); go_simp; (try with_reducible rfl))
    simp only [List.setIfInBounds_toArray, List.set_cons_zero, List.set_cons_succ]
    refine takeD (i := 5) (d := 20) (v := ?_) rfl rfl (by kernel_rfl) (by kernel_rfl) (by kernel_rfl) (fun _ _ _ h => h) (Or.inl ⟨by rfl, ?_⟩) hHeld ?_
    rotate_left 1
    · (intro w hSw; (try dsimp only at hSw); go_simp; (try with_reducible rfl))
    simp only [List.setIfInBounds_toArray, List.set_cons_zero, List.set_cons_succ]
    refine takeD (i := 6) (d := 21) (v := ?_) rfl rfl (by kernel_rfl) (by kernel_rfl) (by kernel_rfl) (fun _ _ _ h => h) (Or.inl ⟨by rfl, ?_⟩) hHeld ?_
    rotate_left 1
    · (intro w hSw; (try dsimp only at hSw); go_simp; (try with_reducible rfl))
    simp only [List.setIfInBounds_toArray, List.set_cons_zero, List.set_cons_succ]
    refine takeD (i := 7) (d := 22) (v := ?_) rfl rfl (by kernel_rfl) (by kernel_rfl) (by kernel_rfl) (fun _ _ _ h => h) (Or.inl ⟨by rfl, ?_⟩) hHeld ?_
    rotate_left 1
    · (intro w hSw; (try dsimp only at hSw); go_simp; (try with_reducible rfl))
    simp only [List.setIfInBounds_toArray, List.set_cons_zero, List.set_cons_succ]
    refine takeD (i := 8) (d := 23) (v := ?_) rfl rfl (by kernel_rfl) (by kernel_rfl) (by kernel_rfl) (fun _ _ _ h => h) (Or.inl ⟨by rfl, ?_⟩) hHeld ?_
    rotate_left 1
    · (intro w hSw; (try dsimp only at hSw); go_simp; (try with_reducible rfl))
    simp only [List.setIfInBounds_toArray, List.set_cons_zero, List.set_cons_succ]
    refine takeD (i := 9) (d := 24) (v := ?_) rfl rfl (by kernel_rfl) (by kernel_rfl) (by kernel_rfl) (fun _ _ _ h => h) (Or.inl ⟨by rfl, ?_⟩) hHeld ?_
    rotate_left 1
    · (intro w hSw; (try dsimp only at hSw); go_simp; (try with_reducible rfl))
    simp only [List.setIfInBounds_toArray, List.set_cons_zero, List.set_cons_succ]
    refine wpAnyH_ready (rs := [10]) (by kernel_rfl) (by simp) ?_
    refine AllReadyH.cons rfl (fun K hK => ?_) AllReadyH.nil
    go_simp
    refine hK.out _ _ ?_ (fun hHeld => ?_)
    · exact ((Mods.refl (S := [])).alloc _).cell hHeld (by simp)
    clear hK K
    have HMA := Lib.hid (HM2.out.drew.alloc (.cells zK.cells 26))
    have HRA := Lib.hid (heap_alloc (o' := .cells zK.cells 26) (heap_drew HR2.out))
    have HQA := Lib.hid (heap_alloc (o' := .cells zK.cells 26) (heap_drew HQ2.out))
    have RGA : (w2.drew.alloc (.cells zK.cells 26)).heap[w2.heap.size]? = some (.cells zK.cells 26 (0, 0)) := heap_alloc_new w2.drew _
    have hz3 : w.heap.size + 1 < w2.heap.size := hz2
    refine wpAnyH_ready (rs := [11]) (by kernel_rfl) (by simp) ?_
    refine AllReadyH.cons rfl (fun K hK => ?_) AllReadyH.nil
    refine exec_store rfl rfl rfl RGA rfl rfl (by rfl) Try.infoC (cvC_one 5 sg 0 0 0 0 none 0 0) (fun w3 R3 M3 => ?_)
    refine hK.out _ _ ?_ (fun hHeld => ?_)
    · exact M3.cell hHeld (by simp; omega)
    clear hK K
    refine wpAnyH_done (by kernel_rfl) ?_ _
    have HM3 := Lib.hid (HMA.out.comp M3 (fun k hk => by simp at hk; exact .inr (by omega)))
    have HR3 := Lib.hid (M3.heap HRA.out (by simp; omega))
    have HQ3 := Lib.hid (M3.heap HQA.out (by simp; omega))
    have HG3 : Hid (w3.heap[w2.heap.size]? = some (.cells (cvC 5 sg 0 0 0 0 (.slice none 0 0)) 26 (0, 0))) := Lib.hid R3
    have cg0 : w3.cell? ⟨w2.heap.size, 0, none⟩ = some (.int .i64 5) := (cell_blk R3 0).trans rfl
    clear hHeld HMA HRA HQA RGA R3 M3 HM2 HR2 HQ2
    generalize w2.heap.size = g6 at HG3 cg0 hz3 ⊢
    clear ea es ew
    have x1 : w3.cell? ⟨bb, off + 1, none⟩ = some (.int .u8 y) := HM3.out.cell HX1.out (by simp)
    go_wp2_with (first
      | (refine wpList_load_row rfl 26 (.tmp 5) rfl (w.heap.size + 1) (by rfl) _ _ _ _ HR3.out Try.underlying26 rfl Try.infoC ?_)
      | (refine wpList_store_row (cs := zK.cells) rfl 26 (.tmp 2) (.tmp 51) rfl HQ3.out (by rfl) (by rfl) rfl Try.infoC zK_one ?_; intro w9 R9 M9))
    have HMX := HM3.out.comp M9 (fun k hk => by simp at hk; exact .inr (by omega))
    refine bodyPost_ret (results_cell_row3 rfl _ _ w.heap.size _ _ _ _ rfl R9 Try.underlying26 rfl Try.infoC) rfl ?_
    have := HE.out _ (by rw [HR.out]; decide) HMX
    rw [HR.out] at this
    exact this
  · skip
    have HV := Lib.hid hv
    have HB := Lib.hid hb
    obtain ⟨ad, cap, rfl, h1, h2, -⟩ := hv.u8
    have h3 : cap ≤ 9223372036854775807 := h2
    clear hv hb h2
    have HE : Hid (∀ W, errC A ≠ 0 → Mods [] w W → DecRes w A (.returned (.tuple #[.agg zK.cells, .int .i64 0, .int .i64 (errC A)])) W) := Lib.hid fun W h M => by unfold DecRes; rw [if_neg h]; exact ⟨rfl, M⟩
    have R0 := Lib.hid (heap_alloc_new w (.cells zK.cells 26))
    have M0 := Lib.hid ((Mods.refl (S := []) (w := w)).alloc (.cells zK.cells 26))
    have R1 : ((w.alloc (.cells zK.cells 26)).alloc (.cells zK.cells 26)).heap[w.heap.size + 1]? = some (.cells zK.cells 26 (0, 0)) := by
      have := heap_alloc_new (w.alloc (.cells zK.cells 26)) (.cells zK.cells 26)
      rwa [World.size_alloc] at this
    have HR1 := Lib.hid R1
    clear R1
    have hp : 0 < A.length := List.length_pos_iff.2 h0
    obtain ⟨_, _, he, _, _, hc0⟩ := HV.out.u8
    obtain ⟨bb, off, rfl, x0⟩ := hc0 0 hp
    injection he with he1 he2 he3
    subst he1 he3
    have HCC := Lib.hid (fun i (hi : i < A.length) => show w.cell? ⟨bb, off + i, none⟩ = some (.int .u8 (A.getD i 0)) from by
      obtain ⟨b', o', he, hx⟩ := hc0 i hi
      cases he
      exact hx)
    clear hc0 he2 h0
    rw [Nat.add_zero] at x0
    have hbb : bb < w.heap.size := World.block_lt_of_cell? w _ x0
    have HX0 := Lib.hid x0
    have hb0 := HB.out 0
    have HDC := Lib.hid (show ∀ pv, decC A pv = if A.getD 0 0 % 128 = 5 then ⟨5, decide (128 ≤ A.getD 0 0), 0, 0, 0, 0, pv⟩ else ⟨A.getD 0 0 % 128, decide (128 ≤ A.getD 0 0), signA A 1 2, signA A 3 2, signA A 5 1, signA A 6 1, pv⟩ from fun _ => rfl)
    have HDP := Lib.hid (show decP A = if A.getD 0 0 % 128 = 5 then ptsOf A (A.getD 1 0).toNat else [] from rfl)
    clear x0
    generalize A.getD 0 0 = x at *
    obtain ⟨hb00, hb01⟩ := hb0
    have ea : x.tmod 128 = x % 128 := Int.tmod_eq_emod_of_nonneg hb00
    have ew : IntKind.i64.wrap x = x := IntWalk.i64_in _ (by omega)
    have i0 : (0 : Int) < (A.length : Int) := by omega
    have hfr : 0 ≤ x % 128 ∧ x % 128 ≤ 127 := by omega
    generalize x % 128 = f at *
    obtain ⟨hfa, hfb⟩ := hfr
    have es : ∀ W : World, True := fun _ => trivial
    clear es
    generalize hsg : decide (128 ≤ x) = sg at HDC
    have es : decide (x ≥ 128) = sg := hsg
    clear hsg
    have hl2 : 2 ≤ A.length := by omega
    have i1 : (1 : Int) < (A.length : Int) := by omega
    have d4 : decide ((A.length : Int) < 2) = false := decide_eq_false (by omega)
    have HX1 := Lib.hid (HCC.out 1 (by omega))
    have hb1 := HB.out 1
    generalize A.getD 1 0 = y at *
    subst hf
    have d5 : decide (y < 2) = false := decide_eq_false (by omega)
    have d6 : decide (y > 12) = true := decide_eq_true hy
    go_enter Try.func60, Try.ntmps60
    go_wp2_with (refine wpList_store_row (cs := zK.cells) rfl 26 (.tmp 5) (.tmp 10) rfl HR1.out (by rfl) (by rfl) rfl Try.infoC zK_one ?_; intro w2 R2 M2; have HR2 := Lib.hid R2; have HQ2 := Lib.hid (M2.heap (heap_alloc (o' := .cells zK.cells 26) R0.out) (by simp)); have HM2 := Lib.hid ((M0.out.alloc (.cells zK.cells 26)).comp M2 (fun k hk => by simp at hk; exact .inr (by omega))); have hz2 := lt_of_block R2; clear R2 M2)
    go_wp2_with fail
    try dsimp only [Act.put]
    refine heldStart (S := fun W => W.cell? ⟨bb, off, none⟩ = some (.int .u8 x)) 12 rfl (by kernel_rfl) (HM2.out.drew.cell HX0.out (by simp)) (fun hHeld => ?_)
    refine takeD (i := 0) (d := 15) (v := ?_) rfl rfl (by kernel_rfl) (by kernel_rfl) (by kernel_rfl) (fun _ _ _ h => h) (Or.inl ⟨by rfl, ?_⟩) hHeld ?_
    rotate_left 1
    · (intro w hSw; (try dsimp only at hSw); go_simp; (try with_reducible rfl))
    simp only [List.setIfInBounds_toArray, List.set_cons_zero, List.set_cons_succ]
    refine takeD (i := 1) (d := 16) (v := ?_) rfl rfl (by kernel_rfl) (by kernel_rfl) (by kernel_rfl) (fun _ _ _ h => h) (Or.inl ⟨by rfl, ?_⟩) hHeld ?_
    rotate_left 1
    · (intro w hSw; (try dsimp only at hSw); go_simp; (try with_reducible rfl))
    simp only [List.setIfInBounds_toArray, List.set_cons_zero, List.set_cons_succ]
    refine takeD (i := 2) (d := 17) (v := ?_) rfl rfl (by kernel_rfl) (by kernel_rfl) (by kernel_rfl) (fun _ _ _ h => h) (Or.inl ⟨by rfl, ?_⟩) hHeld ?_
    rotate_left 1
    · (intro w hSw; (try dsimp only at hSw); go_simp; (try with_reducible rfl))
    simp only [List.setIfInBounds_toArray, List.set_cons_zero, List.set_cons_succ]
    refine takeD (i := 3) (d := 18) (v := ?_) rfl rfl (by kernel_rfl) (by kernel_rfl) (by kernel_rfl) (fun _ _ _ h => h) (Or.inl ⟨by rfl, ?_⟩) hHeld ?_
    rotate_left 1
    · (intro w hSw; (try dsimp only at hSw); go_simp; (try with_reducible rfl))
    simp only [List.setIfInBounds_toArray, List.set_cons_zero, List.set_cons_succ]
    refine takeD (i := 4) (d := 19) (v := ?_) rfl rfl (by kernel_rfl) (by kernel_rfl) (by kernel_rfl) (fun _ _ _ h => h) (Or.inl ⟨by rfl, ?_⟩) hHeld ?_
    rotate_left 1
    · (intro w hSw; (try dsimp only at hSw); go_simp; (try with_reducible rfl))
    simp only [List.setIfInBounds_toArray, List.set_cons_zero, List.set_cons_succ]
    refine takeD (i := 5) (d := 20) (v := ?_) rfl rfl (by kernel_rfl) (by kernel_rfl) (by kernel_rfl) (fun _ _ _ h => h) (Or.inl ⟨by rfl, ?_⟩) hHeld ?_
    rotate_left 1
    · (intro w hSw; (try dsimp only at hSw); go_simp; (try with_reducible rfl))
    simp only [List.setIfInBounds_toArray, List.set_cons_zero, List.set_cons_succ]
    refine takeD (i := 6) (d := 21) (v := ?_) rfl rfl (by kernel_rfl) (by kernel_rfl) (by kernel_rfl) (fun _ _ _ h => h) (Or.inl ⟨by rfl, ?_⟩) hHeld ?_
    rotate_left 1
    · (intro w hSw; (try dsimp only at hSw); go_simp; (try with_reducible rfl))
    simp only [List.setIfInBounds_toArray, List.set_cons_zero, List.set_cons_succ]
    refine takeD (i := 7) (d := 22) (v := ?_) rfl rfl (by kernel_rfl) (by kernel_rfl) (by kernel_rfl) (fun _ _ _ h => h) (Or.inl ⟨by rfl, ?_⟩) hHeld ?_
    rotate_left 1
    · (intro w hSw; (try dsimp only at hSw); go_simp; (try with_reducible rfl))
    simp only [List.setIfInBounds_toArray, List.set_cons_zero, List.set_cons_succ]
    refine takeD (i := 8) (d := 23) (v := ?_) rfl rfl (by kernel_rfl) (by kernel_rfl) (by kernel_rfl) (fun _ _ _ h => h) (Or.inl ⟨by rfl, ?_⟩) hHeld ?_
    rotate_left 1
    · (intro w hSw; (try dsimp only at hSw); go_simp; (try with_reducible rfl))
    simp only [List.setIfInBounds_toArray, List.set_cons_zero, List.set_cons_succ]
    refine takeD (i := 9) (d := 24) (v := ?_) rfl rfl (by kernel_rfl) (by kernel_rfl) (by kernel_rfl) (fun _ _ _ h => h) (Or.inl ⟨by rfl, ?_⟩) hHeld ?_
    rotate_left 1
    · (intro w hSw; (try dsimp only at hSw); go_simp; (try with_reducible rfl))
    simp only [List.setIfInBounds_toArray, List.set_cons_zero, List.set_cons_succ]
    refine wpAnyH_ready (rs := [10]) (by kernel_rfl) (by simp) ?_
    refine AllReadyH.cons rfl (fun K hK => ?_) AllReadyH.nil
    go_simp
    refine hK.out _ _ ?_ (fun hHeld => ?_)
    · exact ((Mods.refl (S := [])).alloc _).cell hHeld (by simp)
    clear hK K
    have HMA := Lib.hid (HM2.out.drew.alloc (.cells zK.cells 26))
    have HRA := Lib.hid (heap_alloc (o' := .cells zK.cells 26) (heap_drew HR2.out))
    have HQA := Lib.hid (heap_alloc (o' := .cells zK.cells 26) (heap_drew HQ2.out))
    have RGA : (w2.drew.alloc (.cells zK.cells 26)).heap[w2.heap.size]? = some (.cells zK.cells 26 (0, 0)) := heap_alloc_new w2.drew _
    have hz3 : w.heap.size + 1 < w2.heap.size := hz2
    refine wpAnyH_ready (rs := [11]) (by kernel_rfl) (by simp) ?_
    refine AllReadyH.cons rfl (fun K hK => ?_) AllReadyH.nil
    refine exec_store rfl rfl rfl RGA rfl rfl (by rfl) Try.infoC (cvC_one 5 sg 0 0 0 0 none 0 0) (fun w3 R3 M3 => ?_)
    refine hK.out _ _ ?_ (fun hHeld => ?_)
    · exact M3.cell hHeld (by simp; omega)
    clear hK K
    refine wpAnyH_done (by kernel_rfl) ?_ _
    have HM3 := Lib.hid (HMA.out.comp M3 (fun k hk => by simp at hk; exact .inr (by omega)))
    have HR3 := Lib.hid (M3.heap HRA.out (by simp; omega))
    have HQ3 := Lib.hid (M3.heap HQA.out (by simp; omega))
    have HG3 : Hid (w3.heap[w2.heap.size]? = some (.cells (cvC 5 sg 0 0 0 0 (.slice none 0 0)) 26 (0, 0))) := Lib.hid R3
    have cg0 : w3.cell? ⟨w2.heap.size, 0, none⟩ = some (.int .i64 5) := (cell_blk R3 0).trans rfl
    clear hHeld HMA HRA HQA RGA R3 M3 HM2 HR2 HQ2
    generalize w2.heap.size = g6 at HG3 cg0 hz3 ⊢
    clear ea es ew
    have x1 : w3.cell? ⟨bb, off + 1, none⟩ = some (.int .u8 y) := HM3.out.cell HX1.out (by simp)
    go_wp2_with (first
      | (refine wpList_load_row rfl 26 (.tmp 5) rfl (w.heap.size + 1) (by rfl) _ _ _ _ HR3.out Try.underlying26 rfl Try.infoC ?_)
      | (refine wpList_store_row (cs := zK.cells) rfl 26 (.tmp 2) (.tmp 51) rfl HQ3.out (by rfl) (by rfl) rfl Try.infoC zK_one ?_; intro w9 R9 M9))
    have HMX := HM3.out.comp M9 (fun k hk => by simp at hk; exact .inr (by omega))
    refine bodyPost_ret (results_cell_row3 rfl _ _ w.heap.size _ _ _ _ rfl R9 Try.underlying26 rfl Try.infoC) rfl ?_
    have := HE.out _ (by rw [HR.out]; decide) HMX
    rw [HR.out] at this
    exact this
set_option maxRecDepth 100000 in
set_option maxHeartbeats 4000000 in
theorem refDec_cut7 (w : World) (v : Value) (A : List Int) (hv : Rd w v (u8s A)) (hb : Bytes A) (h0 : A ≠ []) (hf1 : 1 ≤ A.getD 0 0 % 128) (hf5 : A.getD 0 0 % 128 ≤ 5) (hf : A.getD 0 0 % 128 ≠ 5) (hl : (A.length : Int) < 7) :
    Calls Try.prog 60 #[v] w fun e w' => DecRes w A e w' := by
  have HR := Lib.hid (errC_cut (lenC_lin h0 hf1 hf5 hf) hl)
  have HV := Lib.hid hv
  have HB := Lib.hid hb
  obtain ⟨ad, cap, rfl, h1, h2, -⟩ := hv.u8
  have h3 : cap ≤ 9223372036854775807 := h2
  clear hv hb h2
  have HE : Hid (∀ W, errC A ≠ 0 → Mods [] w W → DecRes w A (.returned (.tuple #[.agg zK.cells, .int .i64 0, .int .i64 (errC A)])) W) := Lib.hid fun W h M => by unfold DecRes; rw [if_neg h]; exact ⟨rfl, M⟩
  have R0 := Lib.hid (heap_alloc_new w (.cells zK.cells 26))
  have M0 := Lib.hid ((Mods.refl (S := []) (w := w)).alloc (.cells zK.cells 26))
  have R1 : ((w.alloc (.cells zK.cells 26)).alloc (.cells zK.cells 26)).heap[w.heap.size + 1]? = some (.cells zK.cells 26 (0, 0)) := by
    have := heap_alloc_new (w.alloc (.cells zK.cells 26)) (.cells zK.cells 26)
    rwa [World.size_alloc] at this
  have HR1 := Lib.hid R1
  clear R1
  have hp : 0 < A.length := List.length_pos_iff.2 h0
  obtain ⟨_, _, he, _, _, hc0⟩ := HV.out.u8
  obtain ⟨bb, off, rfl, x0⟩ := hc0 0 hp
  injection he with he1 he2 he3
  subst he1 he3
  have HCC := Lib.hid (fun i (hi : i < A.length) => show w.cell? ⟨bb, off + i, none⟩ = some (.int .u8 (A.getD i 0)) from by
    obtain ⟨b', o', he, hx⟩ := hc0 i hi
    cases he
    exact hx)
  clear hc0 he2 h0
  rw [Nat.add_zero] at x0
  have hbb : bb < w.heap.size := World.block_lt_of_cell? w _ x0
  have HX0 := Lib.hid x0
  have hb0 := HB.out 0
  have HDC := Lib.hid (show ∀ pv, decC A pv = if A.getD 0 0 % 128 = 5 then ⟨5, decide (128 ≤ A.getD 0 0), 0, 0, 0, 0, pv⟩ else ⟨A.getD 0 0 % 128, decide (128 ≤ A.getD 0 0), signA A 1 2, signA A 3 2, signA A 5 1, signA A 6 1, pv⟩ from fun _ => rfl)
  have HDP := Lib.hid (show decP A = if A.getD 0 0 % 128 = 5 then ptsOf A (A.getD 1 0).toNat else [] from rfl)
  clear x0
  generalize A.getD 0 0 = x at *
  obtain ⟨hb00, hb01⟩ := hb0
  have ea : x.tmod 128 = x % 128 := Int.tmod_eq_emod_of_nonneg hb00
  have ew : IntKind.i64.wrap x = x := IntWalk.i64_in _ (by omega)
  have i0 : (0 : Int) < (A.length : Int) := by omega
  have hfr : 0 ≤ x % 128 ∧ x % 128 ≤ 127 := by omega
  generalize x % 128 = f at *
  obtain ⟨hfa, hfb⟩ := hfr
  have es : ∀ W : World, True := fun _ => trivial
  clear es
  generalize hsg : decide (128 ≤ x) = sg at HDC
  have es : decide (x ≥ 128) = sg := hsg
  clear hsg
  have d1 : decide (f < 1) = false := decide_eq_false (by omega)
  have d2 : decide (f > 5) = false := decide_eq_false (by omega)
  have d3 : (f == 5) = false := by simpa using hf
  have d4 : decide ((A.length : Int) < 7) = true := decide_eq_true hl
  clear hf
  go_enter Try.func60, Try.ntmps60
  go_wp2_with (refine wpList_store_row (cs := zK.cells) rfl 26 (.tmp 5) (.tmp 10) rfl HR1.out (by rfl) (by rfl) rfl Try.infoC zK_one ?_; intro w2 R2 M2; have HR2 := Lib.hid R2; have HQ2 := Lib.hid (M2.heap (heap_alloc (o' := .cells zK.cells 26) R0.out) (by simp)); have HM2 := Lib.hid ((M0.out.alloc (.cells zK.cells 26)).comp M2 (fun k hk => by simp at hk; exact .inr (by omega))); have hz2 := lt_of_block R2; clear R2 M2)
  go_wp2_with fail
  try dsimp only [Act.put]
  refine heldStart (S := fun W => W.cell? ⟨bb, off, none⟩ = some (.int .u8 x)) 12 rfl (by kernel_rfl) (HM2.out.drew.cell HX0.out (by simp)) (fun hHeld => ?_)
  refine takeD (i := 0) (d := 15) (v := ?_) rfl rfl (by kernel_rfl) (by kernel_rfl) (by kernel_rfl) (fun _ _ _ h => h) (Or.inl ⟨by rfl, ?_⟩) hHeld ?_
  rotate_left 1
  · (intro w hSw; (try dsimp only at hSw); go_simp; (try with_reducible rfl))
  simp only [List.setIfInBounds_toArray, List.set_cons_zero, List.set_cons_succ]
  refine takeD (i := 1) (d := 16) (v := ?_) rfl rfl (by kernel_rfl) (by kernel_rfl) (by kernel_rfl) (fun _ _ _ h => h) (Or.inl ⟨by rfl, ?_⟩) hHeld ?_
  rotate_left 1
  · (intro w hSw; (try dsimp only at hSw); go_simp; (try with_reducible rfl))
  simp only [List.setIfInBounds_toArray, List.set_cons_zero, List.set_cons_succ]
  refine takeD (i := 2) (d := 17) (v := ?_) rfl rfl (by kernel_rfl) (by kernel_rfl) (by kernel_rfl) (fun _ _ _ h => h) (Or.inl ⟨by rfl, ?_⟩) hHeld ?_
  rotate_left 1
  · (intro w hSw; (try dsimp only at hSw); go_simp; (try with_reducible rfl))
  simp only [List.setIfInBounds_toArray, List.set_cons_zero, List.set_cons_succ]
  refine takeD (i := 3) (d := 18) (v := ?_) rfl rfl (by kernel_rfl) (by kernel_rfl) (by kernel_rfl) (fun _ _ _ h => h) (Or.inl ⟨by rfl, ?_⟩) hHeld ?_
  rotate_left 1
  · (intro w hSw; (try dsimp only at hSw); go_simp; (try with_reducible rfl))
  simp only [List.setIfInBounds_toArray, List.set_cons_zero, List.set_cons_succ]
  refine takeD (i := 4) (d := 19) (v := ?_) rfl rfl (by kernel_rfl) (by kernel_rfl) (by kernel_rfl) (fun _ _ _ h => h) (Or.inl ⟨by rfl, ?_⟩) hHeld ?_
  rotate_left 1
  · (intro w hSw; (try dsimp only at hSw); go_simp; (try with_reducible rfl))
  simp only [List.setIfInBounds_toArray, List.set_cons_zero, List.set_cons_succ]
  refine takeD (i := 5) (d := 20) (v := ?_) rfl rfl (by kernel_rfl) (by kernel_rfl) (by kernel_rfl) (fun _ _ _ h => h) (Or.inl ⟨by rfl, ?_⟩) hHeld ?_
  rotate_left 1
  · (intro w hSw; (try dsimp only at hSw); go_simp; (try with_reducible rfl))
  simp only [List.setIfInBounds_toArray, List.set_cons_zero, List.set_cons_succ]
  refine takeD (i := 6) (d := 21) (v := ?_) rfl rfl (by kernel_rfl) (by kernel_rfl) (by kernel_rfl) (fun _ _ _ h => h) (Or.inl ⟨by rfl, ?_⟩) hHeld ?_
  rotate_left 1
  · (intro w hSw; (try dsimp only at hSw); go_simp; (try with_reducible rfl))
  simp only [List.setIfInBounds_toArray, List.set_cons_zero, List.set_cons_succ]
  refine takeD (i := 7) (d := 22) (v := ?_) rfl rfl (by kernel_rfl) (by kernel_rfl) (by kernel_rfl) (fun _ _ _ h => h) (Or.inl ⟨by rfl, ?_⟩) hHeld ?_
  rotate_left 1
  · (intro w hSw; (try dsimp only at hSw); go_simp; (try with_reducible rfl))
  simp only [List.setIfInBounds_toArray, List.set_cons_zero, List.set_cons_succ]
  refine takeD (i := 8) (d := 23) (v := ?_) rfl rfl (by kernel_rfl) (by kernel_rfl) (by kernel_rfl) (fun _ _ _ h => h) (Or.inl ⟨by rfl, ?_⟩) hHeld ?_
  rotate_left 1
  · (intro w hSw; (try dsimp only at hSw); go_simp; (try with_reducible rfl))
  simp only [List.setIfInBounds_toArray, List.set_cons_zero, List.set_cons_succ]
  refine takeD (i := 9) (d := 24) (v := ?_) rfl rfl (by kernel_rfl) (by kernel_rfl) (by kernel_rfl) (fun _ _ _ h => h) (Or.inl ⟨by rfl, ?_⟩) hHeld ?_
  rotate_left 1
  · (intro w hSw; (try dsimp only at hSw); go_simp; (try with_reducible rfl))
  simp only [List.setIfInBounds_toArray, List.set_cons_zero, List.set_cons_succ]
  refine wpAnyH_ready (rs := [10]) (by kernel_rfl) (by simp) ?_
  refine AllReadyH.cons rfl (fun K hK => ?_) AllReadyH.nil
  go_simp
  refine hK.out _ _ ?_ (fun hHeld => ?_)
  · exact ((Mods.refl (S := [])).alloc _).cell hHeld (by simp)
  clear hK K
  have HMA := Lib.hid (HM2.out.drew.alloc (.cells zK.cells 26))
  have HRA := Lib.hid (heap_alloc (o' := .cells zK.cells 26) (heap_drew HR2.out))
  have HQA := Lib.hid (heap_alloc (o' := .cells zK.cells 26) (heap_drew HQ2.out))
  have RGA : (w2.drew.alloc (.cells zK.cells 26)).heap[w2.heap.size]? = some (.cells zK.cells 26 (0, 0)) := heap_alloc_new w2.drew _
  have hz3 : w.heap.size + 1 < w2.heap.size := hz2
  refine wpAnyH_ready (rs := [11]) (by kernel_rfl) (by simp) ?_
  refine AllReadyH.cons rfl (fun K hK => ?_) AllReadyH.nil
  refine exec_store rfl rfl rfl RGA rfl rfl (by rfl) Try.infoC (cvC_one f sg 0 0 0 0 none 0 0) (fun w3 R3 M3 => ?_)
  refine hK.out _ _ ?_ (fun hHeld => ?_)
  · exact M3.cell hHeld (by simp; omega)
  clear hK K
  refine wpAnyH_done (by kernel_rfl) ?_ _
  have HM3 := Lib.hid (HMA.out.comp M3 (fun k hk => by simp at hk; exact .inr (by omega)))
  have HR3 := Lib.hid (M3.heap HRA.out (by simp; omega))
  have HQ3 := Lib.hid (M3.heap HQA.out (by simp; omega))
  have HG3 : Hid (w3.heap[w2.heap.size]? = some (.cells (cvC f sg 0 0 0 0 (.slice none 0 0)) 26 (0, 0))) := Lib.hid R3
  have cg0 : w3.cell? ⟨w2.heap.size, 0, none⟩ = some (.int .i64 f) := (cell_blk R3 0).trans rfl
  clear hHeld HMA HRA HQA RGA R3 M3 HM2 HR2 HQ2
  generalize w2.heap.size = g6 at HG3 cg0 hz3 ⊢
  clear ea es ew
  go_wp2_with (first
    | (refine wpList_load_row rfl 26 (.tmp 5) rfl (w.heap.size + 1) (by rfl) _ _ _ _ HR3.out Try.underlying26 rfl Try.infoC ?_)
    | (refine wpList_store_row (cs := zK.cells) rfl 26 (.tmp 2) (.tmp 62) rfl HQ3.out (by rfl) (by rfl) rfl Try.infoC zK_one ?_; intro w9 R9 M9))
  have HMX := HM3.out.comp M9 (fun k hk => by simp at hk; exact .inr (by omega))
  refine bodyPost_ret (results_cell_row3 rfl _ _ w.heap.size _ _ _ _ rfl R9 Try.underlying26 rfl Try.infoC) rfl ?_
  have := HE.out _ (by rw [HR.out]; decide) HMX
  rw [HR.out] at this
  exact this
set_option maxRecDepth 100000 in
set_option maxHeartbeats 4000000 in
theorem refDec_cutN (w : World) (v : Value) (A : List Int) (hv : Rd w v (u8s A)) (hb : Bytes A) (h0 : A ≠ []) (hf : A.getD 0 0 % 128 = 5) (hl : A.length ≠ 1) (hy : ¬ (A.getD 1 0 < 2 ∨ 12 < A.getD 1 0)) (hc : (A.length : Int) < 2 + 7 * A.getD 1 0) :
    Calls Try.prog 60 #[v] w fun e w' => DecRes w A e w' := by
  have HR := Lib.hid (errC_cut (lenC_tab h0 hf hl hy) hc)
  have HV := Lib.hid hv
  have HB := Lib.hid hb
  obtain ⟨ad, cap, rfl, h1, h2, -⟩ := hv.u8
  have h3 : cap ≤ 9223372036854775807 := h2
  clear hv hb h2
  have HE : Hid (∀ W, errC A ≠ 0 → Mods [] w W → DecRes w A (.returned (.tuple #[.agg zK.cells, .int .i64 0, .int .i64 (errC A)])) W) := Lib.hid fun W h M => by unfold DecRes; rw [if_neg h]; exact ⟨rfl, M⟩
  have R0 := Lib.hid (heap_alloc_new w (.cells zK.cells 26))
  have M0 := Lib.hid ((Mods.refl (S := []) (w := w)).alloc (.cells zK.cells 26))
  have R1 : ((w.alloc (.cells zK.cells 26)).alloc (.cells zK.cells 26)).heap[w.heap.size + 1]? = some (.cells zK.cells 26 (0, 0)) := by
    have := heap_alloc_new (w.alloc (.cells zK.cells 26)) (.cells zK.cells 26)
    rwa [World.size_alloc] at this
  have HR1 := Lib.hid R1
  clear R1
  have hp : 0 < A.length := List.length_pos_iff.2 h0
  obtain ⟨_, _, he, _, _, hc0⟩ := HV.out.u8
  obtain ⟨bb, off, rfl, x0⟩ := hc0 0 hp
  injection he with he1 he2 he3
  subst he1 he3
  have HCC := Lib.hid (fun i (hi : i < A.length) => show w.cell? ⟨bb, off + i, none⟩ = some (.int .u8 (A.getD i 0)) from by
    obtain ⟨b', o', he, hx⟩ := hc0 i hi
    cases he
    exact hx)
  clear hc0 he2 h0
  rw [Nat.add_zero] at x0
  have hbb : bb < w.heap.size := World.block_lt_of_cell? w _ x0
  have HX0 := Lib.hid x0
  have hb0 := HB.out 0
  have HDC := Lib.hid (show ∀ pv, decC A pv = if A.getD 0 0 % 128 = 5 then ⟨5, decide (128 ≤ A.getD 0 0), 0, 0, 0, 0, pv⟩ else ⟨A.getD 0 0 % 128, decide (128 ≤ A.getD 0 0), signA A 1 2, signA A 3 2, signA A 5 1, signA A 6 1, pv⟩ from fun _ => rfl)
  have HDP := Lib.hid (show decP A = if A.getD 0 0 % 128 = 5 then ptsOf A (A.getD 1 0).toNat else [] from rfl)
  clear x0
  generalize A.getD 0 0 = x at *
  obtain ⟨hb00, hb01⟩ := hb0
  have ea : x.tmod 128 = x % 128 := Int.tmod_eq_emod_of_nonneg hb00
  have ew : IntKind.i64.wrap x = x := IntWalk.i64_in _ (by omega)
  have i0 : (0 : Int) < (A.length : Int) := by omega
  have hfr : 0 ≤ x % 128 ∧ x % 128 ≤ 127 := by omega
  generalize x % 128 = f at *
  obtain ⟨hfa, hfb⟩ := hfr
  have es : ∀ W : World, True := fun _ => trivial
  clear es
  generalize hsg : decide (128 ≤ x) = sg at HDC
  have es : decide (x ≥ 128) = sg := hsg
  clear hsg
  have hl2 : 2 ≤ A.length := by omega
  have i1 : (1 : Int) < (A.length : Int) := by omega
  have d4 : decide ((A.length : Int) < 2) = false := decide_eq_false (by omega)
  have HX1 := Lib.hid (HCC.out 1 (by omega))
  have hb1 := HB.out 1
  generalize A.getD 1 0 = y at *
  subst hf
  have d4 : decide ((A.length : Int) < 2) = false := decide_eq_false (by omega)
  have d5 : decide (y < 2) = false := decide_eq_false (by omega)
  have d6 : decide (y > 12) = false := decide_eq_false (by omega)
  have d7 : decide ((A.length : Int) < 2 + 7 * y) = true := decide_eq_true hc
  have y0 : (0 : Int) ≤ y := by omega
  have y1 : y ≤ 12 := by omega
  clear hy hc
  go_enter Try.func60, Try.ntmps60
  go_wp2_with (refine wpList_store_row (cs := zK.cells) rfl 26 (.tmp 5) (.tmp 10) rfl HR1.out (by rfl) (by rfl) rfl Try.infoC zK_one ?_; intro w2 R2 M2; have HR2 := Lib.hid R2; have HQ2 := Lib.hid (M2.heap (heap_alloc (o' := .cells zK.cells 26) R0.out) (by simp)); have HM2 := Lib.hid ((M0.out.alloc (.cells zK.cells 26)).comp M2 (fun k hk => by simp at hk; exact .inr (by omega))); have hz2 := lt_of_block R2; clear R2 M2)
  go_wp2_with fail
  try dsimp only [Act.put]
  refine heldStart (S := fun W => W.cell? ⟨bb, off, none⟩ = some (.int .u8 x)) 12 rfl (by kernel_rfl) (HM2.out.drew.cell HX0.out (by simp)) (fun hHeld => ?_)
  refine takeD (i := 0) (d := 15) (v := ?_) rfl rfl (by kernel_rfl) (by kernel_rfl) (by kernel_rfl) (fun _ _ _ h => h) (Or.inl ⟨by rfl, ?_⟩) hHeld ?_
  rotate_left 1
  · (intro w hSw; (try dsimp only at hSw); go_simp; (try with_reducible rfl))
  simp only [List.setIfInBounds_toArray, List.set_cons_zero, List.set_cons_succ]
  refine takeD (i := 1) (d := 16) (v := ?_) rfl rfl (by kernel_rfl) (by kernel_rfl) (by kernel_rfl) (fun _ _ _ h => h) (Or.inl ⟨by rfl, ?_⟩) hHeld ?_
  rotate_left 1
  · (intro w hSw; (try dsimp only at hSw); go_simp; (try with_reducible rfl))
  simp only [List.setIfInBounds_toArray, List.set_cons_zero, List.set_cons_succ]
  refine takeD (i := 2) (d := 17) (v := ?_) rfl rfl (by kernel_rfl) (by kernel_rfl) (by kernel_rfl) (fun _ _ _ h => h) (Or.inl ⟨by rfl, ?_⟩) hHeld ?_
  rotate_left 1
  · (intro w hSw; (try dsimp only at hSw); go_simp; (try with_reducible rfl))
  simp only [List.setIfInBounds_toArray, List.set_cons_zero, List.set_cons_succ]
  refine takeD (i := 3) (d := 18) (v := ?_) rfl rfl (by kernel_rfl) (by kernel_rfl) (by kernel_rfl) (fun _ _ _ h => h) (Or.inl ⟨by rfl, ?_⟩) hHeld ?_
  rotate_left 1
  · (intro w hSw; (try dsimp only at hSw); go_simp; (try with_reducible rfl))
  simp only [List.setIfInBounds_toArray, List.set_cons_zero, List.set_cons_succ]
  refine takeD (i := 4) (d := 19) (v := ?_) rfl rfl (by kernel_rfl) (by kernel_rfl) (by kernel_rfl) (fun _ _ _ h => h) (Or.inl ⟨by rfl, ?_⟩) hHeld ?_
  rotate_left 1
  · (intro w hSw; (try dsimp only at hSw); go_simp; (try with_reducible rfl))
  simp only [List.setIfInBounds_toArray, List.set_cons_zero, List.set_cons_succ]
  refine takeD (i := 5) (d := 20) (v := ?_) rfl rfl (by kernel_rfl) (by kernel_rfl) (by kernel_rfl) (fun _ _ _ h => h) (Or.inl ⟨by rfl, ?_⟩) hHeld ?_
  rotate_left 1
  · (intro w hSw; (try dsimp only at hSw); go_simp; (try with_reducible rfl))
  simp only [List.setIfInBounds_toArray, List.set_cons_zero, List.set_cons_succ]
  refine takeD (i := 6) (d := 21) (v := ?_) rfl rfl (by kernel_rfl) (by kernel_rfl) (by kernel_rfl) (fun _ _ _ h => h) (Or.inl ⟨by rfl, ?_⟩) hHeld ?_
  rotate_left 1
  · (intro w hSw; (try dsimp only at hSw); go_simp; (try with_reducible rfl))
  simp only [List.setIfInBounds_toArray, List.set_cons_zero, List.set_cons_succ]
  refine takeD (i := 7) (d := 22) (v := ?_) rfl rfl (by kernel_rfl) (by kernel_rfl) (by kernel_rfl) (fun _ _ _ h => h) (Or.inl ⟨by rfl, ?_⟩) hHeld ?_
  rotate_left 1
  · (intro w hSw; (try dsimp only at hSw); go_simp; (try with_reducible rfl))
  simp only [List.setIfInBounds_toArray, List.set_cons_zero, List.set_cons_succ]
  refine takeD (i := 8) (d := 23) (v := ?_) rfl rfl (by kernel_rfl) (by kernel_rfl) (by kernel_rfl) (fun _ _ _ h => h) (Or.inl ⟨by rfl, ?_⟩) hHeld ?_
  rotate_left 1
  · (intro w hSw; (try dsimp only at hSw); go_simp; (try with_reducible rfl))
  simp only [List.setIfInBounds_toArray, List.set_cons_zero, List.set_cons_succ]
  refine takeD (i := 9) (d := 24) (v := ?_) rfl rfl (by kernel_rfl) (by kernel_rfl) (by kernel_rfl) (fun _ _ _ h => h) (Or.inl ⟨by rfl, ?_⟩) hHeld ?_
  rotate_left 1
  · (intro w hSw; (try dsimp only at hSw); go_simp; (try with_reducible rfl))
  simp only [List.setIfInBounds_toArray, List.set_cons_zero, List.set_cons_succ]
  refine wpAnyH_ready (rs := [10]) (by kernel_rfl) (by simp) ?_
  refine AllReadyH.cons rfl (fun K hK => ?_) AllReadyH.nil
  go_simp
  refine hK.out _ _ ?_ (fun hHeld => ?_)
  · exact ((Mods.refl (S := [])).alloc _).cell hHeld (by simp)
  clear hK K
  have HMA := Lib.hid (HM2.out.drew.alloc (.cells zK.cells 26))
  have HRA := Lib.hid (heap_alloc (o' := .cells zK.cells 26) (heap_drew HR2.out))
  have HQA := Lib.hid (heap_alloc (o' := .cells zK.cells 26) (heap_drew HQ2.out))
  have RGA : (w2.drew.alloc (.cells zK.cells 26)).heap[w2.heap.size]? = some (.cells zK.cells 26 (0, 0)) := heap_alloc_new w2.drew _
  have hz3 : w.heap.size + 1 < w2.heap.size := hz2
  refine wpAnyH_ready (rs := [11]) (by kernel_rfl) (by simp) ?_
  refine AllReadyH.cons rfl (fun K hK => ?_) AllReadyH.nil
  refine exec_store rfl rfl rfl RGA rfl rfl (by rfl) Try.infoC (cvC_one 5 sg 0 0 0 0 none 0 0) (fun w3 R3 M3 => ?_)
  refine hK.out _ _ ?_ (fun hHeld => ?_)
  · exact M3.cell hHeld (by simp; omega)
  clear hK K
  refine wpAnyH_done (by kernel_rfl) ?_ _
  have HM3 := Lib.hid (HMA.out.comp M3 (fun k hk => by simp at hk; exact .inr (by omega)))
  have HR3 := Lib.hid (M3.heap HRA.out (by simp; omega))
  have HQ3 := Lib.hid (M3.heap HQA.out (by simp; omega))
  have HG3 : Hid (w3.heap[w2.heap.size]? = some (.cells (cvC 5 sg 0 0 0 0 (.slice none 0 0)) 26 (0, 0))) := Lib.hid R3
  have cg0 : w3.cell? ⟨w2.heap.size, 0, none⟩ = some (.int .i64 5) := (cell_blk R3 0).trans rfl
  clear hHeld HMA HRA HQA RGA R3 M3 HM2 HR2 HQ2
  generalize w2.heap.size = g6 at HG3 cg0 hz3 ⊢
  clear ea es ew
  have x1 : w3.cell? ⟨bb, off + 1, none⟩ = some (.int .u8 y) := HM3.out.cell HX1.out (by simp)
  go_wp2_with (first
    | (refine wpList_load_row rfl 26 (.tmp 5) rfl (w.heap.size + 1) (by rfl) _ _ _ _ HR3.out Try.underlying26 rfl Try.infoC ?_)
    | (refine wpList_store_row (cs := zK.cells) rfl 26 (.tmp 2) (.tmp 62) rfl HQ3.out (by rfl) (by rfl) rfl Try.infoC zK_one ?_; intro w9 R9 M9))
  have HMX := HM3.out.comp M9 (fun k hk => by simp at hk; exact .inr (by omega))
  refine bodyPost_ret (results_cell_row3 rfl _ _ w.heap.size _ _ _ _ rfl R9 Try.underlying26 rfl Try.infoC) rfl ?_
  have := HE.out _ (by rw [HR.out]; decide) HMX
  rw [HR.out] at this
  exact this
end Go.Proofs.Ytijjkonephjodaa

namespace Go.Proofs.Ytijjkonephjodaa
open Go.RowKit

theorem refSigned_at (W : World) (v : Value) (A : List Int) (i n : Nat) (x : Int) (hx : x = signA A i n) (hv : Rd W v (u8s ((A.drop i).take n))) (hb : Bytes A) (hn : 1 ≤ n) (h7 : n ≤ 7) (hi : i + n ≤ A.length) :
    Calls Try.prog 92 #[v] W fun e w' => e = .returned (.int .i64 x) ∧ W = w' := by
  subst hx
  exact refSigned_ok W v _ hv ((hb.drop _).take _) (by simp; omega) (by simp; omega)
set_option maxRecDepth 100000 in
set_option maxHeartbeats 4000000 in
theorem refDec_lin (w : World) (v : Value) (A : List Int) (hv : Rd w v (u8s A)) (hb : Bytes A) (h0 : A ≠ []) (hf1 : 1 ≤ A.getD 0 0 % 128) (hf5 : A.getD 0 0 % 128 ≤ 5) (hf : A.getD 0 0 % 128 ≠ 5) (hl : ¬ (A.length : Int) < 7) :
    Calls Try.prog 60 #[v] w fun e w' => DecRes w A e w' := by
  have HU := Lib.hid (errC_val (lenC_lin h0 hf1 hf5 hf) hl)
  have HLC := Lib.hid (lenC_lin h0 hf1 hf5 hf)
  have HV := Lib.hid hv
  have HB := Lib.hid hb
  obtain ⟨ad, cap, rfl, h1, h2, -⟩ := hv.u8
  have h3 : cap ≤ 9223372036854775807 := h2
  clear hv hb h2
  have HE : Hid (∀ W, errC A ≠ 0 → Mods [] w W → DecRes w A (.returned (.tuple #[.agg zK.cells, .int .i64 0, .int .i64 (errC A)])) W) := Lib.hid fun W h M => by unfold DecRes; rw [if_neg h]; exact ⟨rfl, M⟩
  have R0 := Lib.hid (heap_alloc_new w (.cells zK.cells 26))
  have M0 := Lib.hid ((Mods.refl (S := []) (w := w)).alloc (.cells zK.cells 26))
  have R1 : ((w.alloc (.cells zK.cells 26)).alloc (.cells zK.cells 26)).heap[w.heap.size + 1]? = some (.cells zK.cells 26 (0, 0)) := by
    have := heap_alloc_new (w.alloc (.cells zK.cells 26)) (.cells zK.cells 26)
    rwa [World.size_alloc] at this
  have HR1 := Lib.hid R1
  clear R1
  have hp : 0 < A.length := List.length_pos_iff.2 h0
  obtain ⟨_, _, he, _, _, hc0⟩ := HV.out.u8
  obtain ⟨bb, off, rfl, x0⟩ := hc0 0 hp
  injection he with he1 he2 he3
  subst he1 he3
  have HCC := Lib.hid (fun i (hi : i < A.length) => show w.cell? ⟨bb, off + i, none⟩ = some (.int .u8 (A.getD i 0)) from by
    obtain ⟨b', o', he, hx⟩ := hc0 i hi
    cases he
    exact hx)
  clear hc0 he2 h0
  rw [Nat.add_zero] at x0
  have hbb : bb < w.heap.size := World.block_lt_of_cell? w _ x0
  have HX0 := Lib.hid x0
  have hb0 := HB.out 0
  have HDC := Lib.hid (show ∀ pv, decC A pv = if A.getD 0 0 % 128 = 5 then ⟨5, decide (128 ≤ A.getD 0 0), 0, 0, 0, 0, pv⟩ else ⟨A.getD 0 0 % 128, decide (128 ≤ A.getD 0 0), signA A 1 2, signA A 3 2, signA A 5 1, signA A 6 1, pv⟩ from fun _ => rfl)
  have HDP := Lib.hid (show decP A = if A.getD 0 0 % 128 = 5 then ptsOf A (A.getD 1 0).toNat else [] from rfl)
  clear x0
  generalize A.getD 0 0 = x at *
  obtain ⟨hb00, hb01⟩ := hb0
  have ea : x.tmod 128 = x % 128 := Int.tmod_eq_emod_of_nonneg hb00
  have ew : IntKind.i64.wrap x = x := IntWalk.i64_in _ (by omega)
  have i0 : (0 : Int) < (A.length : Int) := by omega
  have hfr : 0 ≤ x % 128 ∧ x % 128 ≤ 127 := by omega
  generalize x % 128 = f at *
  obtain ⟨hfa, hfb⟩ := hfr
  have es : ∀ W : World, True := fun _ => trivial
  clear es
  generalize hsg : decide (128 ≤ x) = sg at HDC
  have es : decide (x ≥ 128) = sg := hsg
  clear hsg
  have d1 : decide (f < 1) = false := decide_eq_false (by omega)
  have d2 : decide (f > 5) = false := decide_eq_false (by omega)
  have d3 : (f == 5) = false := by simpa using hf
  have d4 : decide ((A.length : Int) < 7) = false := decide_eq_false hl
  have HDK : ∀ pv, decC A pv = _ := fun pv => (HDC.out pv).trans (if_neg hf)
  have HDQ := HDP.out.trans (if_neg hf)
  have h7 : 7 ≤ A.length := by omega
  have sm := signA_bd HB.out 1 2 (by omega) (by omega) (by omega)
  have sb := signA_bd HB.out 3 2 (by omega) (by omega) (by omega)
  have s1 := signA_bd HB.out 5 1 (by omega) (by omega) (by omega)
  have s2 := signA_bd HB.out 6 1 (by omega) (by omega) (by omega)
  obtain ⟨nm, hm⟩ : ∃ nm, nm = signA A 1 2 := ⟨_, rfl⟩
  obtain ⟨nb, hnb⟩ : ∃ nb, nb = signA A 3 2 := ⟨_, rfl⟩
  obtain ⟨n1, hn1⟩ : ∃ n1, n1 = signA A 5 1 := ⟨_, rfl⟩
  obtain ⟨n2, hn2⟩ : ∃ n2, n2 = signA A 6 1 := ⟨_, rfl⟩
  rw [← hm, ← hnb, ← hn1, ← hn2] at HDK
  rw [← hm] at sm
  rw [← hnb] at sb
  rw [← hn1] at s1
  rw [← hn2] at s2
  replace HDK := Lib.hid HDK
  replace HDQ := Lib.hid HDQ
  replace hm := Lib.hid hm
  replace hnb := Lib.hid hnb
  replace hn1 := Lib.hid hn1
  replace hn2 := Lib.hid hn2
  have HS := Lib.hid (⟨sm, sb, s1, s2⟩ : I64 nm ∧ I64 nb ∧ I64 n1 ∧ I64 n2)
  clear sm sb s1 s2 hf HDC HDP hl
  go_enter Try.func60, Try.ntmps60
  go_wp2_with (refine wpList_store_row (cs := zK.cells) rfl 26 (.tmp 5) (.tmp 10) rfl HR1.out (by rfl) (by rfl) rfl Try.infoC zK_one ?_; intro w2 R2 M2; have HR2 := Lib.hid R2; have HQ2 := Lib.hid (M2.heap (heap_alloc (o' := .cells zK.cells 26) R0.out) (by simp)); have HM2 := Lib.hid ((M0.out.alloc (.cells zK.cells 26)).comp M2 (fun k hk => by simp at hk; exact .inr (by omega))); have hz2 := lt_of_block R2; clear R2 M2)
  go_wp2_with fail
  try dsimp only [Act.put]
  refine heldStart (S := fun W => W.cell? ⟨bb, off, none⟩ = some (.int .u8 x)) 12 rfl (by kernel_rfl) (HM2.out.drew.cell HX0.out (by simp)) (fun hHeld => ?_)
  refine takeD (i := 0) (d := 15) (v := ?_) rfl rfl (by kernel_rfl) (by kernel_rfl) (by kernel_rfl) (fun _ _ _ h => h) (Or.inl ⟨by rfl, ?_⟩) hHeld ?_
  rotate_left 1
  · (intro w hSw; (try dsimp only at hSw); go_simp; (try with_reducible rfl))
  simp only [List.setIfInBounds_toArray, List.set_cons_zero, List.set_cons_succ]
  refine takeD (i := 1) (d := 16) (v := ?_) rfl rfl (by kernel_rfl) (by kernel_rfl) (by kernel_rfl) (fun _ _ _ h => h) (Or.inl ⟨by rfl, ?_⟩) hHeld ?_
  rotate_left 1
  · (intro w hSw; (try dsimp only at hSw); go_simp; (try with_reducible rfl))
  simp only [List.setIfInBounds_toArray, List.set_cons_zero, List.set_cons_succ]
  refine takeD (i := 2) (d := 17) (v := ?_) rfl rfl (by kernel_rfl) (by kernel_rfl) (by kernel_rfl) (fun _ _ _ h => h) (Or.inl ⟨by rfl, ?_⟩) hHeld ?_
  rotate_left 1
  · (intro w hSw; (try dsimp only at hSw); go_simp; (try with_reducible rfl))
  simp only [List.setIfInBounds_toArray, List.set_cons_zero, List.set_cons_succ]
  refine takeD (i := 3) (d := 18) (v := ?_) rfl rfl (by kernel_rfl) (by kernel_rfl) (by kernel_rfl) (fun _ _ _ h => h) (Or.inl ⟨by rfl, ?_⟩) hHeld ?_
  rotate_left 1
  · (intro w hSw; (try dsimp only at hSw); go_simp; (try with_reducible rfl))
  simp only [List.setIfInBounds_toArray, List.set_cons_zero, List.set_cons_succ]
  refine takeD (i := 4) (d := 19) (v := ?_) rfl rfl (by kernel_rfl) (by kernel_rfl) (by kernel_rfl) (fun _ _ _ h => h) (Or.inl ⟨by rfl, ?_⟩) hHeld ?_
  rotate_left 1
  · (intro w hSw; (try dsimp only at hSw); go_simp; (try with_reducible rfl))
  simp only [List.setIfInBounds_toArray, List.set_cons_zero, List.set_cons_succ]
  refine takeD (i := 5) (d := 20) (v := ?_) rfl rfl (by kernel_rfl) (by kernel_rfl) (by kernel_rfl) (fun _ _ _ h => h) (Or.inl ⟨by rfl, ?_⟩) hHeld ?_
  rotate_left 1
  · (intro w hSw; (try dsimp only at hSw); go_simp; (try with_reducible rfl))
  simp only [List.setIfInBounds_toArray, List.set_cons_zero, List.set_cons_succ]
  refine takeD (i := 6) (d := 21) (v := ?_) rfl rfl (by kernel_rfl) (by kernel_rfl) (by kernel_rfl) (fun _ _ _ h => h) (Or.inl ⟨by rfl, ?_⟩) hHeld ?_
  rotate_left 1
  · (intro w hSw; (try dsimp only at hSw); go_simp; (try with_reducible rfl))
  simp only [List.setIfInBounds_toArray, List.set_cons_zero, List.set_cons_succ]
  refine takeD (i := 7) (d := 22) (v := ?_) rfl rfl (by kernel_rfl) (by kernel_rfl) (by kernel_rfl) (fun _ _ _ h => h) (Or.inl ⟨by rfl, ?_⟩) hHeld ?_
  rotate_left 1
  · (intro w hSw; (try dsimp only at hSw); go_simp; (try with_reducible rfl))
  simp only [List.setIfInBounds_toArray, List.set_cons_zero, List.set_cons_succ]
  refine takeD (i := 8) (d := 23) (v := ?_) rfl rfl (by kernel_rfl) (by kernel_rfl) (by kernel_rfl) (fun _ _ _ h => h) (Or.inl ⟨by rfl, ?_⟩) hHeld ?_
  rotate_left 1
  · (intro w hSw; (try dsimp only at hSw); go_simp; (try with_reducible rfl))
  simp only [List.setIfInBounds_toArray, List.set_cons_zero, List.set_cons_succ]
  refine takeD (i := 9) (d := 24) (v := ?_) rfl rfl (by kernel_rfl) (by kernel_rfl) (by kernel_rfl) (fun _ _ _ h => h) (Or.inl ⟨by rfl, ?_⟩) hHeld ?_
  rotate_left 1
  · (intro w hSw; (try dsimp only at hSw); go_simp; (try with_reducible rfl))
  simp only [List.setIfInBounds_toArray, List.set_cons_zero, List.set_cons_succ]
  refine wpAnyH_ready (rs := [10]) (by kernel_rfl) (by simp) ?_
  refine AllReadyH.cons rfl (fun K hK => ?_) AllReadyH.nil
  go_simp
  refine hK.out _ _ ?_ (fun hHeld => ?_)
  · exact ((Mods.refl (S := [])).alloc _).cell hHeld (by simp)
  clear hK K
  have HMA := Lib.hid (HM2.out.drew.alloc (.cells zK.cells 26))
  have HRA := Lib.hid (heap_alloc (o' := .cells zK.cells 26) (heap_drew HR2.out))
  have HQA := Lib.hid (heap_alloc (o' := .cells zK.cells 26) (heap_drew HQ2.out))
  have RGA : (w2.drew.alloc (.cells zK.cells 26)).heap[w2.heap.size]? = some (.cells zK.cells 26 (0, 0)) := heap_alloc_new w2.drew _
  have hz3 : w.heap.size + 1 < w2.heap.size := hz2
  refine wpAnyH_ready (rs := [11]) (by kernel_rfl) (by simp) ?_
  refine AllReadyH.cons rfl (fun K hK => ?_) AllReadyH.nil
  refine exec_store rfl rfl rfl RGA rfl rfl (by rfl) Try.infoC (cvC_one f sg 0 0 0 0 none 0 0) (fun w3 R3 M3 => ?_)
  refine hK.out _ _ ?_ (fun hHeld => ?_)
  · exact M3.cell hHeld (by simp; omega)
  clear hK K
  refine wpAnyH_done (by kernel_rfl) ?_ _
  have HM3 := Lib.hid (HMA.out.comp M3 (fun k hk => by simp at hk; exact .inr (by omega)))
  have HR3 := Lib.hid (M3.heap HRA.out (by simp; omega))
  have HQ3 := Lib.hid (M3.heap HQA.out (by simp; omega))
  have HG3 : Hid (w3.heap[w2.heap.size]? = some (.cells (cvC f sg 0 0 0 0 (.slice none 0 0)) 26 (0, 0))) := Lib.hid R3
  have cg0 : w3.cell? ⟨w2.heap.size, 0, none⟩ = some (.int .i64 f) := (cell_blk R3 0).trans rfl
  clear hHeld HMA HRA HQA RGA R3 M3 HM2 HR2 HQ2
  generalize w2.heap.size = g6 at HG3 cg0 hz3 ⊢
  clear ea es ew
  have i7 : (7 : Int) ≤ (A.length : Int) := by omega
  have j3 : (3 : Int) ≤ (cap : Int) := by omega
  have j5 : (5 : Int) ≤ (cap : Int) := by omega
  have j6 : (6 : Int) ≤ (cap : Int) := by omega
  have j7 : (7 : Int) ≤ (cap : Int) := by omega
  have k1 : ¬ cap = 1 := by omega
  have k3 : ¬ cap = 3 := by omega
  have k5 : ¬ cap = 5 := by omega
  have k6 : ¬ cap = 6 := by omega
  have cx : w3.cell? ⟨g6, 2, none⟩ = some (.int .i64 0) := (cell_blk HG3.out 2).trans rfl
  have fx : w3.frozen? ⟨g6, 2, none⟩ = false := froz_blk HG3.out 2
  go_wp2_with fail
  clear cg0
  refine (refSigned_at _ _ A 1 2 nm hm.out ((HV.out.mods0 HM3.out).sub 1 3 (by omega) (by omega)) HB.out (by decide) (by decide) (by omega)).mono ?_
  rintro e w' ⟨rfl, rfl⟩
  clear cx fx
  have HM4 := Lib.hid (HM3.out.setCell (p := ⟨g6, 2, none⟩) (.inr (by show w.heap.size ≤ g6; omega)) (.int .i64 nm))
  have HG4 := Lib.hid (heap_setCell (i := 2) (v := .int .i64 nm) HG3.out)
  have HQ4 := Lib.hid (heap_setCell_ne (a := ⟨g6, 2, none⟩) (v := .int .i64 nm) HQ3.out (by show w.heap.size ≠ g6; omega))
  have HR4 := Lib.hid (heap_setCell_ne (a := ⟨g6, 2, none⟩) (v := .int .i64 nm) HR3.out (by show w.heap.size + 1 ≠ g6; omega))
  have cx : w3.cell? ⟨g6, 2, none⟩ = some (.int .i64 0) := (cell_blk HG3.out 2).trans rfl
  have fx : w3.frozen? ⟨g6, 2, none⟩ = false := froz_blk HG3.out 2
  clear HM3 HG3 HQ3 HR3
  go_wp2_with fail
  generalize w3.setCell ⟨g6, 2, none⟩ (.int .i64 nm) = w4 at HM4 HG4 HQ4 HR4 ⊢
  refine (refSigned_at _ _ A 3 2 nb hnb.out ((HV.out.mods0 HM4.out).sub 3 5 (by omega) (by omega)) HB.out (by decide) (by decide) (by omega)).mono ?_
  rintro e w' ⟨rfl, rfl⟩
  clear cx fx
  have HM5 := Lib.hid (HM4.out.setCell (p := ⟨g6, 3, none⟩) (.inr (by show w.heap.size ≤ g6; omega)) (.int .i64 nb))
  have HG5 := Lib.hid (heap_setCell (i := 3) (v := .int .i64 nb) HG4.out)
  have HQ5 := Lib.hid (heap_setCell_ne (a := ⟨g6, 3, none⟩) (v := .int .i64 nb) HQ4.out (by show w.heap.size ≠ g6; omega))
  have HR5 := Lib.hid (heap_setCell_ne (a := ⟨g6, 3, none⟩) (v := .int .i64 nb) HR4.out (by show w.heap.size + 1 ≠ g6; omega))
  have cx : w4.cell? ⟨g6, 3, none⟩ = some (.int .i64 0) := (cell_blk HG4.out 3).trans rfl
  have fx : w4.frozen? ⟨g6, 3, none⟩ = false := froz_blk HG4.out 3
  clear HM4 HG4 HQ4 HR4
  go_wp2_with fail
  generalize w4.setCell ⟨g6, 3, none⟩ (.int .i64 nb) = w5 at HM5 HG5 HQ5 HR5 ⊢
  refine (refSigned_at _ _ A 5 1 n1 hn1.out ((HV.out.mods0 HM5.out).sub 5 6 (by omega) (by omega)) HB.out (by decide) (by decide) (by omega)).mono ?_
  rintro e w' ⟨rfl, rfl⟩
  clear cx fx
  have HM6 := Lib.hid (HM5.out.setCell (p := ⟨g6, 4, none⟩) (.inr (by show w.heap.size ≤ g6; omega)) (.int .i64 n1))
  have HG6 := Lib.hid (heap_setCell (i := 4) (v := .int .i64 n1) HG5.out)
  have HQ6 := Lib.hid (heap_setCell_ne (a := ⟨g6, 4, none⟩) (v := .int .i64 n1) HQ5.out (by show w.heap.size ≠ g6; omega))
  have HR6 := Lib.hid (heap_setCell_ne (a := ⟨g6, 4, none⟩) (v := .int .i64 n1) HR5.out (by show w.heap.size + 1 ≠ g6; omega))
  have cx : w5.cell? ⟨g6, 4, none⟩ = some (.int .i64 0) := (cell_blk HG5.out 4).trans rfl
  have fx : w5.frozen? ⟨g6, 4, none⟩ = false := froz_blk HG5.out 4
  clear HM5 HG5 HQ5 HR5
  go_wp2_with fail
  generalize w5.setCell ⟨g6, 4, none⟩ (.int .i64 n1) = w6 at HM6 HG6 HQ6 HR6 ⊢
  refine (refSigned_at _ _ A 6 1 n2 hn2.out ((HV.out.mods0 HM6.out).sub 6 7 (by omega) (by omega)) HB.out (by decide) (by decide) (by omega)).mono ?_
  rintro e w' ⟨rfl, rfl⟩
  clear cx fx
  have HM7 := Lib.hid (HM6.out.setCell (p := ⟨g6, 5, none⟩) (.inr (by show w.heap.size ≤ g6; omega)) (.int .i64 n2))
  have HG7 := Lib.hid (heap_setCell (i := 5) (v := .int .i64 n2) HG6.out)
  have HQ7 := Lib.hid (heap_setCell_ne (a := ⟨g6, 5, none⟩) (v := .int .i64 n2) HQ6.out (by show w.heap.size ≠ g6; omega))
  have HR7 := Lib.hid (heap_setCell_ne (a := ⟨g6, 5, none⟩) (v := .int .i64 n2) HR6.out (by show w.heap.size + 1 ≠ g6; omega))
  have cx : w6.cell? ⟨g6, 5, none⟩ = some (.int .i64 0) := (cell_blk HG6.out 5).trans rfl
  have fx : w6.frozen? ⟨g6, 5, none⟩ = false := froz_blk HG6.out 5
  clear HM6 HG6 HQ6 HR6
  have HG7 : Hid ((w6.setCell ⟨g6, 5, none⟩ (.int .i64 n2)).heap[g6]? = some (.cells (cvC f sg nm nb n1 n2 (.slice none 0 0)) 26 (0, 0))) := Lib.hid HG7.out
  obtain ⟨sm, sb, s1, s2⟩ := HS.out
  have HC : Hid (IsConv (w6.setCell ⟨g6, 5, none⟩ (.int .i64 n2)) ⟨f, sg, nm, nb, n1, n2, .slice none 0 0⟩ []) := Lib.hid ⟨(RdPts.nil _), PtsOk.nil, show I64 f from i64_small ⟨by omega, by omega⟩, sm, sb, s1, s2⟩
  have HE0 : Hid (errC A = if convB ⟨f, sg, nm, nb, n1, n2, .slice none 0 0⟩ [] then 0 else 1) := Lib.hid (by rw [HU.out, HDK.out, HDQ.out] <;> rfl)
  clear HU sm sb s1 s2
  go_wp2_with (refine wpList_load_row rfl 26 (.tmp 6) rfl g6 (by rfl) _ _ _ _ HG7.out Try.underlying26 rfl Try.infoC ?_)
  refine (refConvValid_ok _ ⟨f, sg, nm, nb, n1, n2, .slice none 0 0⟩ [] HC.out).mono ?_
  rintro e w8 ⟨rfl, M8⟩
  have HM8 := Lib.hid (HM7.out.trans M8)
  have HM78 := Lib.hid M8
  have HG8 := Lib.hid (M8.heap HG7.out (by simp))
  have HQ8 := Lib.hid (M8.heap HQ7.out (by simp))
  have HR8 := Lib.hid (M8.heap HR7.out (by simp))
  clear HM7 HG7 HQ7 HR7 HC
  cases hv : convB ⟨f, sg, nm, nb, n1, n2, .slice none 0 0⟩ [] with
  | false =>
    have HR := Lib.hid (show errC A = 1 by rw [HE0.out, hv]; rfl)
    clear hv HE0
    go_wp2_with (first
      | (refine wpList_load_row rfl 26 (.tmp 5) rfl (w.heap.size + 1) (by rfl) _ _ _ _ HR8.out Try.underlying26 rfl Try.infoC ?_)
      | (refine wpList_store_row (cs := zK.cells) rfl 26 (.tmp 2) (.tmp 113) rfl HQ8.out (by rfl) (by rfl) rfl Try.infoC zK_one ?_; intro w9 R9 M9))
    have HMX := HM8.out.comp M9 (fun k hk => by simp at hk; exact .inr (by omega))
    refine bodyPost_ret (results_cell_row3 rfl _ _ w.heap.size _ _ _ _ rfl R9 Try.underlying26 rfl Try.infoC) rfl ?_
    have := HE.out _ (by rw [HR.out]; decide) HMX
    rw [HR.out] at this
    exact this
  | true =>
    have HR := Lib.hid (show errC A = 0 by rw [HE0.out, hv]; rfl)
    clear hv HE0
    go_wp2_with (first
      | (refine wpList_load_row rfl 26 (.tmp 6) rfl g6 (by rfl) _ _ _ _ HG8.out Try.underlying26 rfl Try.infoC ?_)
      | (refine wpList_store_row (cs := (cvC f sg nm nb n1 n2 (.slice none 0 0))) rfl 26 (.tmp 2) (.tmp 114) rfl HQ8.out (by rfl) (by rfl) rfl Try.infoC (cvC_one _ _ _ _ _ _ _ _ _) ?_; intro w9 R9 M9))
    have HM9 := HM8.out.comp M9 (fun k hk => by simp at hk; exact .inr (by omega))
    refine bodyPost_ret (results_cell_row3 rfl _ _ w.heap.size _ _ _ _ rfl R9 Try.underlying26 rfl Try.infoC) rfl ?_
    show DecRes w A _ _
    unfold DecRes
    rw [if_pos HR.out, HDQ.out, HLC.out]
    exact ⟨_, (by rw [HDK.out]; rfl), (OwnPts.nil _ _), HM9⟩
end Go.Proofs.Ytijjkonephjodaa

namespace Go.Proofs.Ytijjkonephjodaa
open Go.RowKit

theorem ptsOf_succ (A : List Int) (k : Nat) : ptsOf A (k + 1) = ptsOf A k ++ [⟨(A.getD (2 + 7 * k) 0).toNat, signA A (3 + 7 * k) 6⟩] := by
  unfold ptsOf; rw [List.range_succ, List.map_append]; rfl
set_option maxRecDepth 100000 in
set_option maxHeartbeats 4000000 in
theorem refDec_tab (w : World) (v : Value) (A : List Int) (hv : Rd w v (u8s A)) (hb : Bytes A) (h0 : A ≠ []) (hf : A.getD 0 0 % 128 = 5) (hl : A.length ≠ 1) (hy : ¬ (A.getD 1 0 < 2 ∨ 12 < A.getD 1 0)) (hc : ¬ (A.length : Int) < 2 + 7 * A.getD 1 0) :
    Calls Try.prog 60 #[v] w fun e w' => DecRes w A e w' := by
  have HU := Lib.hid (errC_val (lenC_tab h0 hf hl hy) hc)
  have HLC := Lib.hid (lenC_tab h0 hf hl hy)
  have HV := Lib.hid hv
  have HB := Lib.hid hb
  obtain ⟨ad, cap, rfl, h1, h2, -⟩ := hv.u8
  have h3 : cap ≤ 9223372036854775807 := h2
  clear hv hb h2
  have HE : Hid (∀ W, errC A ≠ 0 → Mods [] w W → DecRes w A (.returned (.tuple #[.agg zK.cells, .int .i64 0, .int .i64 (errC A)])) W) := Lib.hid fun W h M => by unfold DecRes; rw [if_neg h]; exact ⟨rfl, M⟩
  have R0 := Lib.hid (heap_alloc_new w (.cells zK.cells 26))
  have M0 := Lib.hid ((Mods.refl (S := []) (w := w)).alloc (.cells zK.cells 26))
  have R1 : ((w.alloc (.cells zK.cells 26)).alloc (.cells zK.cells 26)).heap[w.heap.size + 1]? = some (.cells zK.cells 26 (0, 0)) := by
    have := heap_alloc_new (w.alloc (.cells zK.cells 26)) (.cells zK.cells 26)
    rwa [World.size_alloc] at this
  have HR1 := Lib.hid R1
  clear R1
  have hp : 0 < A.length := List.length_pos_iff.2 h0
  obtain ⟨_, _, he, _, _, hc0⟩ := HV.out.u8
  obtain ⟨bb, off, rfl, x0⟩ := hc0 0 hp
  injection he with he1 he2 he3
  subst he1 he3
  have HCC := Lib.hid (fun i (hi : i < A.length) => show w.cell? ⟨bb, off + i, none⟩ = some (.int .u8 (A.getD i 0)) from by
    obtain ⟨b', o', he, hx⟩ := hc0 i hi
    cases he
    exact hx)
  clear hc0 he2 h0
  rw [Nat.add_zero] at x0
  have hbb : bb < w.heap.size := World.block_lt_of_cell? w _ x0
  have HX0 := Lib.hid x0
  have hb0 := HB.out 0
  have HDC := Lib.hid (show ∀ pv, decC A pv = if A.getD 0 0 % 128 = 5 then ⟨5, decide (128 ≤ A.getD 0 0), 0, 0, 0, 0, pv⟩ else ⟨A.getD 0 0 % 128, decide (128 ≤ A.getD 0 0), signA A 1 2, signA A 3 2, signA A 5 1, signA A 6 1, pv⟩ from fun _ => rfl)
  have HDP := Lib.hid (show decP A = if A.getD 0 0 % 128 = 5 then ptsOf A (A.getD 1 0).toNat else [] from rfl)
  clear x0
  generalize A.getD 0 0 = x at *
  obtain ⟨hb00, hb01⟩ := hb0
  have ea : x.tmod 128 = x % 128 := Int.tmod_eq_emod_of_nonneg hb00
  have ew : IntKind.i64.wrap x = x := IntWalk.i64_in _ (by omega)
  have i0 : (0 : Int) < (A.length : Int) := by omega
  have hfr : 0 ≤ x % 128 ∧ x % 128 ≤ 127 := by omega
  generalize x % 128 = f at *
  obtain ⟨hfa, hfb⟩ := hfr
  have es : ∀ W : World, True := fun _ => trivial
  clear es
  generalize hsg : decide (128 ≤ x) = sg at HDC
  have es : decide (x ≥ 128) = sg := hsg
  clear hsg
  have hl2 : 2 ≤ A.length := by omega
  have i1 : (1 : Int) < (A.length : Int) := by omega
  have d4 : decide ((A.length : Int) < 2) = false := decide_eq_false (by omega)
  have HX1 := Lib.hid (HCC.out 1 (by omega))
  have hb1 := HB.out 1
  generalize A.getD 1 0 = y at *
  have HDK : ∀ pv, decC A pv = _ := fun pv => (HDC.out pv).trans (if_pos hf)
  have HDQ := HDP.out.trans (if_pos hf)
  subst hf
  obtain ⟨k, rfl⟩ : ∃ k : Nat, y = (k : Int) := ⟨y.toNat, by omega⟩
  rw [Int.toNat_natCast] at HDQ
  replace HDK := Lib.hid HDK
  replace HDQ := Lib.hid HDQ
  have d5 : decide ((k : Int) < 2) = false := decide_eq_false (by omega)
  have d6 : decide ((k : Int) > 12) = false := decide_eq_false (by omega)
  have d7 : decide ((A.length : Int) < 2 + 7 * (k : Int)) = false := decide_eq_false hc
  have hk2 : 2 ≤ k := by omega
  have hk12 : k ≤ 12 := by omega
  have hkA : 2 + 7 * k ≤ A.length := by omega
  clear hy hc HDC HDP
  go_enter Try.func60, Try.ntmps60
  go_wp2_with (refine wpList_store_row (cs := zK.cells) rfl 26 (.tmp 5) (.tmp 10) rfl HR1.out (by rfl) (by rfl) rfl Try.infoC zK_one ?_; intro w2 R2 M2; have HR2 := Lib.hid R2; have HQ2 := Lib.hid (M2.heap (heap_alloc (o' := .cells zK.cells 26) R0.out) (by simp)); have HM2 := Lib.hid ((M0.out.alloc (.cells zK.cells 26)).comp M2 (fun k hk => by simp at hk; exact .inr (by omega))); have hz2 := lt_of_block R2; clear R2 M2)
  go_wp2_with fail
  try dsimp only [Act.put]
  refine heldStart (S := fun W => W.cell? ⟨bb, off, none⟩ = some (.int .u8 x)) 12 rfl (by kernel_rfl) (HM2.out.drew.cell HX0.out (by simp)) (fun hHeld => ?_)
  refine takeD (i := 0) (d := 15) (v := ?_) rfl rfl (by kernel_rfl) (by kernel_rfl) (by kernel_rfl) (fun _ _ _ h => h) (Or.inl ⟨by rfl, ?_⟩) hHeld ?_
  rotate_left 1
  · (intro w hSw; (try dsimp only at hSw); go_simp; (try with_reducible rfl))
  simp only [List.setIfInBounds_toArray, List.set_cons_zero, List.set_cons_succ]
  refine takeD (i := 1) (d := 16) (v := ?_) rfl rfl (by kernel_rfl) (by kernel_rfl) (by kernel_rfl) (fun _ _ _ h => h) (Or.inl ⟨by rfl, ?_⟩) hHeld ?_
  rotate_left 1
  · (intro w hSw; (try dsimp only at hSw); go_simp; (try with_reducible rfl))
  simp only [List.setIfInBounds_toArray, List.set_cons_zero, List.set_cons_succ]
  refine takeD (i := 2) (d := 17) (v := ?_) rfl rfl (by kernel_rfl) (by kernel_rfl) (by kernel_rfl) (fun _ _ _ h => h) (Or.inl ⟨by rfl, ?_⟩) hHeld ?_
  rotate_left 1
  · (intro w hSw; (try dsimp only at hSw); go_simp; (try with_reducible rfl))
  simp only [List.setIfInBounds_toArray, List.set_cons_zero, List.set_cons_succ]
  refine takeD (i := 3) (d := 18) (v := ?_) rfl rfl (by kernel_rfl) (by kernel_rfl) (by kernel_rfl) (fun _ _ _ h => h) (Or.inl ⟨by rfl, ?_⟩) hHeld ?_
  rotate_left 1
  · (intro w hSw; (try dsimp only at hSw); go_simp; (try with_reducible rfl))
  simp only [List.setIfInBounds_toArray, List.set_cons_zero, List.set_cons_succ]
  refine takeD (i := 4) (d := 19) (v := ?_) rfl rfl (by kernel_rfl) (by kernel_rfl) (by kernel_rfl) (fun _ _ _ h => h) (Or.inl ⟨by rfl, ?_⟩) hHeld ?_
  rotate_left 1
  · (intro w hSw; (try dsimp only at hSw); go_simp; (try with_reducible rfl))
  simp only [List.setIfInBounds_toArray, List.set_cons_zero, List.set_cons_succ]
  refine takeD (i := 5) (d := 20) (v := ?_) rfl rfl (by kernel_rfl) (by kernel_rfl) (by kernel_rfl) (fun _ _ _ h => h) (Or.inl ⟨by rfl, ?_⟩) hHeld ?_
  rotate_left 1
  · (intro w hSw; (try dsimp only at hSw); go_simp; (try with_reducible rfl))
  simp only [List.setIfInBounds_toArray, List.set_cons_zero, List.set_cons_succ]
  refine takeD (i := 6) (d := 21) (v := ?_) rfl rfl (by kernel_rfl) (by kernel_rfl) (by kernel_rfl) (fun _ _ _ h => h) (Or.inl ⟨by rfl, ?_⟩) hHeld ?_
  rotate_left 1
  · (intro w hSw; (try dsimp only at hSw); go_simp; (try with_reducible rfl))
  simp only [List.setIfInBounds_toArray, List.set_cons_zero, List.set_cons_succ]
  refine takeD (i := 7) (d := 22) (v := ?_) rfl rfl (by kernel_rfl) (by kernel_rfl) (by kernel_rfl) (fun _ _ _ h => h) (Or.inl ⟨by rfl, ?_⟩) hHeld ?_
  rotate_left 1
  · (intro w hSw; (try dsimp only at hSw); go_simp; (try with_reducible rfl))
  simp only [List.setIfInBounds_toArray, List.set_cons_zero, List.set_cons_succ]
  refine takeD (i := 8) (d := 23) (v := ?_) rfl rfl (by kernel_rfl) (by kernel_rfl) (by kernel_rfl) (fun _ _ _ h => h) (Or.inl ⟨by rfl, ?_⟩) hHeld ?_
  rotate_left 1
  · (intro w hSw; (try dsimp only at hSw); go_simp; (try with_reducible rfl))
  simp only [List.setIfInBounds_toArray, List.set_cons_zero, List.set_cons_succ]
  refine takeD (i := 9) (d := 24) (v := ?_) rfl rfl (by kernel_rfl) (by kernel_rfl) (by kernel_rfl) (fun _ _ _ h => h) (Or.inl ⟨by rfl, ?_⟩) hHeld ?_
  rotate_left 1
  · (intro w hSw; (try dsimp only at hSw); go_simp; (try with_reducible rfl))
  simp only [List.setIfInBounds_toArray, List.set_cons_zero, List.set_cons_succ]
  refine wpAnyH_ready (rs := [10]) (by kernel_rfl) (by simp) ?_
  refine AllReadyH.cons rfl (fun K hK => ?_) AllReadyH.nil
  go_simp
  refine hK.out _ _ ?_ (fun hHeld => ?_)
  · exact ((Mods.refl (S := [])).alloc _).cell hHeld (by simp)
  clear hK K
  have HMA := Lib.hid (HM2.out.drew.alloc (.cells zK.cells 26))
  have HRA := Lib.hid (heap_alloc (o' := .cells zK.cells 26) (heap_drew HR2.out))
  have HQA := Lib.hid (heap_alloc (o' := .cells zK.cells 26) (heap_drew HQ2.out))
  have RGA : (w2.drew.alloc (.cells zK.cells 26)).heap[w2.heap.size]? = some (.cells zK.cells 26 (0, 0)) := heap_alloc_new w2.drew _
  have hz3 : w.heap.size + 1 < w2.heap.size := hz2
  refine wpAnyH_ready (rs := [11]) (by kernel_rfl) (by simp) ?_
  refine AllReadyH.cons rfl (fun K hK => ?_) AllReadyH.nil
  refine exec_store rfl rfl rfl RGA rfl rfl (by rfl) Try.infoC (cvC_one 5 sg 0 0 0 0 none 0 0) (fun w3 R3 M3 => ?_)
  refine hK.out _ _ ?_ (fun hHeld => ?_)
  · exact M3.cell hHeld (by simp; omega)
  clear hK K
  refine wpAnyH_done (by kernel_rfl) ?_ _
  have HM3 := Lib.hid (HMA.out.comp M3 (fun k hk => by simp at hk; exact .inr (by omega)))
  have HR3 := Lib.hid (M3.heap HRA.out (by simp; omega))
  have HQ3 := Lib.hid (M3.heap HQA.out (by simp; omega))
  have HG3 : Hid (w3.heap[w2.heap.size]? = some (.cells (cvC 5 sg 0 0 0 0 (.slice none 0 0)) 26 (0, 0))) := Lib.hid R3
  have cg0 : w3.cell? ⟨w2.heap.size, 0, none⟩ = some (.int .i64 5) := (cell_blk R3 0).trans rfl
  clear hHeld HMA HRA HQA RGA R3 M3 HM2 HR2 HQ2
  generalize w2.heap.size = g6 at HG3 cg0 hz3 ⊢
  clear ea es ew
  have x1 : w3.cell? ⟨bb, off + 1, none⟩ = some (.int .u8 (k : Int)) := HM3.out.cell HX1.out (by simp)
  go_wp2_with fail
  have hg6 := lt_of_block HG3.out
  have HI : Hid (Lp w w3 w3.heap.size g6 w.heap.size (w.heap.size + 1) (w.heap.size + 1) sg (.slice none 0 0) w3) := Lib.hid ⟨HG3.out, HQ3.out, HM3.out, KeepsFrom.refl _ _, KeepB.refl, Nat.le_refl _⟩
  have LO : Lo w w3.heap.size g6 w.heap.size (w.heap.size + 1) (w.heap.size + 1) := ⟨by omega, by omega, by omega, by omega, by omega, by omega, by omega, by omega, by omega⟩
  have HLO := Lib.hid LO
  have HR0 := Lib.hid HR3.out
  have hB0 : w.heap.size ≤ w3.heap.size := by omega
  clear LO HM3 HG3 HQ3 cg0 x1 HR3
  generalize w3.heap.size = B0 at HI HLO hg6 hB0
  go_loopw [8, 9] (fun i x wr => ∃ (j : Nat) (pv : Value), j ≤ k ∧ i = .int .i64 j ∧ x = x ∧ Hid (Lp w wr B0 g6 w.heap.size (w.heap.size + 1) (w.heap.size + 1) sg pv wr) ∧ Hid (OwnPts wr B0 pv (ptsOf A j)) ∧ Hid (wr.heap[w.heap.size + 1]? = some (.cells zK.cells 26 (0, 0)))) (fun i _ _ => k - (intOf i).toNat)
  case atStart => exact ⟨0, _, Nat.zero_le _, rfl, rfl, HI, OwnPts.nil _ _, HR0.out⟩
  case round =>
    obtain ⟨j, pv, hj, rfl, _, HL, HO, HR⟩ := hrel
    clear HI HR0
    have x1 : wr.cell? ⟨bb, off + 1, none⟩ = some (.int .u8 k) := HL.out.M.cell HX1.out (by simp)
    by_cases hlt : j < k
    · have HBY := Lib.hid (fun i (hi : i < 7) => show w.cell? ⟨bb, off + (2 + 7 * j + i), none⟩ = some (.int .u8 (A.getD (2 + 7 * j + i) 0)) from HCC.out (2 + 7 * j + i) (by omega))
      have c0 := HBY.out 0 (by omega)
      simp only [Nat.add_zero] at c0
      have hbx := HB.out (2 + 7 * j)
      obtain ⟨rr, hrr⟩ : ∃ rr : Nat, A.getD (2 + 7 * j) 0 = (rr : Int) := ⟨(A.getD (2 + 7 * j) 0).toNat, by omega⟩
      rw [hrr] at c0 hbx
      have HPS := ptsOf_succ A j
      rw [hrr, Int.toNat_natCast] at HPS
      replace HPS := Lib.hid HPS
      have hP := Lib.hid (show (ptsOf A j).length = j by simp [ptsOf])
      generalize ptsOf A j = P at HO hP HPS
      clear hrr hbx
      have HRD : Hid (∀ W' : World, Mods [] w W' → Rd W' (.slice (some ⟨bb, off + (2 + 7 * j + 1), none⟩) 6 (cap - (2 + 7 * j + 1))) (u8s ((A.drop (3 + 7 * j)).take 6))) := Lib.hid (fun W' M => by
        have := (HV.out.mods0 M).sub (3 + 7 * j) (9 + 7 * j) (by omega) (by omega)
        rw [show 9 + 7 * j - (3 + 7 * j) = 6 by omega, show 3 + 7 * j = 2 + 7 * j + 1 by omega] at this
        rw [show 3 + 7 * j = 2 + 7 * j + 1 by omega]
        exact this)
      obtain ⟨sv, hsv⟩ : ∃ sv, sv = signA A (3 + 7 * j) 6 := ⟨_, rfl⟩
      rw [← hsv] at HPS
      replace hsv := Lib.hid hsv
      have i1 : (0 : Int) ≤ (j : Int) := by omega
      have i2 : (j : Int) < (k : Int) := by omega
      have i3 : (j : Int) ≤ 11 := by omega
      have e0 : (2 + 7 * (j : Int)).toNat = 2 + 7 * j := by omega
      have e1 : (2 + 7 * (j : Int) + 1).toNat = 2 + 7 * j + 1 := by omega
      have e2 : (2 + 7 * (j : Int) + 7).toNat = 2 + 7 * j + 7 := by omega
      have e3 : 2 + 7 * j + 7 - (2 + 7 * j + 1) = 6 := by omega
      have e4 : ¬ cap = 2 + 7 * j + 1 := by omega
      have q0 : (0 : Int) ≤ 2 + 7 * (j : Int) := by omega
      have q1 : 2 + 7 * (j : Int) < (A.length : Int) := by omega
      have q2 : 2 + 7 * (j : Int) + 7 ≤ (cap : Int) := by omega
      have q3 : 2 + 7 * (j : Int) + 1 ≤ 2 + 7 * (j : Int) + 7 := by omega
      have q4 : (0 : Int) ≤ 2 + 7 * (j : Int) + 1 := by omega
      have q5 : (0 : Int) ≤ 2 + 7 * (j : Int) + 7 := by omega
      go_wp2_with fail
      try dsimp only [Act.put]
      clear x1
      have w1 : IntKind.i64.wrap (2 + 7 * (j : Int) + 7) = 2 + 7 * (j : Int) + 7 := IntWalk.i64_in _ (by omega)
      have w2 : IntKind.i64.wrap (2 + 7 * (j : Int) + 1) = 2 + 7 * (j : Int) + 1 := IntWalk.i64_in _ (by omega)
      have m0 : max (2 + 7 * (j : Int) + 7) 0 = 2 + 7 * (j : Int) + 7 := by omega
      refine heldStartL (S := Lp w wr B0 g6 w.heap.size (w.heap.size + 1) (w.heap.size + 1) sg pv) 17 18 rfl (by kernel_rfl) HL.out.drew (fun hHeld => ?_)
      refine takeL (i := 0) (d := 77) (v := ?_) rfl rfl (by kernel_rfl) (by kernel_rfl) (by kernel_rfl) (fun _ _ _ h => h) (Or.inl ⟨by rfl, ?_⟩) hHeld ?_
      rotate_left 1
      · (intro w hSw; skip; go_simp; (try with_reducible rfl))
      simp only [List.setIfInBounds_toArray, List.set_cons_zero, List.set_cons_succ]
      refine takeL (i := 1) (d := 78) (v := pv) rfl rfl (by kernel_rfl) (by kernel_rfl) (by kernel_rfl) (fun _ _ _ h => h) (Or.inl ⟨by rfl, fun w hSw => ?_⟩) hHeld ?_
      · have cst : w.cell? ⟨g6, 6, none⟩ = some pv := ((cell_blk hSw.G 6).trans rfl)
        go_simp
      simp only [List.setIfInBounds_toArray, List.set_cons_zero, List.set_cons_succ]
      refine takeL (i := 2) (d := 79) (v := ?_) rfl rfl (by kernel_rfl) (by kernel_rfl) (by kernel_rfl) (fun _ _ _ h => h) (Or.inl ⟨by rfl, ?_⟩) hHeld ?_
      rotate_left 1
      · (intro w hSw; skip; go_simp; (try with_reducible rfl))
      simp only [List.setIfInBounds_toArray, List.set_cons_zero, List.set_cons_succ]
      refine takeL (i := 3) (d := 80) (v := ?_) rfl rfl (by kernel_rfl) (by kernel_rfl) (by kernel_rfl) (fun _ _ _ h => h) (Or.inl ⟨by rfl, ?_⟩) hHeld ?_
      rotate_left 1
      · (intro w hSw; skip; go_simp; (try with_reducible rfl))
      simp only [List.setIfInBounds_toArray, List.set_cons_zero, List.set_cons_succ]
      refine takeL (i := 4) (d := 81) (v := ?_) rfl rfl (by kernel_rfl) (by kernel_rfl) (by kernel_rfl) (fun _ _ _ h => h) (Or.inl ⟨by rfl, ?_⟩) hHeld ?_
      rotate_left 1
      · (intro w hSw; skip; go_simp; (try with_reducible rfl))
      simp only [List.setIfInBounds_toArray, List.set_cons_zero, List.set_cons_succ]
      refine takeL (i := 5) (d := 82) (v := (.int .u8 (rr : Int))) rfl rfl (by kernel_rfl) (by kernel_rfl) (by kernel_rfl) (fun _ _ _ h => h) (Or.inl ⟨by rfl, fun w hSw => ?_⟩) hHeld ?_
      · have cst : w.cell? ⟨bb, off + (2 + 7 * j), none⟩ = some (.int .u8 (rr : Int)) := hSw.M.cell c0 (by simp)
        go_simp
      simp only [List.setIfInBounds_toArray, List.set_cons_zero, List.set_cons_succ]
      refine takeL (i := 6) (d := 83) (v := ?_) rfl rfl (by kernel_rfl) (by kernel_rfl) (by kernel_rfl) (fun _ _ _ h => h) (Or.inl ⟨by rfl, ?_⟩) hHeld ?_
      rotate_left 1
      · (intro w hSw; skip; go_simp; (try with_reducible rfl))
      simp only [List.setIfInBounds_toArray, List.set_cons_zero, List.set_cons_succ]
      refine takeL (i := 7) (d := 84) (v := ?_) rfl rfl (by kernel_rfl) (by kernel_rfl) (by kernel_rfl) (fun _ _ _ h => h) (Or.inl ⟨by rfl, ?_⟩) hHeld ?_
      rotate_left 1
      · (intro w hSw; skip; go_simp; (try with_reducible rfl))
      simp only [List.setIfInBounds_toArray, List.set_cons_zero, List.set_cons_succ]
      refine takeL (i := 8) (d := 85) (v := ?_) rfl rfl (by kernel_rfl) (by kernel_rfl) (by kernel_rfl) (fun _ _ _ h => h) (Or.inl ⟨by rfl, ?_⟩) hHeld ?_
      rotate_left 1
      · (intro w hSw; skip; go_simp; (try with_reducible rfl))
      simp only [List.setIfInBounds_toArray, List.set_cons_zero, List.set_cons_succ]
      refine takeL (i := 9) (d := 86) (v := ?_) rfl rfl (by kernel_rfl) (by kernel_rfl) (by kernel_rfl) (fun _ _ _ h => h) (Or.inl ⟨by rfl, ?_⟩) hHeld ?_
      rotate_left 1
      · (intro w hSw; skip; go_simp; (try with_reducible rfl))
      simp only [List.setIfInBounds_toArray, List.set_cons_zero, List.set_cons_succ]
      refine takeL (i := 10) (d := 87) (v := ?_) rfl rfl (by kernel_rfl) (by kernel_rfl) (by kernel_rfl) (fun _ _ _ h => h) (Or.inl ⟨by rfl, ?_⟩) hHeld ?_
      rotate_left 1
      · (intro w hSw; skip; go_simp; (try with_reducible rfl))
      simp only [List.setIfInBounds_toArray, List.set_cons_zero, List.set_cons_succ]
      refine takeL (i := 11) (d := 88) (v := ?_) rfl rfl (by kernel_rfl) (by kernel_rfl) (by kernel_rfl) (fun _ _ _ h => h) (Or.inl ⟨by rfl, ?_⟩) hHeld ?_
      rotate_left 1
      · (intro w hSw; skip; go_simp; (try with_reducible rfl))
      simp only [List.setIfInBounds_toArray, List.set_cons_zero, List.set_cons_succ]
      refine wpAnyHL_ready (rs := [12]) (by kernel_rfl) (by simp) ?_
      refine AllReadyHL.cons rfl (fun K hK => ?_) AllReadyHL.nil
      go_simp
      go_wp2_with (go_at_call 92; refine (refSigned_at _ _ A (3 + 7 * j) 6 sv hsv.out (HRD.out _ hHeld.M) HB.out (by decide) (by decide) (by omega)).mono ?_; rintro e w' ⟨rfl, rfl⟩)
      refine hK.out _ _ ?_ (fun hHeld => ?_)
      · exact hHeld
      clear hK K
      refine takeL (i := 13) (d := 90) (v := ?_) rfl rfl (by kernel_rfl) (by kernel_rfl) (by kernel_rfl) (fun _ _ _ h => h) (Or.inl ⟨by rfl, ?_⟩) hHeld ?_
      rotate_left 1
      · (intro w hSw; skip; go_simp; (try with_reducible rfl))
      simp only [List.setIfInBounds_toArray, List.set_cons_zero, List.set_cons_succ]
      refine wpAnyHL_ready (rs := [14]) (by kernel_rfl) (by simp) ?_
      refine AllReadyHL.cons rfl (fun K hK => ?_) AllReadyHL.nil
      go_simp
      refine hK.out _ _ ?_ (fun hHeld => ?_)
      · exact hHeld.mods0 HLO.out (Mods.refl.alloc _)
      clear hK K
      have HO2 := Lib.hid ((HO.out.mods (S := []) (Mods.refl.drew) (by simp)).mods (S := []) (Mods.refl.alloc (.cells #[.int .u8 (rr : Int), .int .i64 sv] 115)) (by simp))
      refine wpAnyHL_ready (rs := [15]) (by kernel_rfl) (by simp) ?_
      refine AllReadyHL.cons rfl (fun K hK => ?_) AllReadyHL.nil
      refine step_pushD2 (by rfl) 92 rfl (.tmp 78) (.tmp 91) (by rfl) B0 pv P (by rfl) HO2.out wr.heap.size ⟨rr, sv⟩ _ _ (heap_alloc_new wr.drew _) (by rfl) (by have := hP.out; omega) hHeld.z (fun g' cap' W5 O5 M5 => ?_)
      refine hK.out _ _ (hHeld.mods HLO.out M5 (own_cells HO2.out)) (fun hHeld => ?_)
      clear hK K
      simp only [List.setIfInBounds_toArray, List.set_cons_zero, List.set_cons_succ]
      have c6 : W5.cell? ⟨g6, 6, none⟩ = some pv := (cell_blk hHeld.G 6).trans rfl
      have f6 : W5.frozen? ⟨g6, 6, none⟩ = false := froz_blk hHeld.G 6
      refine takeL (i := 16) (d := 93) (v := ?_) rfl rfl (by kernel_rfl) (by kernel_rfl) (by kernel_rfl) (fun _ _ _ h => h) (Or.inl ⟨by rfl, ?_⟩) hHeld ?_
      rotate_left 1
      · (intro w hSw; skip; go_simp; (try with_reducible rfl))
      simp only [List.setIfInBounds_toArray, List.set_cons_zero, List.set_cons_succ]
      refine wpAnyHL_ready (rs := [17]) (by kernel_rfl) (by simp) ?_
      refine AllReadyHL.fin rfl (fun K hK => ?_) AllReadyHL.nil
      go_simp
      refine hK.out _ _ ?_
      clear hK K
      refine wpAnyHL_done (by kernel_rfl) ?_ _
      have HS := Lib.hid (hHeld.set HLO.out (.slice (some ⟨g', 0, none⟩) (P.length + 1) cap'))
      have HO6 : Hid (OwnPts (W5.setCell ⟨g6, 6, none⟩ (.slice (some ⟨g', 0, none⟩) (P.length + 1) cap')) B0 (.slice (some ⟨g', 0, none⟩) (P.length + 1) cap') (ptsOf A (j + 1))) := Lib.hid (by
        rw [HPS.out]
        exact O5.mods (S := [g6]) ((Mods.refl).setCell (p := ⟨g6, 6, none⟩) (.inl (by simp)) (.slice (some ⟨g', 0, none⟩) (P.length + 1) cap')) (by simp; exact HLO.out.c))
      have HR6 := Lib.hid (HS.out.T.1.trans HR.out)
      clear O5 M5 c6 f6 hHeld
      generalize W5.setCell ⟨g6, 6, none⟩ (.slice (some ⟨g', 0, none⟩) (P.length + 1) cap') = w7 at HS HO6 HR6 ⊢
      go_wp2_with fail
      exact ⟨⟨j + 1, _, by omega, by go_num, by trivial, ⟨HS.out.G, HS.out.R, HS.out.M, KeepsFrom.refl _ _, KeepB.refl, HS.out.z⟩, HO6, HR6⟩, by simp only [intOf]; omega⟩
    · have hjk : j = k := by omega
      subst hjk
      have hpl : (ptsOf A j).length ≤ 12 := by simp [ptsOf]; omega
      have HPK : Hid (PtsOk (ptsOf A j)) := Lib.hid (ptsOf_ok HB.out hkA (by omega))
      generalize ptsOf A j = P at HO HDQ HPK hpl
      obtain ⟨ad, pcap, rfl⟩ := HO.out.rd.len
      have HM7 := Lib.hid HL.out.M
      have HG7 := Lib.hid HL.out.G
      have HQ7 := Lib.hid HL.out.R
      have HR7 := HR
      have hcB := HLO.out.c
      have hrB := HLO.out.r
      have sm : I64 0 := ⟨by decide, by decide⟩
      have sb : I64 0 := sm
      have s1 : I64 0 := sm
      have s2 : I64 0 := sm
      clear HL HR
      have HC : Hid (IsConv wr ⟨5, sg, 0, 0, 0, 0, .slice ad P.length pcap⟩ P) := Lib.hid ⟨HO.out.rd, HPK.out, show I64 5 from i64_small ⟨by omega, by omega⟩, sm, sb, s1, s2⟩
      have HE0 : Hid (errC A = if convB ⟨5, sg, 0, 0, 0, 0, .slice ad P.length pcap⟩ P then 0 else 1) := Lib.hid (by rw [HU.out, HDK.out, HDQ.out] <;> rfl)
      clear HU sm sb s1 s2
      go_wp2_with (refine wpList_load_row rfl 26 (.tmp 6) rfl g6 (by rfl) _ _ _ _ HG7.out Try.underlying26 rfl Try.infoC ?_)
      refine (refConvValid_ok _ ⟨5, sg, 0, 0, 0, 0, .slice ad P.length pcap⟩ P HC.out).mono ?_
      rintro e w8 ⟨rfl, M8⟩
      have HM8 := Lib.hid (HM7.out.trans M8)
      have HM78 := Lib.hid M8
      have HG8 := Lib.hid (M8.heap HG7.out (by simp))
      have HQ8 := Lib.hid (M8.heap HQ7.out (by simp))
      have HR8 := Lib.hid (M8.heap HR7.out (by simp))
      clear HM7 HG7 HQ7 HR7 HC
      cases hv : convB ⟨5, sg, 0, 0, 0, 0, .slice ad P.length pcap⟩ P with
      | false =>
        have HR := Lib.hid (show errC A = 1 by rw [HE0.out, hv]; rfl)
        clear hv HE0
        go_wp2_with (first
          | (refine wpList_load_row rfl 26 (.tmp 5) rfl (w.heap.size + 1) (by rfl) _ _ _ _ HR8.out Try.underlying26 rfl Try.infoC ?_)
          | (refine wpList_store_row (cs := zK.cells) rfl 26 (.tmp 2) (.tmp 113) rfl HQ8.out (by rfl) (by rfl) rfl Try.infoC zK_one ?_; intro w9 R9 M9))
        have HMX := HM8.out.comp M9 (fun k hk => by simp at hk; exact .inr (by omega))
        refine bodyPost_ret (results_cell_row3 rfl _ _ w.heap.size _ _ _ _ rfl R9 Try.underlying26 rfl Try.infoC) rfl ?_
        have := HE.out _ (by rw [HR.out]; decide) HMX
        rw [HR.out] at this
        exact this
      | true =>
        have HR := Lib.hid (show errC A = 0 by rw [HE0.out, hv]; rfl)
        clear hv HE0
        go_wp2_with (first
          | (refine wpList_load_row rfl 26 (.tmp 6) rfl g6 (by rfl) _ _ _ _ HG8.out Try.underlying26 rfl Try.infoC ?_)
          | (refine wpList_store_row (cs := (cvC 5 sg 0 0 0 0 (.slice ad P.length pcap))) rfl 26 (.tmp 2) (.tmp 114) rfl HQ8.out (by rfl) (by rfl) rfl Try.infoC (cvC_one _ _ _ _ _ _ _ _ _) ?_; intro w9 R9 M9))
        have HM9 := HM8.out.comp M9 (fun k hk => by simp at hk; exact .inr (by omega))
        refine bodyPost_ret (results_cell_row3 rfl _ _ w.heap.size _ _ _ _ rfl R9 Try.underlying26 rfl Try.infoC) rfl ?_
        show DecRes w A _ _
        unfold DecRes
        rw [if_pos HR.out, HDQ.out, HLC.out]
        exact ⟨_, (by rw [HDK.out]; rfl), (((HO.out.mods HM78.out (by simp)).mods M9 (by simp; omega)).down hB0), HM9⟩
end Go.Proofs.Ytijjkonephjodaa

namespace Go.Proofs.Ytijjkonephjodaa
open Go.RowKit

theorem refDec_ok (w : World) (v : Value) (A : List Int) (hv : Rd w v (u8s A)) (hb : Bytes A) :
    Calls Try.prog 60 #[v] w fun e w' => DecRes w A e w' := by
  by_cases h0 : A = []
  · exact refDec_nil w v A hv hb h0
  by_cases hf : A.getD 0 0 % 128 < 1 ∨ 5 < A.getD 0 0 % 128
  · exact refDec_form w v A hv hb h0 hf
  by_cases h5 : A.getD 0 0 % 128 = 5
  · by_cases hl : A.length = 1
    · exact refDec_one w v A hv hb h0 h5 hl
    by_cases hy : A.getD 1 0 < 2 ∨ 12 < A.getD 1 0
    · exact refDec_pts w v A hv hb h0 h5 hl hy
    by_cases hc : (A.length : Int) < 2 + 7 * A.getD 1 0
    · exact refDec_cutN w v A hv hb h0 h5 hl hy hc
    · exact refDec_tab w v A hv hb h0 h5 hl hy hc
  · by_cases hl : (A.length : Int) < 7
    · exact refDec_cut7 w v A hv hb h0 (by omega) (by omega) h5 hl
    · exact refDec_lin w v A hv hb h0 (by omega) (by omega) h5 hl
end Go.Proofs.Ytijjkonephjodaa
