/- convert.Decode of a conversion without points: contract. -/
import Derived.Test.YtgjjmiaiclhidaaDecA
namespace Go.Proofs.Ytgjjmiaiclhidaa
open Go.RowKit

set_option maxRecDepth 100000 in
set_option maxHeartbeats 4000000 in
theorem convDec_lin (w : World) (v : Value) (A : List Int) (hv : Rd w v (u8s A)) (hb : Bytes A) (hl : (lenC A).2 = 0) (hlt : ¬ (A.length : Int) < (lenC A).1) (h5 : A.getD 0 0 % 128 ≠ 5) :
    Calls Try.prog 59 #[v] w fun e w' => DecRes w A e w' := by
  have HV := Lib.hid hv
  have HB := Lib.hid hb
  have HL := Lib.hid (fun W (M : Mods [] w W) => length_ok W v A (hv.mods0 M) hb)
  obtain ⟨ad, cap, rfl, h1, h2, -⟩ := hv.u8
  have h3 : cap ≤ 9223372036854775807 := h2
  clear hv hb h2
  have HE : Hid (∀ W, errC A ≠ 0 → Mods [] w W → DecRes w A (.returned (.tuple #[.agg zK.cells, .int .i64 0, .int .i64 (errC A)])) W) := Lib.hid fun W h M => by unfold DecRes; rw [if_neg h]; exact ⟨rfl, M⟩
  have HU := Lib.hid (show errC A = if (lenC A).2 ≠ 0 then (lenC A).2 else if (A.length : Int) < (lenC A).1 then 4 else if convB (decC A (.slice none 0 0)) (decP A) then 0 else 1 from rfl)
  have R0 := Lib.hid (heap_alloc_new w (.cells zK.cells 26))
  have M0 := Lib.hid ((Mods.refl (S := []) (w := w)).alloc (.cells zK.cells 26))
  have hlb : ((lenC A).2 != 0) = false := by simpa using hl
  have HU := Lib.hid (HU.out.trans (if_neg (fun h => h hl)))
  have dlt : decide ((A.length : Int) < (lenC A).1) = false := decide_eq_false hlt
  have HU := Lib.hid (HU.out.trans (if_neg hlt))
  obtain ⟨h0, hf15, hcase⟩ := lenC_facts hl
  have hp : 0 < A.length := List.length_pos_iff.2 h0
  obtain ⟨_, _, he, _, _, hc⟩ := HV.out.u8
  obtain ⟨bb, off, rfl, x0⟩ := hc 0 hp
  injection he with he1 he2 he3
  subst he1 he3
  clear hc he2 h0
  rw [Nat.add_zero] at x0
  have hbb : bb < w.heap.size := World.block_lt_of_cell? w _ x0
  have HX0 := Lib.hid x0
  have hb0 := HB.out 0
  have ea := andNot128 _ hb0
  have eb := and128 _ hb0
  have es : ((if 128 ≤ A.getD 0 0 then (128 : Int) else 0) != 0) = decide (128 ≤ A.getD 0 0) := by
    by_cases h : 128 ≤ A.getD 0 0
    · rw [if_pos h, decide_eq_true h]; rfl
    · rw [if_neg h, decide_eq_false h]; rfl
  have HDC := Lib.hid (show ∀ pv, decC A pv = if A.getD 0 0 % 128 = 5 then ⟨5, decide (128 ≤ A.getD 0 0), 0, 0, 0, 0, pv⟩ else ⟨A.getD 0 0 % 128, decide (128 ≤ A.getD 0 0), signA A 1 2, signA A 3 2, signA A 5 1, signA A 6 1, pv⟩ from fun _ => rfl)
  have HDP := Lib.hid (show decP A = if A.getD 0 0 % 128 = 5 then ptsOf A (A.getD 1 0).toNat else [] from rfl)
  clear x0
  generalize A.getD 0 0 = x at hb0 ea eb es hf15 hcase h5 HX0 HDC HDP
  generalize (if 128 ≤ x then (128 : Int) else 0) = s128 at eb es
  generalize decide (128 ≤ x) = sg at es HDC
  generalize x % 128 = f at ea hf15 hcase h5 HDC HDP
  obtain ⟨hf1, hf5⟩ := hf15
  obtain ⟨hb00, hb01⟩ := hb0
  have i0 : (0 : Int) < (A.length : Int) := by omega
  have ew : IntKind.i64.wrap f = f := IntWalk.i64_in _ (by omega)
  obtain ⟨-, hn7⟩ : f ≠ 5 ∧ (lenC A).1 = 7 := by rcases hcase with h | h; exact h; exact absurd h.1 h5
  clear hcase
  have d5 : (f == 5) = false := by simpa using h5
  have h7 : 7 ≤ A.length := by omega
  have HN := Lib.hid hn7
  clear hn7 hl hlt
  have HF5 := Lib.hid h5
  clear h5
  refine (callsIn_wide (n := 4)).1 (callsIn_of_wp_marks Try.func59 rfl trivial (wpIn_wide.2 ?_))
  simp only [Try.ntmps59, List.size_toArray, List.length_cons, List.length_nil, Nat.reduceAdd, Nat.reduceSub, Array.replicate_succ, Array.replicate_zero, List.push_toArray, List.append_toArray, List.nil_append, List.cons_append]
  go_wp2_with fail
  refine (HL.out _ M0.out).mono ?_
  rintro e w1 ⟨rfl, hw1⟩
  have HR1 : Hid (w1.heap[w.heap.size]? = some (.cells zK.cells 26 (0, 0))) := Lib.hid (by rw [← hw1]; exact R0.out)
  have HM1 : Hid (Mods [] w w1) := Lib.hid (by rw [← hw1]; exact M0.out)
  clear hw1
  go_wp2_with fail
  try dsimp only [Act.put]
  refine wp_noPanic ?_
  refine heldStart (S := fun W => W.cell? ⟨bb, off, none⟩ = some (.int .u8 x)) 13 rfl (by kernel_rfl) (HM1.out.drew.cell HX0.out (by simp)) (fun hHeld => ?_)
  refine takeD (i := 0) (d := 25) (v := ?_) rfl rfl (by kernel_rfl) (by kernel_rfl) (by kernel_rfl) (fun _ _ _ h => h) (Or.inl ⟨by rfl, ?_⟩) hHeld ?_
  rotate_left 1
  · (intro w hSw; (try dsimp only at hSw); go_simp; (try with_reducible rfl))
  simp only [List.setIfInBounds_toArray, List.set_cons_zero, List.set_cons_succ]
  refine takeD (i := 1) (d := 26) (v := ?_) rfl rfl (by kernel_rfl) (by kernel_rfl) (by kernel_rfl) (fun _ _ _ h => h) (Or.inl ⟨by rfl, ?_⟩) hHeld ?_
  rotate_left 1
  · (intro w hSw; (try dsimp only at hSw); go_simp; (try with_reducible rfl))
  simp only [List.setIfInBounds_toArray, List.set_cons_zero, List.set_cons_succ]
  refine takeD (i := 2) (d := 27) (v := ?_) rfl rfl (by kernel_rfl) (by kernel_rfl) (by kernel_rfl) (fun _ _ _ h => h) (Or.inl ⟨by rfl, ?_⟩) hHeld ?_
  rotate_left 1
  · (intro w hSw; (try dsimp only at hSw); go_simp; (try with_reducible rfl))
  simp only [List.setIfInBounds_toArray, List.set_cons_zero, List.set_cons_succ]
  refine takeD (i := 3) (d := 28) (v := ?_) rfl rfl (by kernel_rfl) (by kernel_rfl) (by kernel_rfl) (fun _ _ _ h => h) (Or.inl ⟨by rfl, ?_⟩) hHeld ?_
  rotate_left 1
  · (intro w hSw; (try dsimp only at hSw); go_simp; (try with_reducible rfl))
  simp only [List.setIfInBounds_toArray, List.set_cons_zero, List.set_cons_succ]
  refine takeD (i := 4) (d := 29) (v := ?_) rfl rfl (by kernel_rfl) (by kernel_rfl) (by kernel_rfl) (fun _ _ _ h => h) (Or.inl ⟨by rfl, ?_⟩) hHeld ?_
  rotate_left 1
  · (intro w hSw; (try dsimp only at hSw); go_simp; (try with_reducible rfl))
  simp only [List.setIfInBounds_toArray, List.set_cons_zero, List.set_cons_succ]
  refine takeD (i := 5) (d := 30) (v := ?_) rfl rfl (by kernel_rfl) (by kernel_rfl) (by kernel_rfl) (fun _ _ _ h => h) (Or.inl ⟨by rfl, ?_⟩) hHeld ?_
  rotate_left 1
  · (intro w hSw; (try dsimp only at hSw); go_simp; (try with_reducible rfl))
  simp only [List.setIfInBounds_toArray, List.set_cons_zero, List.set_cons_succ]
  refine takeD (i := 6) (d := 31) (v := ?_) rfl rfl (by kernel_rfl) (by kernel_rfl) (by kernel_rfl) (fun _ _ _ h => h) (Or.inl ⟨by rfl, ?_⟩) hHeld ?_
  rotate_left 1
  · (intro w hSw; (try dsimp only at hSw); go_simp; (try with_reducible rfl))
  simp only [List.setIfInBounds_toArray, List.set_cons_zero, List.set_cons_succ]
  refine takeD (i := 7) (d := 32) (v := ?_) rfl rfl (by kernel_rfl) (by kernel_rfl) (by kernel_rfl) (fun _ _ _ h => h) (Or.inl ⟨by rfl, ?_⟩) hHeld ?_
  rotate_left 1
  · (intro w hSw; (try dsimp only at hSw); go_simp; (try with_reducible rfl))
  simp only [List.setIfInBounds_toArray, List.set_cons_zero, List.set_cons_succ]
  refine takeD (i := 8) (d := 33) (v := ?_) rfl rfl (by kernel_rfl) (by kernel_rfl) (by kernel_rfl) (fun _ _ _ h => h) (Or.inl ⟨by rfl, ?_⟩) hHeld ?_
  rotate_left 1
  · (intro w hSw; (try dsimp only at hSw); go_simp; (try with_reducible rfl))
  simp only [List.setIfInBounds_toArray, List.set_cons_zero, List.set_cons_succ]
  refine takeD (i := 9) (d := 34) (v := ?_) rfl rfl (by kernel_rfl) (by kernel_rfl) (by kernel_rfl) (fun _ _ _ h => h) (Or.inl ⟨by rfl, ?_⟩) hHeld ?_
  rotate_left 1
  · (intro w hSw; (try dsimp only at hSw); go_simp; (try with_reducible rfl))
  simp only [List.setIfInBounds_toArray, List.set_cons_zero, List.set_cons_succ]
  refine takeD (i := 10) (d := 35) (v := ?_) rfl rfl (by kernel_rfl) (by kernel_rfl) (by kernel_rfl) (fun _ _ _ h => h) (Or.inl ⟨by rfl, ?_⟩) hHeld ?_
  rotate_left 1
  · (intro w hSw; (try dsimp only at hSw); go_simp; (try with_reducible rfl))
  simp only [List.setIfInBounds_toArray, List.set_cons_zero, List.set_cons_succ]
  refine wpAnyH_ready (rs := [11]) (by kernel_rfl) (by simp) ?_
  refine AllReadyH.cons rfl (fun K hK => ?_) AllReadyH.nil
  go_simp
  refine hK.out _ _ ?_ (fun hHeld => ?_)
  · exact ((Mods.refl (S := [])).alloc _).cell hHeld (by simp)
  clear hK K
  have hlt1 : w.heap.size < w1.heap.size := lt_of_block HR1.out
  have HM2 := Lib.hid (HM1.out.drew.alloc (.cells zK.cells 26))
  have HR2 := Lib.hid (heap_alloc (o' := .cells zK.cells 26) (heap_drew HR1.out))
  have RG2 : (w1.drew.alloc (.cells zK.cells 26)).heap[w1.heap.size]? = some (.cells zK.cells 26 (0, 0)) := heap_alloc_new w1.drew _
  refine wpAnyH_ready (rs := [12]) (by kernel_rfl) (by simp) ?_
  refine AllReadyH.cons rfl (fun K hK => ?_) AllReadyH.nil
  refine exec_store rfl rfl rfl RG2 rfl rfl (by rfl) Try.infoC (cvC_one f sg 0 0 0 0 none 0 0) (fun w3 R3 M3 => ?_)
  refine hK.out _ _ ?_ (fun hHeld => ?_)
  · exact M3.cell hHeld (by simp; omega)
  clear hK K
  refine wpAnyH_done (by kernel_rfl) ?_ _
  dsimp only [noP]
  have HM3 := Lib.hid (HM2.out.comp M3 (fun k hk => by simp at hk; exact .inr (by omega)))
  have HR3 := Lib.hid (M3.heap HR2.out (by simp; omega))
  have HG3 : Hid (w3.heap[w1.heap.size]? = some (.cells (cvC f sg 0 0 0 0 (.slice none 0 0)) 26 (0, 0))) := Lib.hid R3
  have cg0 : w3.cell? ⟨w1.heap.size, 0, none⟩ = some (.int .i64 f) := (cell_blk R3 0).trans rfl
  clear hHeld HM2 HR2 RG2 R3 M3 HM1 HR1
  generalize w1.heap.size = g7 at HG3 cg0 hlt1 ⊢
  clear ew ea eb es
  go_wp2_with fail
  try dsimp only [Act.put]
  refine wp_noPanic ?_
  have i7 : (7 : Int) ≤ (A.length : Int) := by omega
  have j3 : (3 : Int) ≤ (cap : Int) := by omega
  have j5 : (5 : Int) ≤ (cap : Int) := by omega
  have j6 : (6 : Int) ≤ (cap : Int) := by omega
  have j7 : (7 : Int) ≤ (cap : Int) := by omega
  have k1 : ¬ cap = 1 := by omega
  have k3 : ¬ cap = 3 := by omega
  have k5 : ¬ cap = 5 := by omega
  have k6 : ¬ cap = 6 := by omega
  clear cg0
  refine heldStart (S := fun W => Mods [] w W) 20 rfl (by kernel_rfl) HM3.out.drew (fun hHeld => ?_)
  refine takeD (i := 0) (d := 56) (v := ?_) rfl rfl (by kernel_rfl) (by kernel_rfl) (by kernel_rfl) (fun _ _ _ h => h) (Or.inl ⟨by rfl, ?_⟩) hHeld ?_
  rotate_left 1
  · (intro w hSw; (try dsimp only at hSw); go_simp; (try with_reducible rfl))
  simp only [List.setIfInBounds_toArray, List.set_cons_zero, List.set_cons_succ]
  refine takeD (i := 1) (d := 57) (v := ?_) rfl rfl (by kernel_rfl) (by kernel_rfl) (by kernel_rfl) (fun _ _ _ h => h) (Or.inl ⟨by rfl, ?_⟩) hHeld ?_
  rotate_left 1
  · (intro w hSw; clear hSw; go_simp; (try simp only [if_pos, if_neg, j3, j5, j6, j7, k1, k3, k5, k6, if_true, if_false]); (try with_reducible rfl))
  simp only [List.setIfInBounds_toArray, List.set_cons_zero, List.set_cons_succ]
  refine takeD (i := 3) (d := 59) (v := ?_) rfl rfl (by kernel_rfl) (by kernel_rfl) (by kernel_rfl) (fun _ _ _ h => h) (Or.inl ⟨by rfl, ?_⟩) hHeld ?_
  rotate_left 1
  · (intro w hSw; (try dsimp only at hSw); go_simp; (try with_reducible rfl))
  simp only [List.setIfInBounds_toArray, List.set_cons_zero, List.set_cons_succ]
  refine takeD (i := 4) (d := 60) (v := ?_) rfl rfl (by kernel_rfl) (by kernel_rfl) (by kernel_rfl) (fun _ _ _ h => h) (Or.inl ⟨by rfl, ?_⟩) hHeld ?_
  rotate_left 1
  · (intro w hSw; clear hSw; go_simp; (try simp only [if_pos, if_neg, j3, j5, j6, j7, k1, k3, k5, k6, if_true, if_false]); (try with_reducible rfl))
  simp only [List.setIfInBounds_toArray, List.set_cons_zero, List.set_cons_succ]
  refine takeD (i := 6) (d := 62) (v := ?_) rfl rfl (by kernel_rfl) (by kernel_rfl) (by kernel_rfl) (fun _ _ _ h => h) (Or.inl ⟨by rfl, ?_⟩) hHeld ?_
  rotate_left 1
  · (intro w hSw; (try dsimp only at hSw); go_simp; (try with_reducible rfl))
  simp only [List.setIfInBounds_toArray, List.set_cons_zero, List.set_cons_succ]
  refine takeD (i := 7) (d := 63) (v := ?_) rfl rfl (by kernel_rfl) (by kernel_rfl) (by kernel_rfl) (fun _ _ _ h => h) (Or.inl ⟨by rfl, ?_⟩) hHeld ?_
  rotate_left 1
  · (intro w hSw; clear hSw; go_simp; (try simp only [if_pos, if_neg, j3, j5, j6, j7, k1, k3, k5, k6, if_true, if_false]); (try with_reducible rfl))
  simp only [List.setIfInBounds_toArray, List.set_cons_zero, List.set_cons_succ]
  refine takeD (i := 9) (d := 65) (v := ?_) rfl rfl (by kernel_rfl) (by kernel_rfl) (by kernel_rfl) (fun _ _ _ h => h) (Or.inl ⟨by rfl, ?_⟩) hHeld ?_
  rotate_left 1
  · (intro w hSw; (try dsimp only at hSw); go_simp; (try with_reducible rfl))
  simp only [List.setIfInBounds_toArray, List.set_cons_zero, List.set_cons_succ]
  refine takeD (i := 10) (d := 66) (v := ?_) rfl rfl (by kernel_rfl) (by kernel_rfl) (by kernel_rfl) (fun _ _ _ h => h) (Or.inl ⟨by rfl, ?_⟩) hHeld ?_
  rotate_left 1
  · (intro w hSw; clear hSw; go_simp; (try simp only [if_pos, if_neg, j3, j5, j6, j7, k1, k3, k5, k6, if_true, if_false]); (try with_reducible rfl))
  simp only [List.setIfInBounds_toArray, List.set_cons_zero, List.set_cons_succ]
  refine wpAnyH_ready (rs := [2]) (by kernel_rfl) (by simp) ?_
  refine AllReadyH.cons rfl (fun K hK => ?_) AllReadyH.nil
  go_simp
  go_wp2_with (go_at_call 105; refine (read_ok _ _ ((A.drop 1).take 2) ((HV.out.mods0 hHeld).sub 1 3 (by omega) (by omega)) ((HB.out.drop _).take _) (by simp; omega) (by simp; omega)).mono ?_; rintro e w' ⟨rfl, rfl⟩)
  refine hK.out _ _ ?_ (fun hHeld => ?_)
  · exact hHeld
  clear hK K
  refine takeD (i := 12) (d := 68) (v := ?_) rfl rfl (by kernel_rfl) (by kernel_rfl) (by kernel_rfl) (fun _ _ _ h => h) (Or.inl ⟨by rfl, ?_⟩) hHeld ?_
  rotate_left 1
  · (intro w hSw; (try dsimp only at hSw); go_simp; (try with_reducible rfl))
  simp only [List.setIfInBounds_toArray, List.set_cons_zero, List.set_cons_succ]
  refine wpAnyH_ready (rs := [5]) (by kernel_rfl) (by simp) ?_
  refine AllReadyH.cons rfl (fun K hK => ?_) AllReadyH.nil
  go_simp
  go_wp2_with (go_at_call 105; refine (read_ok _ _ ((A.drop 3).take 2) ((HV.out.mods0 hHeld).sub 3 5 (by omega) (by omega)) ((HB.out.drop _).take _) (by simp; omega) (by simp; omega)).mono ?_; rintro e w' ⟨rfl, rfl⟩)
  refine hK.out _ _ ?_ (fun hHeld => ?_)
  · exact hHeld
  clear hK K
  refine wpAnyH_ready (rs := [8]) (by kernel_rfl) (by simp) ?_
  refine AllReadyH.cons rfl (fun K hK => ?_) AllReadyH.nil
  go_simp
  go_wp2_with (go_at_call 105; refine (read_ok _ _ ((A.drop 5).take 1) ((HV.out.mods0 hHeld).sub 5 6 (by omega) (by omega)) ((HB.out.drop _).take _) (by simp; omega) (by simp; omega)).mono ?_; rintro e w' ⟨rfl, rfl⟩)
  refine hK.out _ _ ?_ (fun hHeld => ?_)
  · exact hHeld
  clear hK K
  refine wpAnyH_ready (rs := [11]) (by kernel_rfl) (by simp) ?_
  refine AllReadyH.cons rfl (fun K hK => ?_) AllReadyH.nil
  go_simp
  go_wp2_with (go_at_call 105; refine (read_ok _ _ ((A.drop 6).take 1) ((HV.out.mods0 hHeld).sub 6 7 (by omega) (by omega)) ((HB.out.drop _).take _) (by simp; omega) (by simp; omega)).mono ?_; rintro e w' ⟨rfl, rfl⟩)
  refine hK.out _ _ ?_ (fun hHeld => ?_)
  · exact hHeld
  clear hK K
  have sm := signA_bd HB.out 1 2 (by omega) (by omega) (by omega)
  have sb := signA_bd HB.out 3 2 (by omega) (by omega) (by omega)
  have s1 := signA_bd HB.out 5 1 (by omega) (by omega) (by omega)
  have s2 := signA_bd HB.out 6 1 (by omega) (by omega) (by omega)
  have HDK := Lib.hid (fun pv => (HDC.out pv).trans (if_neg HF5.out))
  have HDQ := Lib.hid (HDP.out.trans (if_neg HF5.out))
  clear HDC HDP HF5
  unfold signA at sm sb s1 s2 HDK
  simp only [List.drop_one] at sm HDK
  generalize sgnL (List.take 2 A.tail) = nm at sm HDK ⊢
  generalize sgnL (List.take 2 (List.drop 3 A)) = nb at sb HDK ⊢
  generalize sgnL (List.take 1 (List.drop 5 A)) = n1 at s1 HDK ⊢
  generalize sgnL (List.take 1 (List.drop 6 A)) = n2 at s2 HDK ⊢
  have RR := heap_drew HG3.out
  have QQ := heap_drew HR3.out
  clear HG3 HR3 HM3
  generalize w3.drew = w3d at RR QQ hHeld ⊢
  have cx : w3d.cell? ⟨g7, 2, none⟩ = some (.int .i64 0) := (cell_blk RR 2).trans rfl
  have fx : w3d.frozen? ⟨g7, 2, none⟩ = false := froz_blk RR 2
  refine wpAnyH_ready (rs := [13]) (by kernel_rfl) (by simp) ?_
  refine AllReadyH.cons rfl (fun K hK => ?_) AllReadyH.nil
  go_simp
  refine hK.out _ _ ?_ (fun hHeld => ?_)
  · exact hHeld.setCell (.inr (by show w.heap.size ≤ g7; omega)) _
  clear hK K
  have R4 := heap_setCell (i := 2) (v := .int .i64 nm) RR
  have Q4 := heap_setCell_ne (a := ⟨g7, 2, none⟩) (v := .int .i64 nm) QQ (by show w.heap.size ≠ g7; omega)
  clear cx fx RR QQ
  generalize w3d.setCell ⟨g7, 2, none⟩ (.int .i64 nm) = w4 at R4 Q4 hHeld ⊢
  have cx : w4.cell? ⟨g7, 3, none⟩ = some (.int .i64 0) := (cell_blk R4 3).trans rfl
  have fx : w4.frozen? ⟨g7, 3, none⟩ = false := froz_blk R4 3
  refine takeD (i := 14) (d := 69) (v := ?_) rfl rfl (by kernel_rfl) (by kernel_rfl) (by kernel_rfl) (fun _ _ _ h => h) (Or.inl ⟨by rfl, ?_⟩) hHeld ?_
  rotate_left 1
  · (intro w hSw; (try dsimp only at hSw); go_simp; (try with_reducible rfl))
  simp only [List.setIfInBounds_toArray, List.set_cons_zero, List.set_cons_succ]
  refine wpAnyH_ready (rs := [15]) (by kernel_rfl) (by simp) ?_
  refine AllReadyH.cons rfl (fun K hK => ?_) AllReadyH.nil
  go_simp
  refine hK.out _ _ ?_ (fun hHeld => ?_)
  · exact hHeld.setCell (.inr (by show w.heap.size ≤ g7; omega)) _
  clear hK K
  have R5 := heap_setCell (i := 3) (v := .int .i64 nb) R4
  have Q5 := heap_setCell_ne (a := ⟨g7, 3, none⟩) (v := .int .i64 nb) Q4 (by show w.heap.size ≠ g7; omega)
  clear cx fx R4 Q4
  generalize w4.setCell ⟨g7, 3, none⟩ (.int .i64 nb) = w5 at R5 Q5 hHeld ⊢
  have cx : w5.cell? ⟨g7, 4, none⟩ = some (.int .i64 0) := (cell_blk R5 4).trans rfl
  have fx : w5.frozen? ⟨g7, 4, none⟩ = false := froz_blk R5 4
  refine takeD (i := 16) (d := 70) (v := ?_) rfl rfl (by kernel_rfl) (by kernel_rfl) (by kernel_rfl) (fun _ _ _ h => h) (Or.inl ⟨by rfl, ?_⟩) hHeld ?_
  rotate_left 1
  · (intro w hSw; (try dsimp only at hSw); go_simp; (try with_reducible rfl))
  simp only [List.setIfInBounds_toArray, List.set_cons_zero, List.set_cons_succ]
  refine wpAnyH_ready (rs := [17]) (by kernel_rfl) (by simp) ?_
  refine AllReadyH.cons rfl (fun K hK => ?_) AllReadyH.nil
  go_simp
  refine hK.out _ _ ?_ (fun hHeld => ?_)
  · exact hHeld.setCell (.inr (by show w.heap.size ≤ g7; omega)) _
  clear hK K
  have R6 := heap_setCell (i := 4) (v := .int .i64 n1) R5
  have Q6 := heap_setCell_ne (a := ⟨g7, 4, none⟩) (v := .int .i64 n1) Q5 (by show w.heap.size ≠ g7; omega)
  clear cx fx R5 Q5
  generalize w5.setCell ⟨g7, 4, none⟩ (.int .i64 n1) = w6 at R6 Q6 hHeld ⊢
  have cx : w6.cell? ⟨g7, 5, none⟩ = some (.int .i64 0) := (cell_blk R6 5).trans rfl
  have fx : w6.frozen? ⟨g7, 5, none⟩ = false := froz_blk R6 5
  refine takeD (i := 18) (d := 71) (v := ?_) rfl rfl (by kernel_rfl) (by kernel_rfl) (by kernel_rfl) (fun _ _ _ h => h) (Or.inl ⟨by rfl, ?_⟩) hHeld ?_
  rotate_left 1
  · (intro w hSw; (try dsimp only at hSw); go_simp; (try with_reducible rfl))
  simp only [List.setIfInBounds_toArray, List.set_cons_zero, List.set_cons_succ]
  refine wpAnyH_ready (rs := [19]) (by kernel_rfl) (by simp) ?_
  refine AllReadyH.cons rfl (fun K hK => ?_) AllReadyH.nil
  go_simp
  refine hK.out _ _ ?_ (fun hHeld => ?_)
  · exact hHeld.setCell (.inr (by show w.heap.size ≤ g7; omega)) _
  clear hK K
  have R7 := heap_setCell (i := 5) (v := .int .i64 n2) R6
  have Q7 := heap_setCell_ne (a := ⟨g7, 5, none⟩) (v := .int .i64 n2) Q6 (by show w.heap.size ≠ g7; omega)
  clear cx fx R6 Q6
  generalize w6.setCell ⟨g7, 5, none⟩ (.int .i64 n2) = w7 at R7 Q7 hHeld ⊢
  refine wpAnyH_done (by kernel_rfl) ?_ _
  dsimp only [noP]
  have HM7 := Lib.hid hHeld
  have HR7 : Hid (w7.heap[g7]? = some (.cells (cvC f sg nm nb n1 n2 (.slice none 0 0)) 26 (0, 0))) := Lib.hid R7
  have HQ7 := Lib.hid Q7
  clear hHeld R7 Q7
  have HC : Hid (IsConv w7 ⟨f, sg, nm, nb, n1, n2, .slice none 0 0⟩ []) := Lib.hid ⟨RdPts.nil _, PtsOk.nil, show I64 f from i64_small ⟨by omega, by omega⟩, sm, sb, s1, s2⟩
  have HE0 : Hid (errC A = if convB ⟨f, sg, nm, nb, n1, n2, .slice none 0 0⟩ [] then 0 else 1) := Lib.hid (by rw [HU.out, HDK.out, HDQ.out])
  clear HU
  go_wp2_with (refine wpList_load_row rfl 26 (.tmp 7) rfl g7 (by rfl) _ _ _ _ HR7.out Try.underlying26 rfl Try.infoC ?_)
  refine (convValid_ok w7 ⟨f, sg, nm, nb, n1, n2, .slice none 0 0⟩ [] HC.out).mono ?_
  rintro e w8 ⟨rfl, M8⟩
  have HM8 := Lib.hid (HM7.out.trans M8)
  have HR8 := Lib.hid (M8.heap HR7.out (by simp))
  have HQ8 := Lib.hid (M8.heap HQ7.out (by simp))
  have HM78 := Lib.hid M8
  clear M8 HR7 HQ7
  cases hv : convB ⟨f, sg, nm, nb, n1, n2, .slice none 0 0⟩ [] with
  | false =>
    have HN := Lib.hid (show errC A ≠ 0 by rw [HE0.out, hv]; decide)
    have HR := Lib.hid (show errC A = 1 by rw [HE0.out, hv]; rfl)
    clear hv
    go_wp2_with (refine wpList_store_row (cs := zK.cells) rfl 26 (.tmp 2) (.tmp 75) rfl HQ8.out (by rfl) (by rfl) rfl Try.infoC zK_one ?_; intro w9 R9 M9)
    have HM9 := HM8.out.comp M9 (fun k hk => by simp at hk; exact .inr (by omega))
    refine ⟨_, results_cell_row3 rfl _ _ w.heap.size _ _ _ _ rfl R9 Try.underlying26 rfl Try.infoC, ?_⟩
    have := HE.out w9 HN.out HM9
    rw [HR.out] at this
    exact this
  | true =>
    have HR := Lib.hid (show errC A = 0 by rw [HE0.out, hv]; rfl)
    clear hv
    go_wp2_with (first
      | (refine wpList_load_row rfl 26 (.tmp 7) rfl g7 (by rfl) _ _ _ _ HR8.out Try.underlying26 rfl Try.infoC ?_)
      | (refine wpList_store_row (cs := cvC f sg nm nb n1 n2 (.slice none 0 0)) rfl 26 (.tmp 2) (.tmp 76) rfl HQ8.out (by rfl) (by rfl) rfl Try.infoC (cvC_one _ _ _ _ _ _ _ _ _) ?_; intro w9 R9 M9))
    have HM9 := HM8.out.comp M9 (fun k hk => by simp at hk; exact .inr (by omega))
    refine ⟨_, results_cell_row3 rfl _ _ w.heap.size _ _ _ _ rfl R9 Try.underlying26 rfl Try.infoC, ?_⟩
    show DecRes w A _ w9
    unfold DecRes
    rw [if_pos HR.out, HDQ.out]
    exact ⟨.slice none 0 0, by rw [HDK.out]; rfl, OwnPts.nil _ _, HM9⟩
end Go.Proofs.Ytgjjmiaiclhidaa
