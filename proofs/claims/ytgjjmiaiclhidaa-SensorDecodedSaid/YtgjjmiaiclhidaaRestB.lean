/- sensor.rest of an analog sensor whose bytes are enough: contract. -/
import Derived.Test.YtgjjmiaiclhidaaRestA
namespace Go.Proofs.Ytgjjmiaiclhidaa
open Go.RowKit

theorem setAll_lims (S : Sen) (m a b c d e f : Nat) : setAll S.cells 14 [.int .u8 m, .int .u8 a, .int .u8 b, .int .u8 c, .int .u8 d, .int .u8 e, .int .u8 f] = ({ S with mask := m, r0 := a, r1 := b, r2 := c, r3 := d, r4 := e, r5 := f } : Sen).cells := by
  simp [setAll, Sen.cells]
theorem lims_one (m a b c d e f : Nat) : (#[.int .u8 m, .int .u8 a, .int .u8 b, .int .u8 c, .int .u8 d, .int .u8 e, .int .u8 f] : Array Value).all (·.oneCell') = true := by simp [Value.oneCell']
theorem Try.infoTh : (Try.prog.info? 29).map (·.size) = some 7 := by kernel_rfl
theorem Try.infoR6 : (Try.prog.info? 27).map (·.size) = some 6 := by kernel_rfl
set_option maxRecDepth 100000 in
set_option maxHeartbeats 8000000 in
theorem rest_ana (w : World) (S : Sen) (v : Value) (B : List Int) (hv : Rd w v (u8s B)) (hb : Bytes B) (hd : S.disc = false) (hl : errC B = 0) (hc : (B.drop (lenC B).1.toNat).length = 13) :
    Calls Try.prog 83 #[.agg S.cells, v] w fun e w' => RestRes w S B e w' := by
  have HDC := Lib.hid (fun W (M : Mods [] w W) => convDec_ok W v B (hv.mods0 M) hb)
  obtain ⟨hz1, hz2, hz3⟩ := errC_zero hl
  obtain ⟨hB0, -, hcase⟩ := lenC_facts hz1
  obtain ⟨nn, hnn⟩ : ∃ nn : Nat, (lenC B).1 = (nn : Int) := ⟨(lenC B).1.toNat, by have := hb 1; omega⟩
  have HV := Lib.hid hv
  have HB := Lib.hid hb
  have HE := Lib.hid (show ∀ (S' : Sen) W, restErr S.disc B ≠ 0 → S'.conv.pts.oneCell' = true → Mods [] w W → RestRes w S B (.returned (.tuple #[.agg S'.cells, .int .i64 (restErr S.disc B)])) W from fun S' W h h1 M => by unfold RestRes; rw [if_neg h]; exact ⟨⟨S', h1, rfl⟩, M⟩)
  have HRE := Lib.hid (show restErr S.disc B = if S.disc then (if B.length < 6 then 4 else if 6 < B.length then 6 else 0)
    else if errC B ≠ 0 then errC B else if (B.drop (lenC B).1.toNat).length < 13 then 4 else if 13 < (B.drop (lenC B).1.toNat).length then 6 else 0 from rfl)
  obtain ⟨ad, cap, rfl, h1, h2, -⟩ := hv.u8
  have h3 : cap ≤ 9223372036854775807 := h2
  clear hv hb h2
  obtain ⟨_, _, _, _, _, _, x6⟩ := S.headc
  have R0 := Lib.hid (heap_alloc (o' := .cells zS.cells 32) (heap_alloc_new w (.cells S.cells 32)))
  have R1 := heap_alloc_new (w.alloc (.cells S.cells 32)) (.cells zS.cells 32)
  rw [World.size_alloc] at R1
  replace R1 := Lib.hid R1
  have M0 := Lib.hid (((Mods.refl (S := []) (w := w)).alloc (.cells S.cells 32)).alloc (.cells zS.cells 32))
  rw [hd] at x6 HRE
  have HRT := Lib.hid (show restErr S.disc B = if (B.drop nn).length < 13 then 4 else if 13 < (B.drop nn).length then 6 else 0 by rw [hd, restErr_ana, if_neg (fun h => h hl), hnn, Int.toNat_natCast])
  have HRS := Lib.hid (show ∀ pv, restS S B pv = ana13 S (decC B pv) (B.drop nn) from fun pv => by unfold restS; rw [if_neg (by rw [hd]; decide), hnn, Int.toNat_natCast])
  have HRP := Lib.hid (show restP S.disc B = decP B by unfold restP; rw [if_neg (by rw [hd]; decide)])
  rw [hnn] at hz2
  have hnB : nn ≤ B.length := by omega
  have hB1 : 0 < B.length := List.length_pos_iff.2 hB0
  obtain ⟨bb, off, rfl, HCB⟩ : ∃ bb off, ad = some ⟨bb, off, none⟩ ∧ Hid (∀ W, Mods [] w W → ∀ i, i < B.length → W.cell? ⟨bb, off + i, none⟩ = some (.int .u8 (B.getD i 0))) := by
    obtain ⟨_, _, he, _, _, hc⟩ := HV.out.u8
    injection he with he1 _ _
    obtain ⟨b, o, h, _⟩ := hc 0 hB1
    refine ⟨b, o, he1.trans h, Lib.hid fun W M i hi => ?_⟩
    obtain ⟨b', o', h', hx⟩ := hc i hi
    rw [h] at h'
    cases h'
    exact M.cell hx (by simp)
  have HZ := Lib.hid hl
  have HNN := Lib.hid hnn
  have n0 : (0 : Int) ≤ (nn : Int) := by omega
  have n1 : (nn : Int) ≤ (B.length : Int) := by omega
  have n2 : (nn : Int) ≤ (cap : Int) := by omega
  have eR : (B.drop nn).length = B.length - nn := List.length_drop
  rw [eR] at HRT
  clear hl hz1 hz2 hz3 hcase hnn hB0 hd HRE
  rw [HNN.out, Int.toNat_natCast, eR] at hc
  have HR := Lib.hid (show restErr S.disc B = 0 by rw [HRT.out, if_neg (by omega), if_neg (by omega)])
  have d1 : decide (((B.length - nn : Nat) : Int) < 13) = false := decide_eq_false (by omega)
  have d1' : decide ((B.length : Int) - (nn : Int) < 13) = false := decide_eq_false (by omega)
  have d2 : decide (((B.length - nn : Nat) : Int) > 13) = false := decide_eq_false (by omega)
  have d2' : decide ((B.length : Int) - (nn : Int) > 13) = false := decide_eq_false (by omega)
  have hcap : ¬ cap = nn := by omega
  have HRR : Hid (∀ W, Mods [] w W → Rd W (.slice (some ⟨bb, off + nn, none⟩) 13 (cap - nn)) (u8s (B.drop nn))) := Lib.hid (fun W M => by
    have := (HV.out.mods0 M).sub nn B.length (by omega) (by omega)
    rw [show B.length - nn = 13 by omega, List.take_of_length_le (by rw [List.length_drop]; omega)] at this
    exact this)
  have HRb := Lib.hid (HB.out.drop nn)
  have HRl := Lib.hid (show (B.drop nn).length = 13 by rw [eR]; omega)
  clear eR
  go_enter Try.func83, Try.ntmps83
  go_wp2_with fail
  refine (HDC.out _ M0.out).mono ?_
  rintro e w5 h5
  unfold DecRes at h5
  rw [if_pos HZ.out] at h5
  obtain ⟨pv, rfl, OP5, M5⟩ := h5
  rw [HNN.out]
  have HO5 := Lib.hid OP5
  have HM5 := Lib.hid (M0.out.trans M5)
  have HG5 := Lib.hid (M5.heap R0.out (by simp))
  have HR5 := Lib.hid (M5.heap R1.out (by simp))
  have hw5 := M5.size
  simp only [World.size_alloc] at hw5
  have hpv : (decC B pv).pts = pv := by unfold decC; split <;> rfl
  have hpc : (decC B pv).pts.oneCell' = true := by rw [hpv]; exact OP5.rd.one
  clear OP5 M5 hpv
  obtain ⟨CC, hCC⟩ : ∃ CC, CC = decC B pv := ⟨_, rfl⟩
  rw [← hCC] at hpc ⊢
  have HCC := Lib.hid hCC
  clear hCC
  go_wp2_with (refine wpList_store_row (cs := CC.cells) rfl 26 (.tmp 7) (.tmp 16) rfl (heap_alloc_new w5 _) (by rfl) (by rfl) (by rfl) (Conv.infoCC _) (Conv.one _ hpc) ?_; intro w6 R6 M6; have HF6 := Lib.hid (fresh M6); have HQ6 := Lib.hid R6; have HG6 := Lib.hid (HF6.out.heap HG5.out (by simp)); have HR6 := Lib.hid (HF6.out.heap HR5.out (by simp)); clear R6 M6)
  have HM6 := Lib.hid (HM5.out.trans HF6.out)
  have HK6 := Lib.hid (HF6.out.nil (S := [w.heap.size, w.heap.size + 1]))
  clear HF6 HG5 HR5 HM5
  have hg7 : w.heap.size + 1 < w5.heap.size := by omega
  generalize w5.heap.size = g7 at HQ6 hg7 ⊢
  refine heldStart (S := fun W => Mods [] w W ∧ W.heap[g7]? = some (.cells CC.cells 26 (0, 0))) 8 rfl (by kernel_rfl) ⟨HM6.out.drew, HQ6.out⟩ (fun hHeld => ?_)
  refine takeD (i := 0) (d := 23) (v := .agg (CC).cells) rfl rfl (by kernel_rfl) (by kernel_rfl) (by kernel_rfl) (fun _ _ _ h => h) (yieldsIf_load_row rfl 26 (.tmp 7) rfl g7 rfl 26 (CC).cells (0, 0) _ (fun w h=>h.2) Try.underlying26 rfl (Conv.infoCC _)) hHeld ?_
  simp only [List.setIfInBounds_toArray, List.set_cons_zero, List.set_cons_succ]
  refine takeD (i := 1) (d := 24) (v := ?_) rfl rfl (by kernel_rfl) (by kernel_rfl) (by kernel_rfl) (fun _ _ _ h => h) (Or.inl ⟨by rfl, ?_⟩) hHeld ?_
  rotate_left 1
  · (intro w hSw; (try dsimp only at hSw); go_simp; (try with_reducible rfl))
  simp only [List.setIfInBounds_toArray, List.set_cons_zero, List.set_cons_succ]
  refine takeD (i := 2) (d := 25) (v := ?_) rfl rfl (by kernel_rfl) (by kernel_rfl) (by kernel_rfl) (fun _ _ _ h => h) (Or.inl ⟨by rfl, ?_⟩) hHeld ?_
  rotate_left 1
  · (intro w hSw; (try dsimp only at hSw); go_simp; (try with_reducible rfl))
  simp only [List.setIfInBounds_toArray, List.set_cons_zero, List.set_cons_succ]
  refine takeD (i := 3) (d := 26) (v := ?_) rfl rfl (by kernel_rfl) (by kernel_rfl) (by kernel_rfl) (fun _ _ _ h => h) (Or.inl ⟨by rfl, ?_⟩) hHeld ?_
  rotate_left 1
  · (intro w hSw; (try dsimp only at hSw); go_simp; (try with_reducible rfl))
  simp only [List.setIfInBounds_toArray, List.set_cons_zero, List.set_cons_succ]
  refine takeD (i := 4) (d := 27) (v := ?_) rfl rfl (by kernel_rfl) (by kernel_rfl) (by kernel_rfl) (fun _ _ _ h => h) (Or.inl ⟨by rfl, ?_⟩) hHeld ?_
  rotate_left 1
  · (intro w hSw; (try dsimp only at hSw); go_simp; (try with_reducible rfl))
  simp only [List.setIfInBounds_toArray, List.set_cons_zero, List.set_cons_succ]
  refine wpAnyH_ready (rs := [5]) (by kernel_rfl) (by simp) ?_
  refine AllReadyH.cons rfl (fun K hK => ?_) AllReadyH.nil
  refine exec_store_part rfl rfl rfl (show w6.drew.heap[w.heap.size]? = _ from HG6.out) 7 rfl rfl (by show 7 + 7 ≤ 28; omega) (Conv.infoCC _) (Conv.one _ hpc) (fun w7 R7 M7 => ?_)
  rw [setAll_conv] at R7
  refine hK.out _ _ ?_ (fun hHeld => ?_)
  · exact ⟨hHeld.1.comp M7 (fun k hk => by simp at hk; exact .inr (by omega)), M7.heap hHeld.2 (by simp; omega)⟩
  clear hK K
  refine takeD (i := 6) (d := 1) (v := ?_) rfl rfl (by kernel_rfl) (by kernel_rfl) (by kernel_rfl) (fun _ _ _ h => h) (Or.inl ⟨by rfl, ?_⟩) hHeld ?_
  rotate_left 1
  · (intro w hSw; (try dsimp only at hSw); go_simp; (try with_reducible rfl))
  simp only [List.setIfInBounds_toArray, List.set_cons_zero, List.set_cons_succ]
  refine takeD (i := 7) (d := 6) (v := ?_) rfl rfl (by kernel_rfl) (by kernel_rfl) (by kernel_rfl) (fun _ _ _ h => h) (Or.inl ⟨by rfl, ?_⟩) hHeld ?_
  rotate_left 1
  · (intro w hSw; (try dsimp only at hSw); go_simp; (try with_reducible rfl))
  simp only [List.setIfInBounds_toArray, List.set_cons_zero, List.set_cons_succ]
  refine wpAnyH_done (by kernel_rfl) ?_ _
  have HM7 := Lib.hid hHeld.1
  have HG7 := Lib.hid R7
  have HR7 := Lib.hid (M7.heap (show w6.drew.heap[w.heap.size + 1]? = _ from HR6.out) (by simp))
  have HK7 := Lib.hid (show Mods [w.heap.size, w.heap.size + 1] w5 w7 from HK6.out.drew.comp M7 (fun k hk => by simp at hk; exact .inl (by simp; omega)))
  clear hHeld R7 M7 HK6 HM6 HG6 HR6 HQ6
  generalize B.drop nn = R at HRR HRb HRl HRS
  have hc2 : 13 ≤ cap - nn := by omega
  have hc3 : cap - nn ≤ 9223372036854775807 := by omega
  have HRE2 := Lib.hid hc
  clear HCB d1 d1' d2 d2' n1 n2 hcap hc HRT
  generalize off + nn = o2 at HRR ⊢
  generalize cap - nn = c2 at HRR hc2 hc3 ⊢
  have HRB : Hid (∀ W, Mods [] w W → ∀ i, i < 13 → W.cell? ⟨bb, o2 + i, none⟩ = some (.int .u8 (b8 R i : Nat))) := Lib.hid (fun W M i hi => by
    obtain ⟨_, _, he, _, _, hcc⟩ := (HRR.out W M).u8
    injection he with he1 _ _
    obtain ⟨b', o', h', hx⟩ := hcc i (by rw [HRl.out]; exact hi)
    rw [← he1] at h'
    cases h'
    rw [u8_getD HRb.out] at hx
    exact hx)
  have HW : Hid (∀ W i, Mods [] w W → i + 2 ≤ 13 → Calls Try.prog 117 #[.slice (some ⟨bb, o2 + i, none⟩) (13 - i) (c2 - i)] W fun e w' => e = .returned (.int .u16 (w16 R i : Nat)) ∧ ∃ n, w' = W.drewN n) := Lib.hid (fun W i M hi => by
    have := (HRR.out W M).sub i 13 (by omega) (by rw [HRl.out]; exact Nat.le_refl _)
    have h := word_ok W _ _ this ((HRb.out.drop i).take _) (by simp; have := HRl.out; omega)
    have e : w16 ((R.drop i).take (13 - i)) 0 = w16 R i := by
      unfold w16
      simp [List.getD_eq_getElem?_getD, show 0 < 13 - i by omega, show 1 < 13 - i by omega]
    rwa [e] at h)
  have k1 : ¬ c2 = 1 := by omega
  have k9 : ¬ c2 = 9 := by omega
  have k11 : ¬ c2 = 11 := by omega
  have k7 : (7 : Int) ≤ (c2 : Int) := by omega
  have c6 : w7.cell? ⟨w.heap.size, 6, none⟩ = some (.bool false) := (cell_blk HG7.out 6).trans x6
  go_wp2_with fail
  try dsimp only [Act.put]
  clear c6
  have hat := fun W => run_arrayAt (P := Try.prog) (w := W) 27 5 6 (some ⟨bb, o2 + 1, none⟩) 6 (c2 - 1) Try.underlying27 (Nat.le_refl _)
  refine heldStart (S := fun W => Mods [] w W) 10 rfl (by kernel_rfl) HM7.out.drew (fun hHeld => ?_)
  refine takeD (i := 0) (d := 45) (v := ?_) rfl rfl (by kernel_rfl) (by kernel_rfl) (by kernel_rfl) (fun _ _ _ h => h) (Or.inl ⟨by rfl, ?_⟩) hHeld ?_
  rotate_left 1
  · (intro w hSw; (try dsimp only at hSw); go_simp; (try with_reducible rfl))
  simp only [List.setIfInBounds_toArray, List.set_cons_zero, List.set_cons_succ]
  refine takeD (i := 1) (d := 46) (v := ?_) rfl rfl (by kernel_rfl) (by kernel_rfl) (by kernel_rfl) (fun _ _ _ h => h) (Or.inl ⟨by rfl, ?_⟩) hHeld ?_
  rotate_left 1
  · (intro w hSw; (try dsimp only at hSw); go_simp; (try with_reducible rfl))
  simp only [List.setIfInBounds_toArray, List.set_cons_zero, List.set_cons_succ]
  refine takeD (i := 2) (d := 47) (v := .int .u8 (b8 R 0 : Nat)) rfl rfl (by kernel_rfl) (by kernel_rfl) (by kernel_rfl) (fun _ _ _ h => h) (Or.inl ⟨by rfl, fun w hSw => ?_⟩) hHeld ?_
  · have cst := HRB.out w hSw 0 (by omega)
    try rw [Nat.add_zero] at cst
    go_simp
  simp only [List.setIfInBounds_toArray, List.set_cons_zero, List.set_cons_succ]
  refine takeD (i := 3) (d := 48) (v := ?_) rfl rfl (by kernel_rfl) (by kernel_rfl) (by kernel_rfl) (fun _ _ _ h => h) (Or.inl ⟨by rfl, ?_⟩) hHeld ?_
  rotate_left 1
  · (intro w hSw; (try dsimp only at hSw); go_simp; (try with_reducible rfl))
  simp only [List.setIfInBounds_toArray, List.set_cons_zero, List.set_cons_succ]
  refine takeD (i := 4) (d := 49) (v := ?_) rfl rfl (by kernel_rfl) (by kernel_rfl) (by kernel_rfl) (fun _ _ _ h => h) (Or.inl ⟨by rfl, ?_⟩) hHeld ?_
  rotate_left 1
  · (intro w hSw; (try dsimp only at hSw); go_simp; (try with_reducible rfl))
  simp only [List.setIfInBounds_toArray, List.set_cons_zero, List.set_cons_succ]
  refine takeD (i := 5) (d := 50) (v := ?_) rfl rfl (by kernel_rfl) (by kernel_rfl) (by kernel_rfl) (fun _ _ _ h => h) (Or.inl ⟨by rfl, ?_⟩) hHeld ?_
  rotate_left 1
  · (intro w hSw; (try dsimp only at hSw); go_simp; (try with_reducible rfl))
  simp only [List.setIfInBounds_toArray, List.set_cons_zero, List.set_cons_succ]
  refine takeD (i := 6) (d := 51) (v := .agg #[.int .u8 (b8 R 1 : Nat), .int .u8 (b8 R 2 : Nat), .int .u8 (b8 R 3 : Nat), .int .u8 (b8 R 4 : Nat), .int .u8 (b8 R 5 : Nat), .int .u8 (b8 R 6 : Nat)]) rfl rfl (by kernel_rfl) (by kernel_rfl) (by kernel_rfl) (fun _ _ _ h => h) (yieldsIf_load_mid (by rfl) 27 (.tmp 50) rfl bb (o2 + 1) rfl [.int .u8 (b8 R 1 : Nat), .int .u8 (b8 R 2 : Nat), .int .u8 (b8 R 3 : Nat), .int .u8 (b8 R 4 : Nat), .int .u8 (b8 R 5 : Nat), .int .u8 (b8 R 6 : Nat)] _ (fun W hSw => ?_) Try.underlying27 rfl Try.infoR6) hHeld ?_
  · intro j u hu
    have hj : j < 6 := (List.getElem?_eq_some_iff.1 hu).1
    have hx := HRB.out W hSw (1 + j) (by omega)
    rw [← Nat.add_assoc] at hx
    rw [hx]
    match j, hj with
    | 0, _ | 1, _ | 2, _ | 3, _ | 4, _ | 5, _ => exact hu
  simp only [List.setIfInBounds_toArray, List.set_cons_zero, List.set_cons_succ]
  refine takeD (i := 7) (d := 52) (v := ?_) rfl rfl (by kernel_rfl) (by kernel_rfl) (by kernel_rfl) (fun _ _ _ h => h) (Or.inl ⟨by rfl, ?_⟩) hHeld ?_
  rotate_left 1
  · (intro w hSw; (try dsimp only at hSw); go_simp; (try with_reducible rfl))
  simp only [List.setIfInBounds_toArray, List.set_cons_zero, List.set_cons_succ]
  refine takeD (i := 8) (d := 53) (v := ?_) rfl rfl (by kernel_rfl) (by kernel_rfl) (by kernel_rfl) (fun _ _ _ h => h) (Or.inl ⟨by rfl, ?_⟩) hHeld ?_
  rotate_left 1
  · (intro w hSw; (try dsimp only at hSw); go_simp; (try with_reducible rfl))
  simp only [List.setIfInBounds_toArray, List.set_cons_zero, List.set_cons_succ]
  refine wpAnyH_ready (rs := [9]) (by kernel_rfl) (by simp) ?_
  refine AllReadyH.cons rfl (fun K hK => ?_) AllReadyH.nil
  refine exec_store_part rfl rfl rfl (show w7.drew.heap[w.heap.size]? = _ from HG7.out) 14 rfl rfl (by show 14 + 7 ≤ 28; omega) Try.infoTh (lims_one _ _ _ _ _ _ _) (fun w8 R8 M8 => ?_)
  rw [setAll_lims] at R8
  refine hK.out _ _ ?_ (fun hHeld => ?_)
  · exact hHeld.comp M8 (fun k hk => by simp at hk; exact .inr (by omega))
  clear hK K
  refine wpAnyH_done (by kernel_rfl) ?_ _
  have HM8 := Lib.hid hHeld
  have HG8 := Lib.hid R8
  have HR8 := Lib.hid (M8.heap (show w7.drew.heap[w.heap.size + 1]? = _ from HR7.out) (by simp))
  have HK8 := Lib.hid (show Mods [w.heap.size, w.heap.size + 1] w5 w8 from HK7.out.drew.comp M8 (fun k hk => by simp at hk; exact .inl (by simp; omega)))
  clear hHeld R8 M8 HK7 HM7 HG7 HR7
  go_wp2_with fail
  try dsimp only [Act.put]
  refine heldStart (S := fun W => Mods [] w W) 10 rfl (by kernel_rfl) HM8.out.drew (fun hHeld => ?_)
  refine takeD (i := 0) (d := 54) (v := ?_) rfl rfl (by kernel_rfl) (by kernel_rfl) (by kernel_rfl) (fun _ _ _ h => h) (Or.inl ⟨by rfl, ?_⟩) hHeld ?_
  rotate_left 1
  · (intro w hSw; (try dsimp only at hSw); go_simp; (try with_reducible rfl))
  simp only [List.setIfInBounds_toArray, List.set_cons_zero, List.set_cons_succ]
  refine takeD (i := 1) (d := 55) (v := ?_) rfl rfl (by kernel_rfl) (by kernel_rfl) (by kernel_rfl) (fun _ _ _ h => h) (Or.inl ⟨by rfl, ?_⟩) hHeld ?_
  rotate_left 1
  · (intro w hSw; (try dsimp only at hSw); go_simp; (try with_reducible rfl))
  simp only [List.setIfInBounds_toArray, List.set_cons_zero, List.set_cons_succ]
  refine takeD (i := 2) (d := 56) (v := .int .u8 (b8 R 7 : Nat)) rfl rfl (by kernel_rfl) (by kernel_rfl) (by kernel_rfl) (fun _ _ _ h => h) (Or.inl ⟨by rfl, fun w hSw => ?_⟩) hHeld ?_
  · have cst := HRB.out w hSw 7 (by omega)
    try rw [Nat.add_zero] at cst
    go_simp
  simp only [List.setIfInBounds_toArray, List.set_cons_zero, List.set_cons_succ]
  refine takeD (i := 3) (d := 57) (v := ?_) rfl rfl (by kernel_rfl) (by kernel_rfl) (by kernel_rfl) (fun _ _ _ h => h) (Or.inl ⟨by rfl, ?_⟩) hHeld ?_
  rotate_left 1
  · (intro w hSw; (try dsimp only at hSw); go_simp; (try with_reducible rfl))
  simp only [List.setIfInBounds_toArray, List.set_cons_zero, List.set_cons_succ]
  refine takeD (i := 4) (d := 58) (v := ?_) rfl rfl (by kernel_rfl) (by kernel_rfl) (by kernel_rfl) (fun _ _ _ h => h) (Or.inl ⟨by rfl, ?_⟩) hHeld ?_
  rotate_left 1
  · (intro w hSw; (try dsimp only at hSw); go_simp; (try with_reducible rfl))
  simp only [List.setIfInBounds_toArray, List.set_cons_zero, List.set_cons_succ]
  refine takeD (i := 5) (d := 59) (v := .int .u8 (b8 R 8 : Nat)) rfl rfl (by kernel_rfl) (by kernel_rfl) (by kernel_rfl) (fun _ _ _ h => h) (Or.inl ⟨by rfl, fun w hSw => ?_⟩) hHeld ?_
  · have cst := HRB.out w hSw 8 (by omega)
    try rw [Nat.add_zero] at cst
    go_simp
  simp only [List.setIfInBounds_toArray, List.set_cons_zero, List.set_cons_succ]
  refine takeD (i := 6) (d := 60) (v := ?_) rfl rfl (by kernel_rfl) (by kernel_rfl) (by kernel_rfl) (fun _ _ _ h => h) (Or.inl ⟨by rfl, ?_⟩) hHeld ?_
  rotate_left 1
  · (intro w hSw; (try dsimp only at hSw); go_simp; (try with_reducible rfl))
  simp only [List.setIfInBounds_toArray, List.set_cons_zero, List.set_cons_succ]
  have cx : w8.cell? ⟨w.heap.size, 21, none⟩ = some (.int .u8 S.hl) := (cell_blk HG8.out 21).trans rfl
  have fx : w8.frozen? ⟨w.heap.size, 21, none⟩ = false := froz_blk HG8.out 21
  refine wpAnyH_ready (rs := [7]) (by kernel_rfl) (by simp) ?_
  refine AllReadyH.cons rfl (fun K hK => ?_) AllReadyH.nil
  go_simp
  refine hK.out _ _ ?_ (fun hHeld => ?_)
  · exact hHeld.setCell (.inr (Nat.le_refl _)) _
  clear hK K
  have G9 : ((w8.setCell ⟨w.heap.size, 21, none⟩ (.int .u8 (b8 R 7 : Nat))).drew).heap[w.heap.size]? = _ := heap_setCell (i := 21) (v := .int .u8 (b8 R 7 : Nat)) HG8.out
  have R9 : ((w8.setCell ⟨w.heap.size, 21, none⟩ (.int .u8 (b8 R 7 : Nat))).drew).heap[w.heap.size + 1]? = _ := heap_setCell_ne (a := ⟨w.heap.size, 21, none⟩) (v := .int .u8 (b8 R 7 : Nat)) HR8.out (by simp)
  have K9 := (HK8.out.setCell (p := ⟨w.heap.size, 21, none⟩) (.inl (by simp)) (.int .u8 (b8 R 7 : Nat))).drew
  clear cx fx HG8 HR8 HK8 HM8
  generalize (w8.setCell ⟨w.heap.size, 21, none⟩ (.int .u8 (b8 R 7 : Nat))).drew = w9 at G9 R9 K9 hHeld ⊢
  have cx : w9.cell? ⟨w.heap.size, 22, none⟩ = some (.int .u8 S.hu) := (cell_blk G9 22).trans rfl
  have fx : w9.frozen? ⟨w.heap.size, 22, none⟩ = false := froz_blk G9 22
  refine takeD (i := 8) (d := 61) (v := ?_) rfl rfl (by kernel_rfl) (by kernel_rfl) (by kernel_rfl) (fun _ _ _ h => h) (Or.inl ⟨by rfl, ?_⟩) hHeld ?_
  rotate_left 1
  · (intro w hSw; (try dsimp only at hSw); go_simp; (try with_reducible rfl))
  simp only [List.setIfInBounds_toArray, List.set_cons_zero, List.set_cons_succ]
  refine wpAnyH_ready (rs := [9]) (by kernel_rfl) (by simp) ?_
  refine AllReadyH.cons rfl (fun K hK => ?_) AllReadyH.nil
  go_simp
  refine hK.out _ _ ?_ (fun hHeld => ?_)
  · exact hHeld.setCell (.inr (Nat.le_refl _)) _
  clear hK K
  have GA := heap_setCell (i := 22) (v := .int .u8 (b8 R 8 : Nat)) G9
  have RA := heap_setCell_ne (a := ⟨w.heap.size, 22, none⟩) (v := .int .u8 (b8 R 8 : Nat)) R9 (by simp)
  have KA := K9.setCell (p := ⟨w.heap.size, 22, none⟩) (.inl (by simp)) (.int .u8 (b8 R 8 : Nat))
  clear cx fx G9 R9 K9
  generalize w9.setCell ⟨w.heap.size, 22, none⟩ (.int .u8 (b8 R 8 : Nat)) = wa at GA RA KA hHeld ⊢
  refine wpAnyH_done (by kernel_rfl) ?_ _
  obtain ⟨SA, hSA⟩ : ∃ SA : Sen, SA = { S with conv := CC, mask := b8 R 0, r0 := b8 R 1, r1 := b8 R 2, r2 := b8 R 3, r3 := b8 R 4, r4 := b8 R 5, r5 := b8 R 6, hl := b8 R 7, hu := b8 R 8 } := ⟨_, rfl⟩
  have HMA := Lib.hid hHeld
  have HGA : Hid (wa.heap[w.heap.size]? = some (.cells SA.cells 32 (0, 0))) := Lib.hid (by rw [GA, hSA]; rfl)
  have HRA := Lib.hid RA
  have HKA := Lib.hid KA
  have HSA := Lib.hid hSA
  clear hHeld GA RA KA hSA
  go_wp2_with fail
  have hq9 : IntKind.i64.wrap 9 = 9 := by decide
  have hq11 : IntKind.i64.wrap 11 = 11 := by decide
  have k9' : (9 : Int) ≤ (c2 : Int) := by omega
  have k11' : (11 : Int) ≤ (c2 : Int) := by omega
  try dsimp only [Act.put]
  refine heldStart (S := fun W => Mods [] w W) 14 rfl (by kernel_rfl) HMA.out.drew (fun hHeld => ?_)
  refine takeD (i := 0) (d := 62) (v := ?_) rfl rfl (by kernel_rfl) (by kernel_rfl) (by kernel_rfl) (fun _ _ _ h => h) (Or.inl ⟨by rfl, ?_⟩) hHeld ?_
  rotate_left 1
  · (intro w hSw; (try dsimp only at hSw); go_simp; (try with_reducible rfl))
  simp only [List.setIfInBounds_toArray, List.set_cons_zero, List.set_cons_succ]
  refine takeD (i := 1) (d := 63) (v := ?_) rfl rfl (by kernel_rfl) (by kernel_rfl) (by kernel_rfl) (fun _ _ _ h => h) (Or.inl ⟨by rfl, ?_⟩) hHeld ?_
  rotate_left 1
  · (intro w hSw; (try dsimp only at hSw); go_simp; (try with_reducible rfl))
  simp only [List.setIfInBounds_toArray, List.set_cons_zero, List.set_cons_succ]
  refine takeD (i := 2) (d := 64) (v := ?_) rfl rfl (by kernel_rfl) (by kernel_rfl) (by kernel_rfl) (fun _ _ _ h => h) (Or.inl ⟨by rfl, ?_⟩) hHeld ?_
  rotate_left 1
  · (intro w hSw; (try dsimp only at hSw); go_simp; (try with_reducible rfl))
  simp only [List.setIfInBounds_toArray, List.set_cons_zero, List.set_cons_succ]
  refine takeD (i := 3) (d := 65) (v := ?_) rfl rfl (by kernel_rfl) (by kernel_rfl) (by kernel_rfl) (fun _ _ _ h => h) (Or.inl ⟨by rfl, ?_⟩) hHeld ?_
  rotate_left 1
  · (intro w hSw; (try dsimp only at hSw); go_simp; (try with_reducible rfl))
  simp only [List.setIfInBounds_toArray, List.set_cons_zero, List.set_cons_succ]
  refine takeD (i := 5) (d := 67) (v := ?_) rfl rfl (by kernel_rfl) (by kernel_rfl) (by kernel_rfl) (fun _ _ _ h => h) (Or.inl ⟨by rfl, ?_⟩) hHeld ?_
  rotate_left 1
  · (intro w hSw; (try dsimp only at hSw); go_simp; (try with_reducible rfl))
  simp only [List.setIfInBounds_toArray, List.set_cons_zero, List.set_cons_succ]
  refine takeD (i := 6) (d := 68) (v := ?_) rfl rfl (by kernel_rfl) (by kernel_rfl) (by kernel_rfl) (fun _ _ _ h => h) (Or.inl ⟨by rfl, ?_⟩) hHeld ?_
  rotate_left 1
  · (intro w hSw; (try dsimp only at hSw); go_simp; (try with_reducible rfl))
  simp only [List.setIfInBounds_toArray, List.set_cons_zero, List.set_cons_succ]
  refine takeD (i := 7) (d := 69) (v := ?_) rfl rfl (by kernel_rfl) (by kernel_rfl) (by kernel_rfl) (fun _ _ _ h => h) (Or.inl ⟨by rfl, ?_⟩) hHeld ?_
  rotate_left 1
  · (intro w hSw; (try dsimp only at hSw); go_simp; (try with_reducible rfl))
  simp only [List.setIfInBounds_toArray, List.set_cons_zero, List.set_cons_succ]
  refine takeD (i := 8) (d := 70) (v := ?_) rfl rfl (by kernel_rfl) (by kernel_rfl) (by kernel_rfl) (fun _ _ _ h => h) (Or.inl ⟨by rfl, ?_⟩) hHeld ?_
  rotate_left 1
  · (intro w hSw; (try dsimp only at hSw); go_simp; (try with_reducible rfl))
  simp only [List.setIfInBounds_toArray, List.set_cons_zero, List.set_cons_succ]
  refine wpAnyH_ready (rs := [4]) (by kernel_rfl) (by simp) ?_
  refine AllReadyH.cons rfl (fun K hK => ?_) AllReadyH.nil
  go_simp
  go_wp2_with (go_at_call 117; refine (HW.out _ 9 hHeld (by omega)).mono ?_; rintro e w4 ⟨rfl, n4, rfl⟩)
  refine hK.out _ _ ?_ (fun hHeld => ?_)
  · exact HMA.out.drewN _
  clear hK K
  refine takeD (i := 10) (d := 72) (v := ?_) rfl rfl (by kernel_rfl) (by kernel_rfl) (by kernel_rfl) (fun _ _ _ h => h) (Or.inl ⟨by rfl, ?_⟩) hHeld ?_
  rotate_left 1
  · (intro w hSw; (try dsimp only at hSw); go_simp; (try with_reducible rfl))
  simp only [List.setIfInBounds_toArray, List.set_cons_zero, List.set_cons_succ]
  refine wpAnyH_ready (rs := [9]) (by kernel_rfl) (by simp) ?_
  refine AllReadyH.cons rfl (fun K hK => ?_) AllReadyH.nil
  go_simp
  go_wp2_with (go_at_call 117; refine (HW.out _ 11 hHeld (by omega)).mono ?_; rintro e w5 ⟨rfl, n5, rfl⟩)
  refine hK.out _ _ ?_ (fun hHeld => ?_)
  · exact HMA.out.drewN _
  clear hK K
  have G5 : (wa.drewN (1 + n4 + n5)).heap[w.heap.size]? = _ := HGA.out
  have R5 : (wa.drewN (1 + n4 + n5)).heap[w.heap.size + 1]? = _ := HRA.out
  have K5 := HKA.out.drewN (1 + n4 + n5)
  clear HGA HRA HMA HKA
  generalize wa.drewN (1 + n4 + n5) = wb at hHeld G5 R5 K5 ⊢
  have HS : Hid (SA.asrt = S.asrt ∧ SA.deas = S.deas) := Lib.hid (by rw [HSA.out]; exact ⟨rfl, rfl⟩)
  have cx : wb.cell? ⟨w.heap.size, 24, none⟩ = some (.int .u16 (SA.asrt : Nat)) := (cell_blk G5 24).trans rfl
  have fx : wb.frozen? ⟨w.heap.size, 24, none⟩ = false := froz_blk G5 24
  refine wpAnyH_ready (rs := [11]) (by kernel_rfl) (by simp) ?_
  refine AllReadyH.cons rfl (fun K hK => ?_) AllReadyH.nil
  go_simp
  refine hK.out _ _ ?_ (fun hHeld => ?_)
  · exact hHeld.setCell (.inr (Nat.le_refl _)) _
  clear hK K
  have G6 := heap_setCell (i := 24) (v := .int .u16 (w16 R 9 : Nat)) G5
  have R6 := heap_setCell_ne (a := ⟨w.heap.size, 24, none⟩) (v := .int .u16 (w16 R 9 : Nat)) R5 (by simp)
  have K6 := K5.setCell (p := ⟨w.heap.size, 24, none⟩) (.inl (by simp)) (.int .u16 (w16 R 9 : Nat))
  clear cx fx G5 R5 K5
  generalize wb.setCell ⟨w.heap.size, 24, none⟩ (.int .u16 (w16 R 9 : Nat)) = wc at G6 R6 K6 hHeld ⊢
  have cx : wc.cell? ⟨w.heap.size, 25, none⟩ = some (.int .u16 (SA.deas : Nat)) := (cell_blk G6 25).trans rfl
  have fx : wc.frozen? ⟨w.heap.size, 25, none⟩ = false := froz_blk G6 25
  refine takeD (i := 12) (d := 73) (v := ?_) rfl rfl (by kernel_rfl) (by kernel_rfl) (by kernel_rfl) (fun _ _ _ h => h) (Or.inl ⟨by rfl, ?_⟩) hHeld ?_
  rotate_left 1
  · (intro w hSw; (try dsimp only at hSw); go_simp; (try with_reducible rfl))
  simp only [List.setIfInBounds_toArray, List.set_cons_zero, List.set_cons_succ]
  refine wpAnyH_ready (rs := [13]) (by kernel_rfl) (by simp) ?_
  refine AllReadyH.cons rfl (fun K hK => ?_) AllReadyH.nil
  go_simp
  refine hK.out _ _ ?_ (fun hHeld => ?_)
  · exact hHeld.setCell (.inr (Nat.le_refl _)) _
  clear hK K
  have G7 := heap_setCell (i := 25) (v := .int .u16 (w16 R 11 : Nat)) G6
  have R7 := heap_setCell_ne (a := ⟨w.heap.size, 25, none⟩) (v := .int .u16 (w16 R 11 : Nat)) R6 (by simp)
  have K7 := K6.setCell (p := ⟨w.heap.size, 25, none⟩) (.inl (by simp)) (.int .u16 (w16 R 11 : Nat))
  clear cx fx G6 R6 K6
  generalize wc.setCell ⟨w.heap.size, 25, none⟩ (.int .u16 (w16 R 11 : Nat)) = wd at G7 R7 K7 hHeld ⊢
  refine wpAnyH_done (by kernel_rfl) ?_ _
  have HM7 := Lib.hid hHeld
  obtain ⟨S4, hS4⟩ : ∃ S4 : Sen, S4 = ana13 S CC R := ⟨_, rfl⟩
  have HG7 : Hid (wd.heap[w.heap.size]? = some (.cells S4.cells 32 (0, 0))) := Lib.hid (by rw [G7, hS4, HSA.out]; rfl)
  have HR7 := Lib.hid R7
  have HK7 := Lib.hid K7
  have hp4 : S4.conv.pts.oneCell' = true := by rw [hS4]; exact hpc
  have HS4 := Lib.hid hS4
  clear hHeld G7 R7 K7 hS4
  go_wp2_with (first
    | (refine wpList_load_sen rfl (.tmp 2) rfl (SenBox.mk HG7.out) (by rfl) ?_)
    | (refine wpList_store_row (cs := S4.cells) rfl 32 (.tmp 4) (.tmp 74) rfl HR7.out (by rfl) (by rfl) rfl (Sen.infoS _) (Sen.one _ hp4) ?_; intro wz Rz Mz))
  have HM9 := HM7.out.comp Mz (fun k hk => by simp at hk; exact .inr (by omega))
  have OPZ := (HO5.out.mods (HK7.out.comp Mz (fun k hk => by simp at hk; exact .inl (by simp; omega))) (by simp; omega))
  refine bodyPost_ret (results_cell_row2 rfl _ _ (w.heap.size + 1) _ _ _ _ rfl Rz Try.underlying32 rfl (Sen.infoS _)) rfl ?_
  show RestRes w S B _ wz
  unfold RestRes
  rw [if_pos HR.out, HRP.out]
  exact ⟨pv, by rw [HRS.out, ← HCC.out, ← HS4.out]; rfl, OPZ.down (by simp; omega), HM9⟩
theorem rest_ok (w : World) (S : Sen) (v : Value) (B : List Int) (hv : Rd w v (u8s B)) (hb : Bytes B) (hp : S.conv.pts.oneCell' = true) :
    Calls Try.prog 83 #[.agg S.cells, v] w fun e w' => RestRes w S B e w' := by
  cases hd : S.disc with
  | true =>
    by_cases hl : B.length = 6
    · exact rest_disc w S v B hv hb hp hd hl
    · exact rest_dcut w S v B hv hb hp hd hl
  | false =>
    by_cases hl : errC B = 0
    · by_cases hc : (B.drop (lenC B).1.toNat).length = 13
      · exact rest_ana w S v B hv hb hd hl hc
      · exact rest_acut w S v B hv hb hd hl hc
    · exact rest_aerr w S v B hv hb hp hd hl
end Go.Proofs.Ytgjjmiaiclhidaa
