/- Joined texts. sensor.Encode of a valid analog sensor: contract. | sensor.Encode: contract. -/
import Derived.Test.YtgjjmiaiclhidaaConvEnc
namespace Go.Proofs.Ytgjjmiaiclhidaa
open Go.RowKit

def flagS (S : Sen) : Int := 4 * S.samples + (if S.disc then 1 else 0) + (if S.host then 2 else 0)
def rawsL (S : Sen) : List Int := [S.r0, S.r1, S.r2, S.r3, S.r4, S.r5]
/-- The bytes of a sensor, without the sum. -/
def senL (S : Sen) (P : List Pt) : List Int :=
  headL S (flagS S) ++ nameL S.name ++ (if S.disc then twoL [S.states, S.asrt, S.deas] else convL S.conv P ++ [(S.mask : Int)] ++ rawsL S ++ [(S.hl : Int), (S.hu : Int)] ++ twoL [S.asrt, S.deas])
theorem or2 (x : Int) (h : x = 1 ∨ x = 3 ∨ x = 5) : bits .or .u8 (4 * x) 2 = 4 * x + 2 := by
  rcases h with rfl | rfl | rfl <;> decide
theorem convL_length_le {C : Conv} {P : List Pt} (h : convB C P = true) : (convL C P).length ≤ 100 := by
  unfold convL
  by_cases h5 : C.form = 5
  · have := convB_tab h h5
    rw [if_pos h5, List.length_cons, List.length_cons, ptsL_length]; omega
  · rw [if_neg h5, List.length_cons, List.length_append, List.length_append, leL_length, leL_length]; simp
theorem convL_bytes {C : Conv} {P : List Pt} (h : convB C P = true) (hP : PtsOk P) : ∀ x ∈ convL C P, 0 ≤ x ∧ x ≤ 255 := by
  have hf : 1 ≤ C.form ∧ C.form ≤ 5 := by
    by_cases h5 : C.form = 5
    · omega
    · have := convB_lin h h5; omega
  intro x hx
  unfold convL at hx
  rcases List.mem_cons.1 hx with rfl | hx
  · split <;> omega
  · by_cases h5 : C.form = 5
    · rw [if_pos h5] at hx
      have := convB_tab h h5
      rcases List.mem_cons.1 hx with rfl | hx
      · omega
      · simp only [ptsL, List.mem_flatMap] at hx
        obtain ⟨p, hp, hx⟩ := hx
        rcases List.mem_cons.1 hx with rfl | hx
        · obtain ⟨i, hi, rfl⟩ := List.getElem_of_mem hp
          have := hP.raw i
          rw [List.getD_eq_getElem?_getD, List.getElem?_eq_getElem hi] at this
          simp at this
          omega
        · exact leL_bytes _ _ x hx
    · rw [if_neg h5] at hx
      simp only [List.mem_append, List.mem_cons, List.mem_nil_iff, or_false] at hx
      rcases hx with (hx | hx) | rfl | rfl
      · exact leL_bytes _ _ x hx
      · exact leL_bytes _ _ x hx
      · omega
      · omega
theorem Sen.conv_range {S : Sen} {w : World} {g : Nat} {T : TypeId} {fr : Nat × Nat} (R : w.heap[g]? = some (.cells S.cells T fr)) : w.rangeAt g 7 S.conv.cells.toList := fun j u hu => by
  rw [cell_blk R]
  have hj : j < 7 := (List.getElem?_eq_some_iff.1 hu).1
  match j, hj with
  | 0, _ | 1, _ | 2, _ | 3, _ | 4, _ | 5, _ | 6, _ => exact hu
theorem rd_of_cells {w : World} {g o : Nat} {A : List Int} {cap : Nat} (hc : A.length ≤ cap) (hm : cap ≤ maxLen) (h : ∀ i, i < A.length → w.cell? ⟨g, o + i, none⟩ = some (.int .u8 (A.getD i 0))) : Rd w (.slice (some ⟨g, o, none⟩) A.length cap) (u8s A) :=
  ⟨some ⟨g, o, none⟩, cap, by rw [u8s_length], by rw [u8s_length]; exact hc, hm, fun i hi => ⟨g, o, rfl, by rw [u8s_length] at hi; rw [h i hi, u8s_getD _ _ hi]⟩⟩
theorem Sen.raws_rd {S : Sen} {w : World} {g : Nat} {T : TypeId} {fr : Nat × Nat} (R : w.heap[g]? = some (.cells S.cells T fr)) : Rd w (.slice (some ⟨g, 15, none⟩) 6 6) (u8s (rawsL S)) :=
  rd_of_cells (A := rawsL S) (Nat.le_refl _) (by decide) fun i hi => by
    rw [cell_blk R]
    match i, (show i < 6 from hi) with
    | 0, _ | 1, _ | 2, _ | 3, _ | 4, _ | 5, _ => rfl
set_option maxRecDepth 100000 in
set_option maxHeartbeats 2000000 in
theorem encodeA_ok (w : World) (S : Sen) (P : List Pt) (hS : IsSen w S P) (hd : S.disc = false) (hv : validB S P = true) :
    Calls Try.prog 27 #[.agg S.cells] w fun e w' => EncOut w (seal8 (senL S P)) e w' := by
  have hp : (S.samples = 1 ∨ S.samples = 3 ∨ S.samples = 5) ∧ S.name.size ≤ 16 ∧ convB S.conv P = true := by
    have h0 := hv
    unfold validB at hv
    rw [hd] at hv
    simp only [Bool.and_eq_true, nameB, decide_eq_true_eq, Bool.false_eq_true, if_false, analogB] at hv
    exact ⟨hv.1.2, hv.1.1.1.2, hv.2.1.1.1.1.1⟩
  obtain ⟨hsm, hn16, hcv⟩ := hp
  have HCV := Lib.hid hcv
  have HV := Lib.hid hv
  have HS := Lib.hid hS
  have HD := Lib.hid hd
  have hlc := convL_length_le hcv
  have b0 := hS.number
  have b1 := hS.type
  have b2 := hS.unit
  have b4 := hS.eid
  have b5 := hS.einst
  have b24 := hS.asrt
  have b25 := hS.deas
  have eor := or2 S.samples hsm
  have hsb : 1 ≤ S.samples ∧ S.samples ≤ 5 := by omega
  obtain ⟨hs1, hs5⟩ := hsb
  clear hS hv hcv hsm
  have BB := Lib.hid (SenBox.new w S)
  have M0 := Lib.hid ((Mods.refl (S := []) (w := w)).alloc (.cells S.cells 32))
  obtain ⟨i0, hi, hz0, hz1, hz2⟩ := info_parts Try.infoB
  go_enter Try.func27, Try.ntmps27
  go_wp2_with (refine wpList_load_sen rfl (.tmp 1) rfl BB.out (by rfl) ?_)
  refine (valid_ok _ S P (HS.out.mods0 M0.out)).mono ?_
  rw [HV.out]
  rintro e w2 ⟨rfl, M2⟩
  have B2 := BB.out.mods0 M2
  have HM := Lib.hid (M0.out.trans M2)
  have c27 := B2.rest.2.2.2.2.2.2
  have c6 : w2.cell? ⟨w.heap.size, 6, none⟩ = some (.bool false) := by rw [B2.head.2.2.2.2.2.2, hd]
  have c26 := B2.rest.2.2.2.2.2.1
  obtain ⟨c0, c1, c2, c3, c4, c5, _⟩ := B2.head
  have HH := Lib.hid (B2.blk)
  have hzz : w.heap.size + 1 ≤ w2.heap.size := by have := (M0.out.trans M2).size; have := lt_of_block B2.blk; omega
  clear B2 BB M0 M2 HV hd
  generalize hg : w.heap.size = g at c27 c6 c26 c0 c1 c2 c3 c4 c5 HH hzz ⊢
  have HG := Lib.hid hg
  clear hg
  have hnm : S.name.size ≤ 9223372036854775807 := by omega
  cases hh : S.host with
  | false =>
    rw [hh] at c26
    have HF := Lib.hid (show flagS S = (4*S.samples) by unfold flagS; rw [hh, HD.out]; simp)
    clear hh
    have MA := (Mods.refl (S := []) (w := w2)).alloc (.cells #[.int .u8 1, .int .u8 (S.number : Int), .int .u8 (S.type : Int), .int .u8 (S.unit : Int), .int .u8 (S.eid : Int), .int .u8 (S.einst : Int), .int .u8 (4*S.samples), .int .u8 (S.name.size : Int)] 5)
    have ca3 := MA.cell c3 (by simp)
    go_wp2_with (first | (at_builtin; refine Lib.wpList_append_own_string _ rfl (.tmp 41) (.tmp 43) 33 9 rfl (g + 1) 5 i0 Try.underlying33 Try.underlying9 hi hz0 hz1 hz2 _ 8 (u8s (headL S ((4*S.samples)))) (by rfl) (World.ownsRow_lit w2 #[.int .u8 1, .int .u8 S.number, .int .u8 S.type, .int .u8 S.unit, .int .u8 S.eid, .int .u8 S.einst, .int .u8 (4*S.samples), .int .u8 S.name.size] 8 hzz (by decide) rfl) S.name (by rfl) (by unfold maxLen; omega) (by omega) (by simp; omega) ?_; intro v3 w3 O3 G3 _; have HM3 := Lib.hid ((HM.out.trans MA).grown G3 (fun q hq => .inr (by simp [Value.ownBlock] at hq; have := HG.out; omega))); have HH3 : Hid (w3.heap[g]? = some (.cells S.cells 32 (0, 0))) := Lib.hid ((Mods.of_grown G3).heap (MA.heap HH.out (by simp)) (by simp [Value.ownBlock]; omega)); have q6 : w3.cell? ⟨g, 6, none⟩ = some (.bool false) := (by rw [cell_blk HH3.out]; rw [cell_blk HH.out] at c6; exact c6); have hz3 : g + 1 ≤ w3.heap.size := (by have := G3.size; simp at this; omega); have HO3 : Hid (OwnB w3 (g + 1) v3 (headL S ((4*S.samples)) ++ nameL S.name)) := Lib.hid (by unfold OwnB; rw [u8s_length, List.length_append, nameL_length]; have e : u8s (headL S ((4*S.samples)) ++ nameL S.name) = u8s (headL S ((4*S.samples))) ++ Lib.strCells S.name := (by rw [nameL_cells]; simp [u8s]); rw [e]; exact O3); clear G3 O3 MA ca3) | (refine wpList_load_mid rfl 26 (.tmp 59) rfl g 7 (by rfl) S.conv.cells.toList _ (Sen.conv_range HH3.out) Try.underlying26 rfl Try.infoC ?_; rw [Array.toArray_toList]))
    clear q6 c27 c6 c26 c0 c1 c2 c3 c4 c5 HH HM
    refine (convEnc_ok w3 S.conv P (HS.out.conv.mods0 HM3.out)).mono ?_
    rw [HCV.out]
    intro e w4 hE
    obtain ⟨v4, rfl, O4, M4⟩ : EncOut _ _ _ _ := hE
    have HO4 := Lib.hid (show OwnB _ _ _ _ from O4)
    have HO3 := Lib.hid (HO3.out.mods0 M4)
    have HM4 := Lib.hid (HM3.out.trans M4)
    have HH4 := Lib.hid (M4.heap HH3.out (by simp))
    have hz4 : g + 1 ≤ w4.heap.size := Nat.le_trans hz3 M4.size
    have hlen3 : (headL S ((4*S.samples)) ++ nameL S.name).length ≤ 24 := by rw [List.length_append, nameL_length]; simp [headL]; omega
    clear O4 M4 HM3 HH3 hz3
    generalize hhd : headL S ((4*S.samples)) ++ nameL S.name = A3 at HO3 hlen3
    have HHD := Lib.hid hhd
    clear hhd
    go_wp2_with fail
    try dsimp only [Act.put]
    refine heldStart (S := fun W => W.heap[g]? = some (.cells S.cells 32 (0, 0))) 9 rfl (by kernel_rfl) HH4.out (fun hHeld => ?_)
    refine takeD (i := 0) (d := 64) (v := ?_) rfl rfl (by kernel_rfl) (by kernel_rfl) (by kernel_rfl) (fun _ _ _ h => h) (Or.inl ⟨by rfl, ?_⟩) hHeld ?_
    rotate_left 1
    · (intro w hSw; (try dsimp only at hSw); go_simp; (try with_reducible rfl))
    simp only [List.setIfInBounds_toArray, List.set_cons_zero, List.set_cons_succ]
    refine takeD (i := 1) (d := 65) (v := ?_) rfl rfl (by kernel_rfl) (by kernel_rfl) (by kernel_rfl) (fun _ _ _ h => h) (Or.inl ⟨by rfl, ?_⟩) hHeld ?_
    rotate_left 1
    · (intro w hSw; (try dsimp only at hSw); go_simp; (try with_reducible rfl))
    simp only [List.setIfInBounds_toArray, List.set_cons_zero, List.set_cons_succ]
    refine takeD (i := 3) (d := 67) (v := ?_) rfl rfl (by kernel_rfl) (by kernel_rfl) (by kernel_rfl) (fun _ _ _ h => h) (Or.inl ⟨by rfl, ?_⟩) hHeld ?_
    rotate_left 1
    · (intro w hSw; (try dsimp only at hSw); go_simp; (try with_reducible rfl))
    simp only [List.setIfInBounds_toArray, List.set_cons_zero, List.set_cons_succ]
    refine takeD (i := 4) (d := 68) (v := ?_) rfl rfl (by kernel_rfl) (by kernel_rfl) (by kernel_rfl) (fun _ _ _ h => h) (Or.inl ⟨by rfl, ?_⟩) hHeld ?_
    rotate_left 1
    · (intro w hSw; (try dsimp only at hSw); go_simp; (try with_reducible rfl))
    simp only [List.setIfInBounds_toArray, List.set_cons_zero, List.set_cons_succ]
    refine takeD (i := 5) (d := 69) (v := (.int .u8 (S.mask : Int))) rfl rfl (by kernel_rfl) (by kernel_rfl) (by kernel_rfl) (fun _ _ _ h => h) (Or.inl ⟨by rfl, fun w hSw => ?_⟩) hHeld ?_
    · have cst := (cell_blk hSw 14).trans (show _ = some (.int .u8 (S.mask : Int)) from rfl)
      go_simp
    simp only [List.setIfInBounds_toArray, List.set_cons_zero, List.set_cons_succ]
    refine appLit (fuel := 1) (iA := 2) (iL := 6) (iB := 7) (dA := 66) (dL := 70) (dB := 71) (sA := 64) (sX := 65) (B := g + 1) (v := v3) (vx := v4) (A := A3) (X := convL S.conv P) (X2 := [(S.mask : Int)]) rfl rfl rfl rfl rfl rfl rfl rfl rfl rfl rfl ?rl0 ?rl1 (by kernel_rfl) (by kernel_rfl) (by kernel_rfl) (by kernel_rfl) (by decide) (by decide) (by decide) (by decide) (by simp) (by simp) rfl (HO3.out.mods0 (Mods.refl.drewN 1)) rfl (HO4.out.rd.mods0 (Mods.refl.drewN 1)) (by simp; omega) hz4 (fun w' M => M.heap hHeld (fun hm => by have := mem_from hm; omega)) ?_
    case rl0 => intro w; go_simp; rfl
    case rl1 => intro u w; go_simp; rfl
    intro v5 g5 v6 w6 O6 M6
    have hHeld := M6.heap hHeld (fun hm => by have := mem_from hm; omega)
    have HM6 := Lib.hid ((HM4.out.drewN 1).comp M6 (fun k hk => .inr (by have := mem_from hk; have := HG.out; omega)))
    have hz6 : g + 1 ≤ w6.heap.size := Nat.le_trans hz4 M6.size
    have HO6 := Lib.hid O6
    have hlen6 : (A3 ++ convL S.conv P ++ [(S.mask : Int)]).length ≤ 200 := by simp; omega
    generalize hA6 : A3 ++ convL S.conv P ++ [(S.mask : Int)] = A6 at HO6 hlen6
    have HA6 := Lib.hid hA6
    clear hA6 O6 M6 HO3 HO4 HM4 HH4 hz4
    simp only [List.setIfInBounds_toArray, List.set_cons_zero, List.set_cons_succ]
    refine takeD (i := 8) (d := 5) (v := ?_) rfl rfl (by kernel_rfl) (by kernel_rfl) (by kernel_rfl) (fun _ _ _ h => h) (Or.inl ⟨by rfl, ?_⟩) hHeld ?_
    rotate_left 1
    · (intro w hSw; (try dsimp only at hSw); go_simp; (try with_reducible rfl))
    simp only [List.setIfInBounds_toArray, List.set_cons_zero, List.set_cons_succ]
    refine wpAnyH_done (by kernel_rfl) ?_ _
    have HH6 := Lib.hid hHeld
    clear hHeld
    go_wp2_with fail
    try dsimp only [Act.put]
    refine heldStart (S := fun W => W.heap[g]? = some (.cells S.cells 32 (0, 0))) 12 rfl (by kernel_rfl) HH6.out (fun hHeld => ?_)
    refine takeD (i := 0) (d := 72) (v := ?_) rfl rfl (by kernel_rfl) (by kernel_rfl) (by kernel_rfl) (fun _ _ _ h => h) (Or.inl ⟨by rfl, ?_⟩) hHeld ?_
    rotate_left 1
    · (intro w hSw; (try dsimp only at hSw); go_simp; (try with_reducible rfl))
    simp only [List.setIfInBounds_toArray, List.set_cons_zero, List.set_cons_succ]
    refine takeD (i := 1) (d := 73) (v := ?_) rfl rfl (by kernel_rfl) (by kernel_rfl) (by kernel_rfl) (fun _ _ _ h => h) (Or.inl ⟨by rfl, ?_⟩) hHeld ?_
    rotate_left 1
    · (intro w hSw; (try dsimp only at hSw); go_simp; (try with_reducible rfl))
    simp only [List.setIfInBounds_toArray, List.set_cons_zero, List.set_cons_succ]
    refine takeD (i := 2) (d := 74) (v := ?_) rfl rfl (by kernel_rfl) (by kernel_rfl) (by kernel_rfl) (fun _ _ _ h => h) (Or.inl ⟨by rfl, ?_⟩) hHeld ?_
    rotate_left 1
    · (intro w hSw; (try dsimp only at hSw); go_simp; (try with_reducible rfl))
    simp only [List.setIfInBounds_toArray, List.set_cons_zero, List.set_cons_succ]
    refine takeD (i := 3) (d := 75) (v := ?_) rfl rfl (by kernel_rfl) (by kernel_rfl) (by kernel_rfl) (fun _ _ _ h => h) (Or.inl ⟨by rfl, ?_⟩) hHeld ?_
    rotate_left 1
    · (intro w hSw; (try dsimp only at hSw); go_simp; (try with_reducible rfl))
    simp only [List.setIfInBounds_toArray, List.set_cons_zero, List.set_cons_succ]
    refine takeD (i := 5) (d := 77) (v := ?_) rfl rfl (by kernel_rfl) (by kernel_rfl) (by kernel_rfl) (fun _ _ _ h => h) (Or.inl ⟨by rfl, ?_⟩) hHeld ?_
    rotate_left 1
    · (intro w hSw; (try dsimp only at hSw); go_simp; (try with_reducible rfl))
    simp only [List.setIfInBounds_toArray, List.set_cons_zero, List.set_cons_succ]
    refine takeD (i := 6) (d := 78) (v := (.int .u8 (S.hl : Int))) rfl rfl (by kernel_rfl) (by kernel_rfl) (by kernel_rfl) (fun _ _ _ h => h) (Or.inl ⟨by rfl, fun w hSw => ?_⟩) hHeld ?_
    · have cst := (cell_blk hSw 21).trans (show _ = some (.int .u8 (S.hl : Int)) from rfl)
      go_simp
    simp only [List.setIfInBounds_toArray, List.set_cons_zero, List.set_cons_succ]
    refine takeD (i := 7) (d := 79) (v := ?_) rfl rfl (by kernel_rfl) (by kernel_rfl) (by kernel_rfl) (fun _ _ _ h => h) (Or.inl ⟨by rfl, ?_⟩) hHeld ?_
    rotate_left 1
    · (intro w hSw; (try dsimp only at hSw); go_simp; (try with_reducible rfl))
    simp only [List.setIfInBounds_toArray, List.set_cons_zero, List.set_cons_succ]
    refine takeD (i := 8) (d := 80) (v := (.int .u8 (S.hu : Int))) rfl rfl (by kernel_rfl) (by kernel_rfl) (by kernel_rfl) (fun _ _ _ h => h) (Or.inl ⟨by rfl, fun w hSw => ?_⟩) hHeld ?_
    · have cst := (cell_blk hSw 22).trans (show _ = some (.int .u8 (S.hu : Int)) from rfl)
      go_simp
    simp only [List.setIfInBounds_toArray, List.set_cons_zero, List.set_cons_succ]
    refine appLit (fuel := 1) (iA := 4) (iL := 9) (iB := 10) (dA := 76) (dL := 81) (dB := 82) (sA := 72) (sX := 75) (B := g + 1) (v := v6) (vx := .slice (some ⟨g, 15, none⟩) 6 6) (A := A6) (X := rawsL S) (X2 := [(S.hl : Int), (S.hu : Int)]) rfl rfl rfl rfl rfl rfl rfl rfl rfl rfl rfl ?rl0 ?rl1 (by kernel_rfl) (by kernel_rfl) (by kernel_rfl) (by kernel_rfl) (by decide) (by decide) (by decide) (by decide) (by simp) (by simp) rfl (HO6.out.mods0 (Mods.refl.drewN 1)) rfl (Sen.raws_rd hHeld) (by simp [rawsL]; omega) hz6 (fun w' M => M.heap hHeld (fun hm => by have := mem_from hm; omega)) ?_
    case rl0 => intro w; go_simp; rfl
    case rl1 => intro u w; go_simp; rfl
    intro v7 g7 v8 w8 O8 M8
    have hHeld := M8.heap hHeld (fun hm => by have := mem_from hm; omega)
    have HM8 := Lib.hid ((HM6.out.drewN 1).comp M8 (fun k hk => .inr (by have := mem_from hk; have := HG.out; omega)))
    have hz8 : g + 1 ≤ w8.heap.size := Nat.le_trans hz6 M8.size
    have HO8 := Lib.hid O8
    have hlen8 : (A6 ++ rawsL S ++ [(S.hl : Int), (S.hu : Int)]).length ≤ 300 := by simp [rawsL]; omega
    generalize hA8 : A6 ++ rawsL S ++ [(S.hl : Int), (S.hu : Int)] = A8 at HO8 hlen8
    have HA8 := Lib.hid hA8
    clear hA8 O8 M8 HO6 HM6 HH6 hz6
    simp only [List.setIfInBounds_toArray, List.set_cons_zero, List.set_cons_succ]
    refine takeD (i := 11) (d := 5) (v := ?_) rfl rfl (by kernel_rfl) (by kernel_rfl) (by kernel_rfl) (fun _ _ _ h => h) (Or.inl ⟨by rfl, ?_⟩) hHeld ?_
    rotate_left 1
    · (intro w hSw; (try dsimp only at hSw); go_simp; (try with_reducible rfl))
    simp only [List.setIfInBounds_toArray, List.set_cons_zero, List.set_cons_succ]
    refine wpAnyH_done (by kernel_rfl) ?_ _
    have c24 : w8.cell? ⟨g, 24, none⟩ = some (.int .u16 S.asrt) := (cell_blk hHeld 24).trans rfl
    have c25 : w8.cell? ⟨g, 25, none⟩ = some (.int .u16 S.deas) := (cell_blk hHeld 25).trans rfl
    clear hHeld
    go_wp2_with fail
    have R9 := heap_alloc_new w8 (.cells #[.int .u16 (S.asrt : Int), .int .u16 (S.deas : Int)] 30)
    have M9 := (Mods.refl (S := []) (w := w8)).alloc (.cells #[.int .u16 (S.asrt : Int), .int .u16 (S.deas : Int)] 30)
    have HO9 := Lib.hid (HO8.out.mods0 M9)
    have HM9 := Lib.hid (HM8.out.trans M9)
    have hz9 := Nat.le_trans hz8 M9.size
    generalize w8.alloc (.cells #[.int .u16 (S.asrt : Int), .int .u16 (S.deas : Int)] 30) = w9 at R9 HO9 HM9 hz9 ⊢
    generalize w8.heap.size = gl at R9 ⊢
    have HRL : Rd w9 (.slice (some ⟨gl, 0, none⟩) 2 2) (u16s [S.asrt, S.deas]) := ⟨some ⟨gl, 0, none⟩, 2, rfl, Nat.le_refl _, by decide, fun i hi => ⟨gl, 0, rfl, by
      rw [cell_blk R9]
      match i, hi with
      | 0, _ | 1, _ => rfl⟩⟩
    have H16 : ∀ n ∈ [S.asrt, S.deas], n < 65536 := fun n hn => by simp at hn; rcases hn with rfl | rfl <;> assumption
    clear M9 R9 c24 c25 HO8 HM8 hz8
    refine (two_ok w9 _ [S.asrt, S.deas] HRL H16 (by simp)).mono ?_
    rintro e w10 ⟨v10, rfl, O10, M10⟩
    have HX := Lib.hid (show OwnB _ _ _ _ from O10)
    have HO10 := Lib.hid (HO9.out.mods0 M10)
    have HM10 := Lib.hid (HM9.out.trans M10)
    have hz10 := Nat.le_trans hz9 M10.size
    clear HRL O10 M10 HO9 HM9 hz9
    go_wp2_with (at_builtin; refine wpList_appB (by rfl) (.tmp 83) (.tmp 89) rfl (v := v8) (by rfl) HO10.out (by rfl) HX.out.rd (by rw [twoL_length]; simp; omega) hz10 ?_; intro v11 w11 O11 M11; have HM11 := Lib.hid (HM10.out.comp M11 (fun k hk => .inr (by have := HO10.out.back hk; have := HG.out; omega))); have HO11 := Lib.hid O11; clear O11 M11)
    have HE : A8 ++ twoL [S.asrt, S.deas] = senL S P := by rw [senL, HF.out, HD.out, ← HA8.out, ← HA6.out, ← HHD.out]; simp
    have HB : Bytes (senL S P) := bytes_of fun x hx => by
      rw [← HE, ← HA8.out, ← HA6.out, ← HHD.out] at hx
      have hmk := HS.out.mask
      have hhl := HS.out.hl
      have hhu := HS.out.hu
      have hrw := HS.out.raw
      have r0 := hrw 0
      have r1 := hrw 1
      have r2 := hrw 2
      have r3 := hrw 3
      have r4 := hrw 4
      have r5 := hrw 5
      simp only [Sen.raw, List.getD_cons_zero, List.getD_cons_succ] at r0 r1 r2 r3 r4 r5
      simp only [List.mem_append, rawsL, headL, List.mem_cons, List.mem_nil_iff, or_false] at hx
      rcases hx with (((((hx | hx) | hx) | hx) | hx) | hx) | hx
      · rcases hx with rfl | rfl | rfl | rfl | rfl | rfl | rfl | rfl <;> constructor <;> omega
      · exact nameL_bytes _ x hx
      · exact convL_bytes HCV.out HS.out.conv.pok x hx
      · subst hx; constructor <;> omega
      · rcases hx with rfl | rfl | rfl | rfl | rfl | rfl <;> constructor <;> omega
      · rcases hx with rfl | rfl <;> constructor <;> omega
      · exact twoL_bytes _ H16 x hx
    have hlen : (senL S P).length ≤ 100000 := by rw [← HE, List.length_append, twoL_length]; simp; omega
    have hO := HO11.out
    rw [HE] at hO
    clear HX HO10 HM10 hz10 HE
    refine (seal8_ok w11 v11 (senL S P) hO.rd HB hlen).mono ?_
    rintro e w12 ⟨v12, rfl, O12, M12⟩
    have HM12 := Lib.hid (HM11.out.trans M12)
    have HO12 := Lib.hid (owns_down O12 HM11.out.size)
    clear O12 M12 hO HO11 HM11
    go_wp2
    go_ret2
    exact ⟨_, rfl, HO12.out, HM12.out⟩
  | true =>
    rw [hh] at c26
    have HF := Lib.hid (show flagS S = (4*S.samples+2) by unfold flagS; rw [hh, HD.out]; simp)
    clear hh
    have MA := (Mods.refl (S := []) (w := w2)).alloc (.cells #[.int .u8 1, .int .u8 (S.number : Int), .int .u8 (S.type : Int), .int .u8 (S.unit : Int), .int .u8 (S.eid : Int), .int .u8 (S.einst : Int), .int .u8 (4*S.samples+2), .int .u8 (S.name.size : Int)] 5)
    have ca3 := MA.cell c3 (by simp)
    go_wp2_with (first | (at_builtin; refine Lib.wpList_append_own_string _ rfl (.tmp 41) (.tmp 43) 33 9 rfl (g + 1) 5 i0 Try.underlying33 Try.underlying9 hi hz0 hz1 hz2 _ 8 (u8s (headL S ((4*S.samples+2)))) (by rfl) (World.ownsRow_lit w2 #[.int .u8 1, .int .u8 S.number, .int .u8 S.type, .int .u8 S.unit, .int .u8 S.eid, .int .u8 S.einst, .int .u8 (4*S.samples+2), .int .u8 S.name.size] 8 hzz (by decide) rfl) S.name (by rfl) (by unfold maxLen; omega) (by omega) (by simp; omega) ?_; intro v3 w3 O3 G3 _; have HM3 := Lib.hid ((HM.out.trans MA).grown G3 (fun q hq => .inr (by simp [Value.ownBlock] at hq; have := HG.out; omega))); have HH3 : Hid (w3.heap[g]? = some (.cells S.cells 32 (0, 0))) := Lib.hid ((Mods.of_grown G3).heap (MA.heap HH.out (by simp)) (by simp [Value.ownBlock]; omega)); have q6 : w3.cell? ⟨g, 6, none⟩ = some (.bool false) := (by rw [cell_blk HH3.out]; rw [cell_blk HH.out] at c6; exact c6); have hz3 : g + 1 ≤ w3.heap.size := (by have := G3.size; simp at this; omega); have HO3 : Hid (OwnB w3 (g + 1) v3 (headL S ((4*S.samples+2)) ++ nameL S.name)) := Lib.hid (by unfold OwnB; rw [u8s_length, List.length_append, nameL_length]; have e : u8s (headL S ((4*S.samples+2)) ++ nameL S.name) = u8s (headL S ((4*S.samples+2))) ++ Lib.strCells S.name := (by rw [nameL_cells]; simp [u8s]); rw [e]; exact O3); clear G3 O3 MA ca3) | (refine wpList_load_mid rfl 26 (.tmp 59) rfl g 7 (by rfl) S.conv.cells.toList _ (Sen.conv_range HH3.out) Try.underlying26 rfl Try.infoC ?_; rw [Array.toArray_toList]))
    clear q6 c27 c6 c26 c0 c1 c2 c3 c4 c5 HH HM
    refine (convEnc_ok w3 S.conv P (HS.out.conv.mods0 HM3.out)).mono ?_
    rw [HCV.out]
    intro e w4 hE
    obtain ⟨v4, rfl, O4, M4⟩ : EncOut _ _ _ _ := hE
    have HO4 := Lib.hid (show OwnB _ _ _ _ from O4)
    have HO3 := Lib.hid (HO3.out.mods0 M4)
    have HM4 := Lib.hid (HM3.out.trans M4)
    have HH4 := Lib.hid (M4.heap HH3.out (by simp))
    have hz4 : g + 1 ≤ w4.heap.size := Nat.le_trans hz3 M4.size
    have hlen3 : (headL S ((4*S.samples+2)) ++ nameL S.name).length ≤ 24 := by rw [List.length_append, nameL_length]; simp [headL]; omega
    clear O4 M4 HM3 HH3 hz3
    generalize hhd : headL S ((4*S.samples+2)) ++ nameL S.name = A3 at HO3 hlen3
    have HHD := Lib.hid hhd
    clear hhd
    go_wp2_with fail
    try dsimp only [Act.put]
    refine heldStart (S := fun W => W.heap[g]? = some (.cells S.cells 32 (0, 0))) 9 rfl (by kernel_rfl) HH4.out (fun hHeld => ?_)
    refine takeD (i := 0) (d := 64) (v := ?_) rfl rfl (by kernel_rfl) (by kernel_rfl) (by kernel_rfl) (fun _ _ _ h => h) (Or.inl ⟨by rfl, ?_⟩) hHeld ?_
    rotate_left 1
    · (intro w hSw; (try dsimp only at hSw); go_simp; (try with_reducible rfl))
    simp only [List.setIfInBounds_toArray, List.set_cons_zero, List.set_cons_succ]
    refine takeD (i := 1) (d := 65) (v := ?_) rfl rfl (by kernel_rfl) (by kernel_rfl) (by kernel_rfl) (fun _ _ _ h => h) (Or.inl ⟨by rfl, ?_⟩) hHeld ?_
    rotate_left 1
    · (intro w hSw; (try dsimp only at hSw); go_simp; (try with_reducible rfl))
    simp only [List.setIfInBounds_toArray, List.set_cons_zero, List.set_cons_succ]
    refine takeD (i := 3) (d := 67) (v := ?_) rfl rfl (by kernel_rfl) (by kernel_rfl) (by kernel_rfl) (fun _ _ _ h => h) (Or.inl ⟨by rfl, ?_⟩) hHeld ?_
    rotate_left 1
    · (intro w hSw; (try dsimp only at hSw); go_simp; (try with_reducible rfl))
    simp only [List.setIfInBounds_toArray, List.set_cons_zero, List.set_cons_succ]
    refine takeD (i := 4) (d := 68) (v := ?_) rfl rfl (by kernel_rfl) (by kernel_rfl) (by kernel_rfl) (fun _ _ _ h => h) (Or.inl ⟨by rfl, ?_⟩) hHeld ?_
    rotate_left 1
    · (intro w hSw; (try dsimp only at hSw); go_simp; (try with_reducible rfl))
    simp only [List.setIfInBounds_toArray, List.set_cons_zero, List.set_cons_succ]
    refine takeD (i := 5) (d := 69) (v := (.int .u8 (S.mask : Int))) rfl rfl (by kernel_rfl) (by kernel_rfl) (by kernel_rfl) (fun _ _ _ h => h) (Or.inl ⟨by rfl, fun w hSw => ?_⟩) hHeld ?_
    · have cst := (cell_blk hSw 14).trans (show _ = some (.int .u8 (S.mask : Int)) from rfl)
      go_simp
    simp only [List.setIfInBounds_toArray, List.set_cons_zero, List.set_cons_succ]
    refine appLit (fuel := 1) (iA := 2) (iL := 6) (iB := 7) (dA := 66) (dL := 70) (dB := 71) (sA := 64) (sX := 65) (B := g + 1) (v := v3) (vx := v4) (A := A3) (X := convL S.conv P) (X2 := [(S.mask : Int)]) rfl rfl rfl rfl rfl rfl rfl rfl rfl rfl rfl ?rl0 ?rl1 (by kernel_rfl) (by kernel_rfl) (by kernel_rfl) (by kernel_rfl) (by decide) (by decide) (by decide) (by decide) (by simp) (by simp) rfl (HO3.out.mods0 (Mods.refl.drewN 1)) rfl (HO4.out.rd.mods0 (Mods.refl.drewN 1)) (by simp; omega) hz4 (fun w' M => M.heap hHeld (fun hm => by have := mem_from hm; omega)) ?_
    case rl0 => intro w; go_simp; rfl
    case rl1 => intro u w; go_simp; rfl
    intro v5 g5 v6 w6 O6 M6
    have hHeld := M6.heap hHeld (fun hm => by have := mem_from hm; omega)
    have HM6 := Lib.hid ((HM4.out.drewN 1).comp M6 (fun k hk => .inr (by have := mem_from hk; have := HG.out; omega)))
    have hz6 : g + 1 ≤ w6.heap.size := Nat.le_trans hz4 M6.size
    have HO6 := Lib.hid O6
    have hlen6 : (A3 ++ convL S.conv P ++ [(S.mask : Int)]).length ≤ 200 := by simp; omega
    generalize hA6 : A3 ++ convL S.conv P ++ [(S.mask : Int)] = A6 at HO6 hlen6
    have HA6 := Lib.hid hA6
    clear hA6 O6 M6 HO3 HO4 HM4 HH4 hz4
    simp only [List.setIfInBounds_toArray, List.set_cons_zero, List.set_cons_succ]
    refine takeD (i := 8) (d := 5) (v := ?_) rfl rfl (by kernel_rfl) (by kernel_rfl) (by kernel_rfl) (fun _ _ _ h => h) (Or.inl ⟨by rfl, ?_⟩) hHeld ?_
    rotate_left 1
    · (intro w hSw; (try dsimp only at hSw); go_simp; (try with_reducible rfl))
    simp only [List.setIfInBounds_toArray, List.set_cons_zero, List.set_cons_succ]
    refine wpAnyH_done (by kernel_rfl) ?_ _
    have HH6 := Lib.hid hHeld
    clear hHeld
    go_wp2_with fail
    try dsimp only [Act.put]
    refine heldStart (S := fun W => W.heap[g]? = some (.cells S.cells 32 (0, 0))) 12 rfl (by kernel_rfl) HH6.out (fun hHeld => ?_)
    refine takeD (i := 0) (d := 72) (v := ?_) rfl rfl (by kernel_rfl) (by kernel_rfl) (by kernel_rfl) (fun _ _ _ h => h) (Or.inl ⟨by rfl, ?_⟩) hHeld ?_
    rotate_left 1
    · (intro w hSw; (try dsimp only at hSw); go_simp; (try with_reducible rfl))
    simp only [List.setIfInBounds_toArray, List.set_cons_zero, List.set_cons_succ]
    refine takeD (i := 1) (d := 73) (v := ?_) rfl rfl (by kernel_rfl) (by kernel_rfl) (by kernel_rfl) (fun _ _ _ h => h) (Or.inl ⟨by rfl, ?_⟩) hHeld ?_
    rotate_left 1
    · (intro w hSw; (try dsimp only at hSw); go_simp; (try with_reducible rfl))
    simp only [List.setIfInBounds_toArray, List.set_cons_zero, List.set_cons_succ]
    refine takeD (i := 2) (d := 74) (v := ?_) rfl rfl (by kernel_rfl) (by kernel_rfl) (by kernel_rfl) (fun _ _ _ h => h) (Or.inl ⟨by rfl, ?_⟩) hHeld ?_
    rotate_left 1
    · (intro w hSw; (try dsimp only at hSw); go_simp; (try with_reducible rfl))
    simp only [List.setIfInBounds_toArray, List.set_cons_zero, List.set_cons_succ]
    refine takeD (i := 3) (d := 75) (v := ?_) rfl rfl (by kernel_rfl) (by kernel_rfl) (by kernel_rfl) (fun _ _ _ h => h) (Or.inl ⟨by rfl, ?_⟩) hHeld ?_
    rotate_left 1
    · (intro w hSw; (try dsimp only at hSw); go_simp; (try with_reducible rfl))
    simp only [List.setIfInBounds_toArray, List.set_cons_zero, List.set_cons_succ]
    refine takeD (i := 5) (d := 77) (v := ?_) rfl rfl (by kernel_rfl) (by kernel_rfl) (by kernel_rfl) (fun _ _ _ h => h) (Or.inl ⟨by rfl, ?_⟩) hHeld ?_
    rotate_left 1
    · (intro w hSw; (try dsimp only at hSw); go_simp; (try with_reducible rfl))
    simp only [List.setIfInBounds_toArray, List.set_cons_zero, List.set_cons_succ]
    refine takeD (i := 6) (d := 78) (v := (.int .u8 (S.hl : Int))) rfl rfl (by kernel_rfl) (by kernel_rfl) (by kernel_rfl) (fun _ _ _ h => h) (Or.inl ⟨by rfl, fun w hSw => ?_⟩) hHeld ?_
    · have cst := (cell_blk hSw 21).trans (show _ = some (.int .u8 (S.hl : Int)) from rfl)
      go_simp
    simp only [List.setIfInBounds_toArray, List.set_cons_zero, List.set_cons_succ]
    refine takeD (i := 7) (d := 79) (v := ?_) rfl rfl (by kernel_rfl) (by kernel_rfl) (by kernel_rfl) (fun _ _ _ h => h) (Or.inl ⟨by rfl, ?_⟩) hHeld ?_
    rotate_left 1
    · (intro w hSw; (try dsimp only at hSw); go_simp; (try with_reducible rfl))
    simp only [List.setIfInBounds_toArray, List.set_cons_zero, List.set_cons_succ]
    refine takeD (i := 8) (d := 80) (v := (.int .u8 (S.hu : Int))) rfl rfl (by kernel_rfl) (by kernel_rfl) (by kernel_rfl) (fun _ _ _ h => h) (Or.inl ⟨by rfl, fun w hSw => ?_⟩) hHeld ?_
    · have cst := (cell_blk hSw 22).trans (show _ = some (.int .u8 (S.hu : Int)) from rfl)
      go_simp
    simp only [List.setIfInBounds_toArray, List.set_cons_zero, List.set_cons_succ]
    refine appLit (fuel := 1) (iA := 4) (iL := 9) (iB := 10) (dA := 76) (dL := 81) (dB := 82) (sA := 72) (sX := 75) (B := g + 1) (v := v6) (vx := .slice (some ⟨g, 15, none⟩) 6 6) (A := A6) (X := rawsL S) (X2 := [(S.hl : Int), (S.hu : Int)]) rfl rfl rfl rfl rfl rfl rfl rfl rfl rfl rfl ?rl0 ?rl1 (by kernel_rfl) (by kernel_rfl) (by kernel_rfl) (by kernel_rfl) (by decide) (by decide) (by decide) (by decide) (by simp) (by simp) rfl (HO6.out.mods0 (Mods.refl.drewN 1)) rfl (Sen.raws_rd hHeld) (by simp [rawsL]; omega) hz6 (fun w' M => M.heap hHeld (fun hm => by have := mem_from hm; omega)) ?_
    case rl0 => intro w; go_simp; rfl
    case rl1 => intro u w; go_simp; rfl
    intro v7 g7 v8 w8 O8 M8
    have hHeld := M8.heap hHeld (fun hm => by have := mem_from hm; omega)
    have HM8 := Lib.hid ((HM6.out.drewN 1).comp M8 (fun k hk => .inr (by have := mem_from hk; have := HG.out; omega)))
    have hz8 : g + 1 ≤ w8.heap.size := Nat.le_trans hz6 M8.size
    have HO8 := Lib.hid O8
    have hlen8 : (A6 ++ rawsL S ++ [(S.hl : Int), (S.hu : Int)]).length ≤ 300 := by simp [rawsL]; omega
    generalize hA8 : A6 ++ rawsL S ++ [(S.hl : Int), (S.hu : Int)] = A8 at HO8 hlen8
    have HA8 := Lib.hid hA8
    clear hA8 O8 M8 HO6 HM6 HH6 hz6
    simp only [List.setIfInBounds_toArray, List.set_cons_zero, List.set_cons_succ]
    refine takeD (i := 11) (d := 5) (v := ?_) rfl rfl (by kernel_rfl) (by kernel_rfl) (by kernel_rfl) (fun _ _ _ h => h) (Or.inl ⟨by rfl, ?_⟩) hHeld ?_
    rotate_left 1
    · (intro w hSw; (try dsimp only at hSw); go_simp; (try with_reducible rfl))
    simp only [List.setIfInBounds_toArray, List.set_cons_zero, List.set_cons_succ]
    refine wpAnyH_done (by kernel_rfl) ?_ _
    have c24 : w8.cell? ⟨g, 24, none⟩ = some (.int .u16 S.asrt) := (cell_blk hHeld 24).trans rfl
    have c25 : w8.cell? ⟨g, 25, none⟩ = some (.int .u16 S.deas) := (cell_blk hHeld 25).trans rfl
    clear hHeld
    go_wp2_with fail
    have R9 := heap_alloc_new w8 (.cells #[.int .u16 (S.asrt : Int), .int .u16 (S.deas : Int)] 30)
    have M9 := (Mods.refl (S := []) (w := w8)).alloc (.cells #[.int .u16 (S.asrt : Int), .int .u16 (S.deas : Int)] 30)
    have HO9 := Lib.hid (HO8.out.mods0 M9)
    have HM9 := Lib.hid (HM8.out.trans M9)
    have hz9 := Nat.le_trans hz8 M9.size
    generalize w8.alloc (.cells #[.int .u16 (S.asrt : Int), .int .u16 (S.deas : Int)] 30) = w9 at R9 HO9 HM9 hz9 ⊢
    generalize w8.heap.size = gl at R9 ⊢
    have HRL : Rd w9 (.slice (some ⟨gl, 0, none⟩) 2 2) (u16s [S.asrt, S.deas]) := ⟨some ⟨gl, 0, none⟩, 2, rfl, Nat.le_refl _, by decide, fun i hi => ⟨gl, 0, rfl, by
      rw [cell_blk R9]
      match i, hi with
      | 0, _ | 1, _ => rfl⟩⟩
    have H16 : ∀ n ∈ [S.asrt, S.deas], n < 65536 := fun n hn => by simp at hn; rcases hn with rfl | rfl <;> assumption
    clear M9 R9 c24 c25 HO8 HM8 hz8
    refine (two_ok w9 _ [S.asrt, S.deas] HRL H16 (by simp)).mono ?_
    rintro e w10 ⟨v10, rfl, O10, M10⟩
    have HX := Lib.hid (show OwnB _ _ _ _ from O10)
    have HO10 := Lib.hid (HO9.out.mods0 M10)
    have HM10 := Lib.hid (HM9.out.trans M10)
    have hz10 := Nat.le_trans hz9 M10.size
    clear HRL O10 M10 HO9 HM9 hz9
    go_wp2_with (at_builtin; refine wpList_appB (by rfl) (.tmp 83) (.tmp 89) rfl (v := v8) (by rfl) HO10.out (by rfl) HX.out.rd (by rw [twoL_length]; simp; omega) hz10 ?_; intro v11 w11 O11 M11; have HM11 := Lib.hid (HM10.out.comp M11 (fun k hk => .inr (by have := HO10.out.back hk; have := HG.out; omega))); have HO11 := Lib.hid O11; clear O11 M11)
    have HE : A8 ++ twoL [S.asrt, S.deas] = senL S P := by rw [senL, HF.out, HD.out, ← HA8.out, ← HA6.out, ← HHD.out]; simp
    have HB : Bytes (senL S P) := bytes_of fun x hx => by
      rw [← HE, ← HA8.out, ← HA6.out, ← HHD.out] at hx
      have hmk := HS.out.mask
      have hhl := HS.out.hl
      have hhu := HS.out.hu
      have hrw := HS.out.raw
      have r0 := hrw 0
      have r1 := hrw 1
      have r2 := hrw 2
      have r3 := hrw 3
      have r4 := hrw 4
      have r5 := hrw 5
      simp only [Sen.raw, List.getD_cons_zero, List.getD_cons_succ] at r0 r1 r2 r3 r4 r5
      simp only [List.mem_append, rawsL, headL, List.mem_cons, List.mem_nil_iff, or_false] at hx
      rcases hx with (((((hx | hx) | hx) | hx) | hx) | hx) | hx
      · rcases hx with rfl | rfl | rfl | rfl | rfl | rfl | rfl | rfl <;> constructor <;> omega
      · exact nameL_bytes _ x hx
      · exact convL_bytes HCV.out HS.out.conv.pok x hx
      · subst hx; constructor <;> omega
      · rcases hx with rfl | rfl | rfl | rfl | rfl | rfl <;> constructor <;> omega
      · rcases hx with rfl | rfl <;> constructor <;> omega
      · exact twoL_bytes _ H16 x hx
    have hlen : (senL S P).length ≤ 100000 := by rw [← HE, List.length_append, twoL_length]; simp; omega
    have hO := HO11.out
    rw [HE] at hO
    clear HX HO10 HM10 hz10 HE
    refine (seal8_ok w11 v11 (senL S P) hO.rd HB hlen).mono ?_
    rintro e w12 ⟨v12, rfl, O12, M12⟩
    have HM12 := Lib.hid (HM11.out.trans M12)
    have HO12 := Lib.hid (owns_down O12 HM11.out.size)
    clear O12 M12 hO HO11 HM11
    go_wp2
    go_ret2
    exact ⟨_, rfl, HO12.out, HM12.out⟩
end Go.Proofs.Ytgjjmiaiclhidaa

namespace Go.Proofs.Ytgjjmiaiclhidaa
open Go.RowKit

theorem bodyD_eq {S : Sen} {P : List Pt} (hd : S.disc = true) (hv : validB S P = true) : bodyD S = senL S P := by
  have h1 : S.samples = 1 := by
    unfold validB at hv
    rw [hd] at hv
    simp only [Bool.and_eq_true, if_true, discB, decide_eq_true_eq] at hv
    exact hv.2.1.2.1
  have hf : flagD S = flagS S := by unfold flagD flagS; rw [h1, hd]; cases S.host <;> simp
  rw [bodyD, senL, hd, hf, if_pos rfl]
set_option maxRecDepth 100000 in
set_option maxHeartbeats 1000000 in
theorem encodeS_ok (w : World) (S : Sen) (P : List Pt) (hS : IsSen w S P) :
    Calls Try.prog 27 #[.agg S.cells] w fun e w' => EncRes w (validB S P) (seal8 (senL S P)) e w' := by
  cases hv : validB S P with
  | true =>
    cases hd : S.disc with
    | true => rw [← bodyD_eq hd hv]; exact encodeD_ok w S P hS hd hv
    | false => exact encodeA_ok w S P hS hd hv
  | false =>
    have HV := Lib.hid hv
    have HS := Lib.hid hS
    clear hv hS
    have BB := Lib.hid (SenBox.new w S)
    have M0 := Lib.hid ((Mods.refl (S := []) (w := w)).alloc (.cells S.cells 32))
    go_enter Try.func27, Try.ntmps27
    go_wp2_with (refine wpList_load_sen rfl (.tmp 1) rfl BB.out (by rfl) ?_)
    refine (valid_ok _ S P (HS.out.mods0 M0.out)).mono ?_
    rw [HV.out]
    rintro e w2 ⟨rfl, M2⟩
    go_wp2
    go_ret2
    exact ⟨rfl, M0.out.trans M2⟩
end Go.Proofs.Ytgjjmiaiclhidaa
