/- Joined texts. sensor.Encode of a valid analog sensor: contract. | sensor.Encode: contract. | The reference's Encode of conversions: contract. | The reference's Encode of sensors: contract. -/
import Derived.Test.YtijjkonephjodaaConvEnc
import Derived.Test.YtijjkonephjodaaRefTable
import Derived.Test.YtijjkonephjodaaRefSeal
import Derived.Test.YtijjkonephjodaaRefValid
namespace Go.Proofs.Ytijjkonephjodaa
open Go.RowKit

def flagS (S : Sen) : Int := 4 * S.samples + (if S.disc then 1 else 0) + (if S.host then 2 else 0)
def rawsL (S : Sen) : List Int := [S.r0, S.r1, S.r2, S.r3, S.r4, S.r5]
/-- The bytes of a sensor, without the sum. -/
def senL (S : Sen) (P : List Pt) : List Int :=
  headL S (flagS S) ++ nameL S.name ++ (if S.disc then twoL [S.states, S.asrt, S.deas] else convL S.conv P ++ [(S.mask : Int)] ++ rawsL S ++ [(S.hl : Int), (S.hu : Int)] ++ twoL [S.asrt, S.deas])
theorem or2 (x : Int) (h : x = 1 ∨ x = 3 ∨ x = 5) : bits .or .u8 (4 * x) 2 = 4 * x + 2 := by
  rcases h with rfl | rfl | rfl <;> decide
theorem convL_length_le {C : Conv} {P : List Pt} (h : convB C P = true) : (convL C P).length ≤ 100 := by
  unfold convL
  by_cases h5 : C.form = 5
  · have := convB_tab h h5
    rw [if_pos h5, List.length_cons, List.length_cons, ptsL_length]; omega
  · rw [if_neg h5, List.length_cons, List.length_append, List.length_append, leL_length, leL_length]; simp
theorem convL_bytes {C : Conv} {P : List Pt} (h : convB C P = true) (hP : PtsOk P) : ∀ x ∈ convL C P, 0 ≤ x ∧ x ≤ 255 := by
  have hf : 1 ≤ C.form ∧ C.form ≤ 5 := by
    by_cases h5 : C.form = 5
    · omega
    · have := convB_lin h h5; omega
  intro x hx
  unfold convL at hx
  rcases List.mem_cons.1 hx with rfl | hx
  · split <;> omega
  · by_cases h5 : C.form = 5
    · rw [if_pos h5] at hx
      have := convB_tab h h5
      rcases List.mem_cons.1 hx with rfl | hx
      · omega
      · simp only [ptsL, List.mem_flatMap] at hx
        obtain ⟨p, hp, hx⟩ := hx
        rcases List.mem_cons.1 hx with rfl | hx
        · obtain ⟨i, hi, rfl⟩ := List.getElem_of_mem hp
          have := hP.raw i
          rw [List.getD_eq_getElem?_getD, List.getElem?_eq_getElem hi] at this
          simp at this
          omega
        · exact leL_bytes _ _ x hx
    · rw [if_neg h5] at hx
      simp only [List.mem_append, List.mem_cons, List.mem_nil_iff, or_false] at hx
      rcases hx with (hx | hx) | rfl | rfl
      · exact leL_bytes _ _ x hx
      · exact leL_bytes _ _ x hx
      · omega
      · omega
theorem Sen.conv_range {S : Sen} {w : World} {g : Nat} {T : TypeId} {fr : Nat × Nat} (R : w.heap[g]? = some (.cells S.cells T fr)) : w.rangeAt g 7 S.conv.cells.toList := fun j u hu => by
  rw [cell_blk R]
  have hj : j < 7 := (List.getElem?_eq_some_iff.1 hu).1
  match j, hj with
  | 0, _ | 1, _ | 2, _ | 3, _ | 4, _ | 5, _ | 6, _ => exact hu
theorem rd_of_cells {w : World} {g o : Nat} {A : List Int} {cap : Nat} (hc : A.length ≤ cap) (hm : cap ≤ maxLen) (h : ∀ i, i < A.length → w.cell? ⟨g, o + i, none⟩ = some (.int .u8 (A.getD i 0))) : Rd w (.slice (some ⟨g, o, none⟩) A.length cap) (u8s A) :=
  ⟨some ⟨g, o, none⟩, cap, by rw [u8s_length], by rw [u8s_length]; exact hc, hm, fun i hi => ⟨g, o, rfl, by rw [u8s_length] at hi; rw [h i hi, u8s_getD _ _ hi]⟩⟩
theorem Sen.raws_rd {S : Sen} {w : World} {g : Nat} {T : TypeId} {fr : Nat × Nat} (R : w.heap[g]? = some (.cells S.cells T fr)) : Rd w (.slice (some ⟨g, 15, none⟩) 6 6) (u8s (rawsL S)) :=
  rd_of_cells (A := rawsL S) (Nat.le_refl _) (by decide) fun i hi => by
    rw [cell_blk R]
    match i, (show i < 6 from hi) with
    | 0, _ | 1, _ | 2, _ | 3, _ | 4, _ | 5, _ => rfl
set_option maxRecDepth 100000 in
set_option maxHeartbeats 2000000 in
theorem encodeA_ok (w : World) (S : Sen) (P : List Pt) (hS : IsSen w S P) (hd : S.disc = false) (hv : validB S P = true) :
    Calls Try.prog 16 #[.agg S.cells] w fun e w' => EncOut w (seal8 (senL S P)) e w' := by
  have hp : (S.samples = 1 ∨ S.samples = 3 ∨ S.samples = 5) ∧ S.name.size ≤ 16 ∧ convB S.conv P = true := by
    have h0 := hv
    unfold validB at hv
    rw [hd] at hv
    simp only [Bool.and_eq_true, nameB, decide_eq_true_eq, Bool.false_eq_true, if_false, analogB] at hv
    exact ⟨hv.1.2, hv.1.1.1.2, hv.2.1.1.1.1.1⟩
  obtain ⟨hsm, hn16, hcv⟩ := hp
  have HCV := Lib.hid hcv
  have HV := Lib.hid hv
  have HS := Lib.hid hS
  have HD := Lib.hid hd
  have hlc := convL_length_le hcv
  have b0 := hS.number
  have b1 := hS.type
  have b2 := hS.unit
  have b4 := hS.eid
  have b5 := hS.einst
  have b24 := hS.asrt
  have b25 := hS.deas
  have eor := or2 S.samples hsm
  have hsb : 1 ≤ S.samples ∧ S.samples ≤ 5 := by omega
  obtain ⟨hs1, hs5⟩ := hsb
  clear hS hv hcv hsm
  have BB := Lib.hid (SenBox.new w S)
  have M0 := Lib.hid ((Mods.refl (S := []) (w := w)).alloc (.cells S.cells 32))
  obtain ⟨i0, hi, hz0, hz1, hz2⟩ := info_parts Try.infoB
  go_enter Try.func16, Try.ntmps16
  go_wp2_with (refine wpList_load_sen rfl (.tmp 1) rfl BB.out (by rfl) ?_)
  refine (valid_ok _ S P (HS.out.mods0 M0.out)).mono ?_
  rw [HV.out]
  rintro e w2 ⟨rfl, M2⟩
  have B2 := BB.out.mods0 M2
  have HM := Lib.hid (M0.out.trans M2)
  have c27 := B2.rest.2.2.2.2.2.2
  have c6 : w2.cell? ⟨w.heap.size, 6, none⟩ = some (.bool false) := by rw [B2.head.2.2.2.2.2.2, hd]
  have c26 := B2.rest.2.2.2.2.2.1
  obtain ⟨c0, c1, c2, c3, c4, c5, _⟩ := B2.head
  have HH := Lib.hid (B2.blk)
  have hzz : w.heap.size + 1 ≤ w2.heap.size := by have := (M0.out.trans M2).size; have := lt_of_block B2.blk; omega
  clear B2 BB M0 M2 HV hd
  generalize hg : w.heap.size = g at c27 c6 c26 c0 c1 c2 c3 c4 c5 HH hzz ⊢
  have HG := Lib.hid hg
  clear hg
  have hnm : S.name.size ≤ 9223372036854775807 := by omega
  cases hh : S.host with
  | false =>
    rw [hh] at c26
    have HF := Lib.hid (show flagS S = (4*S.samples) by unfold flagS; rw [hh, HD.out]; simp)
    clear hh
    have MA := (Mods.refl (S := []) (w := w2)).alloc (.cells #[.int .u8 1, .int .u8 (S.number : Int), .int .u8 (S.type : Int), .int .u8 (S.unit : Int), .int .u8 (S.eid : Int), .int .u8 (S.einst : Int), .int .u8 (4*S.samples), .int .u8 (S.name.size : Int)] 5)
    have ca3 := MA.cell c3 (by simp)
    go_wp2_with (first | (at_builtin; refine Lib.wpList_append_own_string _ rfl (.tmp 41) (.tmp 43) 33 9 rfl (g + 1) 5 i0 Try.underlying33 Try.underlying9 hi hz0 hz1 hz2 _ 8 (u8s (headL S ((4*S.samples)))) (by rfl) (World.ownsRow_lit w2 #[.int .u8 1, .int .u8 S.number, .int .u8 S.type, .int .u8 S.unit, .int .u8 S.eid, .int .u8 S.einst, .int .u8 (4*S.samples), .int .u8 S.name.size] 8 hzz (by decide) rfl) S.name (by rfl) (by unfold maxLen; omega) (by omega) (by simp; omega) ?_; intro v3 w3 O3 G3 _; have HM3 := Lib.hid ((HM.out.trans MA).grown G3 (fun q hq => .inr (by simp [Value.ownBlock] at hq; have := HG.out; omega))); have HH3 : Hid (w3.heap[g]? = some (.cells S.cells 32 (0, 0))) := Lib.hid ((Mods.of_grown G3).heap (MA.heap HH.out (by simp)) (by simp [Value.ownBlock]; omega)); have q6 : w3.cell? ⟨g, 6, none⟩ = some (.bool false) := (by rw [cell_blk HH3.out]; rw [cell_blk HH.out] at c6; exact c6); have hz3 : g + 1 ≤ w3.heap.size := (by have := G3.size; simp at this; omega); have HO3 : Hid (OwnB w3 (g + 1) v3 (headL S ((4*S.samples)) ++ nameL S.name)) := Lib.hid (by unfold OwnB; rw [u8s_length, List.length_append, nameL_length]; have e : u8s (headL S ((4*S.samples)) ++ nameL S.name) = u8s (headL S ((4*S.samples))) ++ Lib.strCells S.name := (by rw [nameL_cells]; simp [u8s]); rw [e]; exact O3); clear G3 O3 MA ca3) | (refine wpList_load_mid rfl 26 (.tmp 59) rfl g 7 (by rfl) S.conv.cells.toList _ (Sen.conv_range HH3.out) Try.underlying26 rfl Try.infoC ?_; rw [Array.toArray_toList]))
    clear q6 c27 c6 c26 c0 c1 c2 c3 c4 c5 HH HM
    refine (convEnc_ok w3 S.conv P (HS.out.conv.mods0 HM3.out)).mono ?_
    rw [HCV.out]
    intro e w4 hE
    obtain ⟨v4, rfl, O4, M4⟩ : EncOut _ _ _ _ := hE
    have HO4 := Lib.hid (show OwnB _ _ _ _ from O4)
    have HO3 := Lib.hid (HO3.out.mods0 M4)
    have HM4 := Lib.hid (HM3.out.trans M4)
    have HH4 := Lib.hid (M4.heap HH3.out (by simp))
    have hz4 : g + 1 ≤ w4.heap.size := Nat.le_trans hz3 M4.size
    have hlen3 : (headL S ((4*S.samples)) ++ nameL S.name).length ≤ 24 := by rw [List.length_append, nameL_length]; simp [headL]; omega
    clear O4 M4 HM3 HH3 hz3
    generalize hhd : headL S ((4*S.samples)) ++ nameL S.name = A3 at HO3 hlen3
    have HHD := Lib.hid hhd
    clear hhd
    go_wp2_with fail
    try dsimp only [Act.put]
    refine heldStart (S := fun W => W.heap[g]? = some (.cells S.cells 32 (0, 0))) 9 rfl (by kernel_rfl) HH4.out (fun hHeld => ?_)
    refine takeD (i := 0) (d := 64) (v := ?_) rfl rfl (by kernel_rfl) (by kernel_rfl) (by kernel_rfl) (fun _ _ _ h => h) (Or.inl ⟨by rfl, ?_⟩) hHeld ?_
    rotate_left 1
    · (intro w hSw; (try dsimp only at hSw); go_simp; (try with_reducible rfl))
    simp only [List.setIfInBounds_toArray, List.set_cons_zero, List.set_cons_succ]
    refine takeD (i := 1) (d := 65) (v := ?_) rfl rfl (by kernel_rfl) (by kernel_rfl) (by kernel_rfl) (fun _ _ _ h => h) (Or.inl ⟨by rfl, ?_⟩) hHeld ?_
    rotate_left 1
    · (intro w hSw; (try dsimp only at hSw); go_simp; (try with_reducible rfl))
    simp only [List.setIfInBounds_toArray, List.set_cons_zero, List.set_cons_succ]
    refine takeD (i := 3) (d := 67) (v := ?_) rfl rfl (by kernel_rfl) (by kernel_rfl) (by kernel_rfl) (fun _ _ _ h => h) (Or.inl ⟨by rfl, ?_⟩) hHeld ?_
    rotate_left 1
    · (intro w hSw; (try dsimp only at hSw); go_simp; (try with_reducible rfl))
    simp only [List.setIfInBounds_toArray, List.set_cons_zero, List.set_cons_succ]
    refine takeD (i := 4) (d := 68) (v := ?_) rfl rfl (by kernel_rfl) (by kernel_rfl) (by kernel_rfl) (fun _ _ _ h => h) (Or.inl ⟨by rfl, ?_⟩) hHeld ?_
    rotate_left 1
    · (intro w hSw; (try dsimp only at hSw); go_simp; (try with_reducible rfl))
    simp only [List.setIfInBounds_toArray, List.set_cons_zero, List.set_cons_succ]
    refine takeD (i := 5) (d := 69) (v := (.int .u8 (S.mask : Int))) rfl rfl (by kernel_rfl) (by kernel_rfl) (by kernel_rfl) (fun _ _ _ h => h) (Or.inl ⟨by rfl, fun w hSw => ?_⟩) hHeld ?_
    · have cst := (cell_blk hSw 14).trans (show _ = some (.int .u8 (S.mask : Int)) from rfl)
      go_simp
    simp only [List.setIfInBounds_toArray, List.set_cons_zero, List.set_cons_succ]
    refine appLit (fuel := 1) (iA := 2) (iL := 6) (iB := 7) (dA := 66) (dL := 70) (dB := 71) (sA := 64) (sX := 65) (B := g + 1) (v := v3) (vx := v4) (A := A3) (X := convL S.conv P) (X2 := [(S.mask : Int)]) rfl rfl rfl rfl rfl rfl rfl rfl rfl rfl rfl ?rl0 ?rl1 (by kernel_rfl) (by kernel_rfl) (by kernel_rfl) (by kernel_rfl) (by decide) (by decide) (by decide) (by decide) (by simp) (by simp) rfl (HO3.out.mods0 (Mods.refl.drewN 1)) rfl (HO4.out.rd.mods0 (Mods.refl.drewN 1)) (by simp; omega) hz4 (fun w' M => M.heap hHeld (fun hm => by have := mem_from hm; omega)) ?_
    case rl0 => intro w; go_simp; rfl
    case rl1 => intro u w; go_simp; rfl
    intro v5 g5 v6 w6 O6 M6
    have hHeld := M6.heap hHeld (fun hm => by have := mem_from hm; omega)
    have HM6 := Lib.hid ((HM4.out.drewN 1).comp M6 (fun k hk => .inr (by have := mem_from hk; have := HG.out; omega)))
    have hz6 : g + 1 ≤ w6.heap.size := Nat.le_trans hz4 M6.size
    have HO6 := Lib.hid O6
    have hlen6 : (A3 ++ convL S.conv P ++ [(S.mask : Int)]).length ≤ 200 := by simp; omega
    generalize hA6 : A3 ++ convL S.conv P ++ [(S.mask : Int)] = A6 at HO6 hlen6
    have HA6 := Lib.hid hA6
    clear hA6 O6 M6 HO3 HO4 HM4 HH4 hz4
    simp only [List.setIfInBounds_toArray, List.set_cons_zero, List.set_cons_succ]
    refine takeD (i := 8) (d := 5) (v := ?_) rfl rfl (by kernel_rfl) (by kernel_rfl) (by kernel_rfl) (fun _ _ _ h => h) (Or.inl ⟨by rfl, ?_⟩) hHeld ?_
    rotate_left 1
    · (intro w hSw; (try dsimp only at hSw); go_simp; (try with_reducible rfl))
    simp only [List.setIfInBounds_toArray, List.set_cons_zero, List.set_cons_succ]
    refine wpAnyH_done (by kernel_rfl) ?_ _
    have HH6 := Lib.hid hHeld
    clear hHeld
    go_wp2_with fail
    try dsimp only [Act.put]
    refine heldStart (S := fun W => W.heap[g]? = some (.cells S.cells 32 (0, 0))) 12 rfl (by kernel_rfl) HH6.out (fun hHeld => ?_)
    refine takeD (i := 0) (d := 72) (v := ?_) rfl rfl (by kernel_rfl) (by kernel_rfl) (by kernel_rfl) (fun _ _ _ h => h) (Or.inl ⟨by rfl, ?_⟩) hHeld ?_
    rotate_left 1
    · (intro w hSw; (try dsimp only at hSw); go_simp; (try with_reducible rfl))
    simp only [List.setIfInBounds_toArray, List.set_cons_zero, List.set_cons_succ]
    refine takeD (i := 1) (d := 73) (v := ?_) rfl rfl (by kernel_rfl) (by kernel_rfl) (by kernel_rfl) (fun _ _ _ h => h) (Or.inl ⟨by rfl, ?_⟩) hHeld ?_
    rotate_left 1
    · (intro w hSw; (try dsimp only at hSw); go_simp; (try with_reducible rfl))
    simp only [List.setIfInBounds_toArray, List.set_cons_zero, List.set_cons_succ]
    refine takeD (i := 2) (d := 74) (v := ?_) rfl rfl (by kernel_rfl) (by kernel_rfl) (by kernel_rfl) (fun _ _ _ h => h) (Or.inl ⟨by rfl, ?_⟩) hHeld ?_
    rotate_left 1
    · (intro w hSw; (try dsimp only at hSw); go_simp; (try with_reducible rfl))
    simp only [List.setIfInBounds_toArray, List.set_cons_zero, List.set_cons_succ]
    refine takeD (i := 3) (d := 75) (v := ?_) rfl rfl (by kernel_rfl) (by kernel_rfl) (by kernel_rfl) (fun _ _ _ h => h) (Or.inl ⟨by rfl, ?_⟩) hHeld ?_
    rotate_left 1
    · (intro w hSw; (try dsimp only at hSw); go_simp; (try with_reducible rfl))
    simp only [List.setIfInBounds_toArray, List.set_cons_zero, List.set_cons_succ]
    refine takeD (i := 5) (d := 77) (v := ?_) rfl rfl (by kernel_rfl) (by kernel_rfl) (by kernel_rfl) (fun _ _ _ h => h) (Or.inl ⟨by rfl, ?_⟩) hHeld ?_
    rotate_left 1
    · (intro w hSw; (try dsimp only at hSw); go_simp; (try with_reducible rfl))
    simp only [List.setIfInBounds_toArray, List.set_cons_zero, List.set_cons_succ]
    refine takeD (i := 6) (d := 78) (v := (.int .u8 (S.hl : Int))) rfl rfl (by kernel_rfl) (by kernel_rfl) (by kernel_rfl) (fun _ _ _ h => h) (Or.inl ⟨by rfl, fun w hSw => ?_⟩) hHeld ?_
    · have cst := (cell_blk hSw 21).trans (show _ = some (.int .u8 (S.hl : Int)) from rfl)
      go_simp
    simp only [List.setIfInBounds_toArray, List.set_cons_zero, List.set_cons_succ]
    refine takeD (i := 7) (d := 79) (v := ?_) rfl rfl (by kernel_rfl) (by kernel_rfl) (by kernel_rfl) (fun _ _ _ h => h) (Or.inl ⟨by rfl, ?_⟩) hHeld ?_
    rotate_left 1
    · (intro w hSw; (try dsimp only at hSw); go_simp; (try with_reducible rfl))
    simp only [List.setIfInBounds_toArray, List.set_cons_zero, List.set_cons_succ]
    refine takeD (i := 8) (d := 80) (v := (.int .u8 (S.hu : Int))) rfl rfl (by kernel_rfl) (by kernel_rfl) (by kernel_rfl) (fun _ _ _ h => h) (Or.inl ⟨by rfl, fun w hSw => ?_⟩) hHeld ?_
    · have cst := (cell_blk hSw 22).trans (show _ = some (.int .u8 (S.hu : Int)) from rfl)
      go_simp
    simp only [List.setIfInBounds_toArray, List.set_cons_zero, List.set_cons_succ]
    refine appLit (fuel := 1) (iA := 4) (iL := 9) (iB := 10) (dA := 76) (dL := 81) (dB := 82) (sA := 72) (sX := 75) (B := g + 1) (v := v6) (vx := .slice (some ⟨g, 15, none⟩) 6 6) (A := A6) (X := rawsL S) (X2 := [(S.hl : Int), (S.hu : Int)]) rfl rfl rfl rfl rfl rfl rfl rfl rfl rfl rfl ?rl0 ?rl1 (by kernel_rfl) (by kernel_rfl) (by kernel_rfl) (by kernel_rfl) (by decide) (by decide) (by decide) (by decide) (by simp) (by simp) rfl (HO6.out.mods0 (Mods.refl.drewN 1)) rfl (Sen.raws_rd hHeld) (by simp [rawsL]; omega) hz6 (fun w' M => M.heap hHeld (fun hm => by have := mem_from hm; omega)) ?_
    case rl0 => intro w; go_simp; rfl
    case rl1 => intro u w; go_simp; rfl
    intro v7 g7 v8 w8 O8 M8
    have hHeld := M8.heap hHeld (fun hm => by have := mem_from hm; omega)
    have HM8 := Lib.hid ((HM6.out.drewN 1).comp M8 (fun k hk => .inr (by have := mem_from hk; have := HG.out; omega)))
    have hz8 : g + 1 ≤ w8.heap.size := Nat.le_trans hz6 M8.size
    have HO8 := Lib.hid O8
    have hlen8 : (A6 ++ rawsL S ++ [(S.hl : Int), (S.hu : Int)]).length ≤ 300 := by simp [rawsL]; omega
    generalize hA8 : A6 ++ rawsL S ++ [(S.hl : Int), (S.hu : Int)] = A8 at HO8 hlen8
    have HA8 := Lib.hid hA8
    clear hA8 O8 M8 HO6 HM6 HH6 hz6
    simp only [List.setIfInBounds_toArray, List.set_cons_zero, List.set_cons_succ]
    refine takeD (i := 11) (d := 5) (v := ?_) rfl rfl (by kernel_rfl) (by kernel_rfl) (by kernel_rfl) (fun _ _ _ h => h) (Or.inl ⟨by rfl, ?_⟩) hHeld ?_
    rotate_left 1
    · (intro w hSw; (try dsimp only at hSw); go_simp; (try with_reducible rfl))
    simp only [List.setIfInBounds_toArray, List.set_cons_zero, List.set_cons_succ]
    refine wpAnyH_done (by kernel_rfl) ?_ _
    have c24 : w8.cell? ⟨g, 24, none⟩ = some (.int .u16 S.asrt) := (cell_blk hHeld 24).trans rfl
    have c25 : w8.cell? ⟨g, 25, none⟩ = some (.int .u16 S.deas) := (cell_blk hHeld 25).trans rfl
    clear hHeld
    go_wp2_with fail
    have R9 := heap_alloc_new w8 (.cells #[.int .u16 (S.asrt : Int), .int .u16 (S.deas : Int)] 30)
    have M9 := (Mods.refl (S := []) (w := w8)).alloc (.cells #[.int .u16 (S.asrt : Int), .int .u16 (S.deas : Int)] 30)
    have HO9 := Lib.hid (HO8.out.mods0 M9)
    have HM9 := Lib.hid (HM8.out.trans M9)
    have hz9 := Nat.le_trans hz8 M9.size
    generalize w8.alloc (.cells #[.int .u16 (S.asrt : Int), .int .u16 (S.deas : Int)] 30) = w9 at R9 HO9 HM9 hz9 ⊢
    generalize w8.heap.size = gl at R9 ⊢
    have HRL : Rd w9 (.slice (some ⟨gl, 0, none⟩) 2 2) (u16s [S.asrt, S.deas]) := ⟨some ⟨gl, 0, none⟩, 2, rfl, Nat.le_refl _, by decide, fun i hi => ⟨gl, 0, rfl, by
      rw [cell_blk R9]
      match i, hi with
      | 0, _ | 1, _ => rfl⟩⟩
    have H16 : ∀ n ∈ [S.asrt, S.deas], n < 65536 := fun n hn => by simp at hn; rcases hn with rfl | rfl <;> assumption
    clear M9 R9 c24 c25 HO8 HM8 hz8
    refine (two_ok w9 _ [S.asrt, S.deas] HRL H16 (by simp)).mono ?_
    rintro e w10 ⟨v10, rfl, O10, M10⟩
    have HX := Lib.hid (show OwnB _ _ _ _ from O10)
    have HO10 := Lib.hid (HO9.out.mods0 M10)
    have HM10 := Lib.hid (HM9.out.trans M10)
    have hz10 := Nat.le_trans hz9 M10.size
    clear HRL O10 M10 HO9 HM9 hz9
    go_wp2_with (at_builtin; refine wpList_appB (by rfl) (.tmp 83) (.tmp 89) rfl (v := v8) (by rfl) HO10.out (by rfl) HX.out.rd (by rw [twoL_length]; simp; omega) hz10 ?_; intro v11 w11 O11 M11; have HM11 := Lib.hid (HM10.out.comp M11 (fun k hk => .inr (by have := HO10.out.back hk; have := HG.out; omega))); have HO11 := Lib.hid O11; clear O11 M11)
    have HE : A8 ++ twoL [S.asrt, S.deas] = senL S P := by rw [senL, HF.out, HD.out, ← HA8.out, ← HA6.out, ← HHD.out]; simp
    have HB : Bytes (senL S P) := bytes_of fun x hx => by
      rw [← HE, ← HA8.out, ← HA6.out, ← HHD.out] at hx
      have hmk := HS.out.mask
      have hhl := HS.out.hl
      have hhu := HS.out.hu
      have hrw := HS.out.raw
      have r0 := hrw 0
      have r1 := hrw 1
      have r2 := hrw 2
      have r3 := hrw 3
      have r4 := hrw 4
      have r5 := hrw 5
      simp only [Sen.raw, List.getD_cons_zero, List.getD_cons_succ] at r0 r1 r2 r3 r4 r5
      simp only [List.mem_append, rawsL, headL, List.mem_cons, List.mem_nil_iff, or_false] at hx
      rcases hx with (((((hx | hx) | hx) | hx) | hx) | hx) | hx
      · rcases hx with rfl | rfl | rfl | rfl | rfl | rfl | rfl | rfl <;> constructor <;> omega
      · exact nameL_bytes _ x hx
      · exact convL_bytes HCV.out HS.out.conv.pok x hx
      · subst hx; constructor <;> omega
      · rcases hx with rfl | rfl | rfl | rfl | rfl | rfl <;> constructor <;> omega
      · rcases hx with rfl | rfl <;> constructor <;> omega
      · exact twoL_bytes _ H16 x hx
    have hlen : (senL S P).length ≤ 100000 := by rw [← HE, List.length_append, twoL_length]; simp; omega
    have hO := HO11.out
    rw [HE] at hO
    clear HX HO10 HM10 hz10 HE
    refine (seal8_ok w11 v11 (senL S P) hO.rd HB hlen).mono ?_
    rintro e w12 ⟨v12, rfl, O12, M12⟩
    have HM12 := Lib.hid (HM11.out.trans M12)
    have HO12 := Lib.hid (owns_down O12 HM11.out.size)
    clear O12 M12 hO HO11 HM11
    go_wp2
    go_ret2
    exact ⟨_, rfl, HO12.out, HM12.out⟩
  | true =>
    rw [hh] at c26
    have HF := Lib.hid (show flagS S = (4*S.samples+2) by unfold flagS; rw [hh, HD.out]; simp)
    clear hh
    have MA := (Mods.refl (S := []) (w := w2)).alloc (.cells #[.int .u8 1, .int .u8 (S.number : Int), .int .u8 (S.type : Int), .int .u8 (S.unit : Int), .int .u8 (S.eid : Int), .int .u8 (S.einst : Int), .int .u8 (4*S.samples+2), .int .u8 (S.name.size : Int)] 5)
    have ca3 := MA.cell c3 (by simp)
    go_wp2_with (first | (at_builtin; refine Lib.wpList_append_own_string _ rfl (.tmp 41) (.tmp 43) 33 9 rfl (g + 1) 5 i0 Try.underlying33 Try.underlying9 hi hz0 hz1 hz2 _ 8 (u8s (headL S ((4*S.samples+2)))) (by rfl) (World.ownsRow_lit w2 #[.int .u8 1, .int .u8 S.number, .int .u8 S.type, .int .u8 S.unit, .int .u8 S.eid, .int .u8 S.einst, .int .u8 (4*S.samples+2), .int .u8 S.name.size] 8 hzz (by decide) rfl) S.name (by rfl) (by unfold maxLen; omega) (by omega) (by simp; omega) ?_; intro v3 w3 O3 G3 _; have HM3 := Lib.hid ((HM.out.trans MA).grown G3 (fun q hq => .inr (by simp [Value.ownBlock] at hq; have := HG.out; omega))); have HH3 : Hid (w3.heap[g]? = some (.cells S.cells 32 (0, 0))) := Lib.hid ((Mods.of_grown G3).heap (MA.heap HH.out (by simp)) (by simp [Value.ownBlock]; omega)); have q6 : w3.cell? ⟨g, 6, none⟩ = some (.bool false) := (by rw [cell_blk HH3.out]; rw [cell_blk HH.out] at c6; exact c6); have hz3 : g + 1 ≤ w3.heap.size := (by have := G3.size; simp at this; omega); have HO3 : Hid (OwnB w3 (g + 1) v3 (headL S ((4*S.samples+2)) ++ nameL S.name)) := Lib.hid (by unfold OwnB; rw [u8s_length, List.length_append, nameL_length]; have e : u8s (headL S ((4*S.samples+2)) ++ nameL S.name) = u8s (headL S ((4*S.samples+2))) ++ Lib.strCells S.name := (by rw [nameL_cells]; simp [u8s]); rw [e]; exact O3); clear G3 O3 MA ca3) | (refine wpList_load_mid rfl 26 (.tmp 59) rfl g 7 (by rfl) S.conv.cells.toList _ (Sen.conv_range HH3.out) Try.underlying26 rfl Try.infoC ?_; rw [Array.toArray_toList]))
    clear q6 c27 c6 c26 c0 c1 c2 c3 c4 c5 HH HM
    refine (convEnc_ok w3 S.conv P (HS.out.conv.mods0 HM3.out)).mono ?_
    rw [HCV.out]
    intro e w4 hE
    obtain ⟨v4, rfl, O4, M4⟩ : EncOut _ _ _ _ := hE
    have HO4 := Lib.hid (show OwnB _ _ _ _ from O4)
    have HO3 := Lib.hid (HO3.out.mods0 M4)
    have HM4 := Lib.hid (HM3.out.trans M4)
    have HH4 := Lib.hid (M4.heap HH3.out (by simp))
    have hz4 : g + 1 ≤ w4.heap.size := Nat.le_trans hz3 M4.size
    have hlen3 : (headL S ((4*S.samples+2)) ++ nameL S.name).length ≤ 24 := by rw [List.length_append, nameL_length]; simp [headL]; omega
    clear O4 M4 HM3 HH3 hz3
    generalize hhd : headL S ((4*S.samples+2)) ++ nameL S.name = A3 at HO3 hlen3
    have HHD := Lib.hid hhd
    clear hhd
    go_wp2_with fail
    try dsimp only [Act.put]
    refine heldStart (S := fun W => W.heap[g]? = some (.cells S.cells 32 (0, 0))) 9 rfl (by kernel_rfl) HH4.out (fun hHeld => ?_)
    refine takeD (i := 0) (d := 64) (v := ?_) rfl rfl (by kernel_rfl) (by kernel_rfl) (by kernel_rfl) (fun _ _ _ h => h) (Or.inl ⟨by rfl, ?_⟩) hHeld ?_
    rotate_left 1
    · (intro w hSw; (try dsimp only at hSw); go_simp; (try with_reducible rfl))
    simp only [List.setIfInBounds_toArray, List.set_cons_zero, List.set_cons_succ]
    refine takeD (i := 1) (d := 65) (v := ?_) rfl rfl (by kernel_rfl) (by kernel_rfl) (by kernel_rfl) (fun _ _ _ h => h) (Or.inl ⟨by rfl, ?_⟩) hHeld ?_
    rotate_left 1
    · (intro w hSw; (try dsimp only at hSw); go_simp; (try with_reducible rfl))
    simp only [List.setIfInBounds_toArray, List.set_cons_zero, List.set_cons_succ]
    refine takeD (i := 3) (d := 67) (v := ?_) rfl rfl (by kernel_rfl) (by kernel_rfl) (by kernel_rfl) (fun _ _ _ h => h) (Or.inl ⟨by rfl, ?_⟩) hHeld ?_
    rotate_left 1
    · (intro w hSw; (try dsimp only at hSw); go_simp; (try with_reducible rfl))
    simp only [List.setIfInBounds_toArray, List.set_cons_zero, List.set_cons_succ]
    refine takeD (i := 4) (d := 68) (v := ?_) rfl rfl (by kernel_rfl) (by kernel_rfl) (by kernel_rfl) (fun _ _ _ h => h) (Or.inl ⟨by rfl, ?_⟩) hHeld ?_
    rotate_left 1
    · (intro w hSw; (try dsimp only at hSw); go_simp; (try with_reducible rfl))
    simp only [List.setIfInBounds_toArray, List.set_cons_zero, List.set_cons_succ]
    refine takeD (i := 5) (d := 69) (v := (.int .u8 (S.mask : Int))) rfl rfl (by kernel_rfl) (by kernel_rfl) (by kernel_rfl) (fun _ _ _ h => h) (Or.inl ⟨by rfl, fun w hSw => ?_⟩) hHeld ?_
    · have cst := (cell_blk hSw 14).trans (show _ = some (.int .u8 (S.mask : Int)) from rfl)
      go_simp
    simp only [List.setIfInBounds_toArray, List.set_cons_zero, List.set_cons_succ]
    refine appLit (fuel := 1) (iA := 2) (iL := 6) (iB := 7) (dA := 66) (dL := 70) (dB := 71) (sA := 64) (sX := 65) (B := g + 1) (v := v3) (vx := v4) (A := A3) (X := convL S.conv P) (X2 := [(S.mask : Int)]) rfl rfl rfl rfl rfl rfl rfl rfl rfl rfl rfl ?rl0 ?rl1 (by kernel_rfl) (by kernel_rfl) (by kernel_rfl) (by kernel_rfl) (by decide) (by decide) (by decide) (by decide) (by simp) (by simp) rfl (HO3.out.mods0 (Mods.refl.drewN 1)) rfl (HO4.out.rd.mods0 (Mods.refl.drewN 1)) (by simp; omega) hz4 (fun w' M => M.heap hHeld (fun hm => by have := mem_from hm; omega)) ?_
    case rl0 => intro w; go_simp; rfl
    case rl1 => intro u w; go_simp; rfl
    intro v5 g5 v6 w6 O6 M6
    have hHeld := M6.heap hHeld (fun hm => by have := mem_from hm; omega)
    have HM6 := Lib.hid ((HM4.out.drewN 1).comp M6 (fun k hk => .inr (by have := mem_from hk; have := HG.out; omega)))
    have hz6 : g + 1 ≤ w6.heap.size := Nat.le_trans hz4 M6.size
    have HO6 := Lib.hid O6
    have hlen6 : (A3 ++ convL S.conv P ++ [(S.mask : Int)]).length ≤ 200 := by simp; omega
    generalize hA6 : A3 ++ convL S.conv P ++ [(S.mask : Int)] = A6 at HO6 hlen6
    have HA6 := Lib.hid hA6
    clear hA6 O6 M6 HO3 HO4 HM4 HH4 hz4
    simp only [List.setIfInBounds_toArray, List.set_cons_zero, List.set_cons_succ]
    refine takeD (i := 8) (d := 5) (v := ?_) rfl rfl (by kernel_rfl) (by kernel_rfl) (by kernel_rfl) (fun _ _ _ h => h) (Or.inl ⟨by rfl, ?_⟩) hHeld ?_
    rotate_left 1
    · (intro w hSw; (try dsimp only at hSw); go_simp; (try with_reducible rfl))
    simp only [List.setIfInBounds_toArray, List.set_cons_zero, List.set_cons_succ]
    refine wpAnyH_done (by kernel_rfl) ?_ _
    have HH6 := Lib.hid hHeld
    clear hHeld
    go_wp2_with fail
    try dsimp only [Act.put]
    refine heldStart (S := fun W => W.heap[g]? = some (.cells S.cells 32 (0, 0))) 12 rfl (by kernel_rfl) HH6.out (fun hHeld => ?_)
    refine takeD (i := 0) (d := 72) (v := ?_) rfl rfl (by kernel_rfl) (by kernel_rfl) (by kernel_rfl) (fun _ _ _ h => h) (Or.inl ⟨by rfl, ?_⟩) hHeld ?_
    rotate_left 1
    · (intro w hSw; (try dsimp only at hSw); go_simp; (try with_reducible rfl))
    simp only [List.setIfInBounds_toArray, List.set_cons_zero, List.set_cons_succ]
    refine takeD (i := 1) (d := 73) (v := ?_) rfl rfl (by kernel_rfl) (by kernel_rfl) (by kernel_rfl) (fun _ _ _ h => h) (Or.inl ⟨by rfl, ?_⟩) hHeld ?_
    rotate_left 1
    · (intro w hSw; (try dsimp only at hSw); go_simp; (try with_reducible rfl))
    simp only [List.setIfInBounds_toArray, List.set_cons_zero, List.set_cons_succ]
    refine takeD (i := 2) (d := 74) (v := ?_) rfl rfl (by kernel_rfl) (by kernel_rfl) (by kernel_rfl) (fun _ _ _ h => h) (Or.inl ⟨by rfl, ?_⟩) hHeld ?_
    rotate_left 1
    · (intro w hSw; (try dsimp only at hSw); go_simp; (try with_reducible rfl))
    simp only [List.setIfInBounds_toArray, List.set_cons_zero, List.set_cons_succ]
    refine takeD (i := 3) (d := 75) (v := ?_) rfl rfl (by kernel_rfl) (by kernel_rfl) (by kernel_rfl) (fun _ _ _ h => h) (Or.inl ⟨by rfl, ?_⟩) hHeld ?_
    rotate_left 1
    · (intro w hSw; (try dsimp only at hSw); go_simp; (try with_reducible rfl))
    simp only [List.setIfInBounds_toArray, List.set_cons_zero, List.set_cons_succ]
    refine takeD (i := 5) (d := 77) (v := ?_) rfl rfl (by kernel_rfl) (by kernel_rfl) (by kernel_rfl) (fun _ _ _ h => h) (Or.inl ⟨by rfl, ?_⟩) hHeld ?_
    rotate_left 1
    · (intro w hSw; (try dsimp only at hSw); go_simp; (try with_reducible rfl))
    simp only [List.setIfInBounds_toArray, List.set_cons_zero, List.set_cons_succ]
    refine takeD (i := 6) (d := 78) (v := (.int .u8 (S.hl : Int))) rfl rfl (by kernel_rfl) (by kernel_rfl) (by kernel_rfl) (fun _ _ _ h => h) (Or.inl ⟨by rfl, fun w hSw => ?_⟩) hHeld ?_
    · have cst := (cell_blk hSw 21).trans (show _ = some (.int .u8 (S.hl : Int)) from rfl)
      go_simp
    simp only [List.setIfInBounds_toArray, List.set_cons_zero, List.set_cons_succ]
    refine takeD (i := 7) (d := 79) (v := ?_) rfl rfl (by kernel_rfl) (by kernel_rfl) (by kernel_rfl) (fun _ _ _ h => h) (Or.inl ⟨by rfl, ?_⟩) hHeld ?_
    rotate_left 1
    · (intro w hSw; (try dsimp only at hSw); go_simp; (try with_reducible rfl))
    simp only [List.setIfInBounds_toArray, List.set_cons_zero, List.set_cons_succ]
    refine takeD (i := 8) (d := 80) (v := (.int .u8 (S.hu : Int))) rfl rfl (by kernel_rfl) (by kernel_rfl) (by kernel_rfl) (fun _ _ _ h => h) (Or.inl ⟨by rfl, fun w hSw => ?_⟩) hHeld ?_
    · have cst := (cell_blk hSw 22).trans (show _ = some (.int .u8 (S.hu : Int)) from rfl)
      go_simp
    simp only [List.setIfInBounds_toArray, List.set_cons_zero, List.set_cons_succ]
    refine appLit (fuel := 1) (iA := 4) (iL := 9) (iB := 10) (dA := 76) (dL := 81) (dB := 82) (sA := 72) (sX := 75) (B := g + 1) (v := v6) (vx := .slice (some ⟨g, 15, none⟩) 6 6) (A := A6) (X := rawsL S) (X2 := [(S.hl : Int), (S.hu : Int)]) rfl rfl rfl rfl rfl rfl rfl rfl rfl rfl rfl ?rl0 ?rl1 (by kernel_rfl) (by kernel_rfl) (by kernel_rfl) (by kernel_rfl) (by decide) (by decide) (by decide) (by decide) (by simp) (by simp) rfl (HO6.out.mods0 (Mods.refl.drewN 1)) rfl (Sen.raws_rd hHeld) (by simp [rawsL]; omega) hz6 (fun w' M => M.heap hHeld (fun hm => by have := mem_from hm; omega)) ?_
    case rl0 => intro w; go_simp; rfl
    case rl1 => intro u w; go_simp; rfl
    intro v7 g7 v8 w8 O8 M8
    have hHeld := M8.heap hHeld (fun hm => by have := mem_from hm; omega)
    have HM8 := Lib.hid ((HM6.out.drewN 1).comp M8 (fun k hk => .inr (by have := mem_from hk; have := HG.out; omega)))
    have hz8 : g + 1 ≤ w8.heap.size := Nat.le_trans hz6 M8.size
    have HO8 := Lib.hid O8
    have hlen8 : (A6 ++ rawsL S ++ [(S.hl : Int), (S.hu : Int)]).length ≤ 300 := by simp [rawsL]; omega
    generalize hA8 : A6 ++ rawsL S ++ [(S.hl : Int), (S.hu : Int)] = A8 at HO8 hlen8
    have HA8 := Lib.hid hA8
    clear hA8 O8 M8 HO6 HM6 HH6 hz6
    simp only [List.setIfInBounds_toArray, List.set_cons_zero, List.set_cons_succ]
    refine takeD (i := 11) (d := 5) (v := ?_) rfl rfl (by kernel_rfl) (by kernel_rfl) (by kernel_rfl) (fun _ _ _ h => h) (Or.inl ⟨by rfl, ?_⟩) hHeld ?_
    rotate_left 1
    · (intro w hSw; (try dsimp only at hSw); go_simp; (try with_reducible rfl))
    simp only [List.setIfInBounds_toArray, List.set_cons_zero, List.set_cons_succ]
    refine wpAnyH_done (by kernel_rfl) ?_ _
    have c24 : w8.cell? ⟨g, 24, none⟩ = some (.int .u16 S.asrt) := (cell_blk hHeld 24).trans rfl
    have c25 : w8.cell? ⟨g, 25, none⟩ = some (.int .u16 S.deas) := (cell_blk hHeld 25).trans rfl
    clear hHeld
    go_wp2_with fail
    have R9 := heap_alloc_new w8 (.cells #[.int .u16 (S.asrt : Int), .int .u16 (S.deas : Int)] 30)
    have M9 := (Mods.refl (S := []) (w := w8)).alloc (.cells #[.int .u16 (S.asrt : Int), .int .u16 (S.deas : Int)] 30)
    have HO9 := Lib.hid (HO8.out.mods0 M9)
    have HM9 := Lib.hid (HM8.out.trans M9)
    have hz9 := Nat.le_trans hz8 M9.size
    generalize w8.alloc (.cells #[.int .u16 (S.asrt : Int), .int .u16 (S.deas : Int)] 30) = w9 at R9 HO9 HM9 hz9 ⊢
    generalize w8.heap.size = gl at R9 ⊢
    have HRL : Rd w9 (.slice (some ⟨gl, 0, none⟩) 2 2) (u16s [S.asrt, S.deas]) := ⟨some ⟨gl, 0, none⟩, 2, rfl, Nat.le_refl _, by decide, fun i hi => ⟨gl, 0, rfl, by
      rw [cell_blk R9]
      match i, hi with
      | 0, _ | 1, _ => rfl⟩⟩
    have H16 : ∀ n ∈ [S.asrt, S.deas], n < 65536 := fun n hn => by simp at hn; rcases hn with rfl | rfl <;> assumption
    clear M9 R9 c24 c25 HO8 HM8 hz8
    refine (two_ok w9 _ [S.asrt, S.deas] HRL H16 (by simp)).mono ?_
    rintro e w10 ⟨v10, rfl, O10, M10⟩
    have HX := Lib.hid (show OwnB _ _ _ _ from O10)
    have HO10 := Lib.hid (HO9.out.mods0 M10)
    have HM10 := Lib.hid (HM9.out.trans M10)
    have hz10 := Nat.le_trans hz9 M10.size
    clear HRL O10 M10 HO9 HM9 hz9
    go_wp2_with (at_builtin; refine wpList_appB (by rfl) (.tmp 83) (.tmp 89) rfl (v := v8) (by rfl) HO10.out (by rfl) HX.out.rd (by rw [twoL_length]; simp; omega) hz10 ?_; intro v11 w11 O11 M11; have HM11 := Lib.hid (HM10.out.comp M11 (fun k hk => .inr (by have := HO10.out.back hk; have := HG.out; omega))); have HO11 := Lib.hid O11; clear O11 M11)
    have HE : A8 ++ twoL [S.asrt, S.deas] = senL S P := by rw [senL, HF.out, HD.out, ← HA8.out, ← HA6.out, ← HHD.out]; simp
    have HB : Bytes (senL S P) := bytes_of fun x hx => by
      rw [← HE, ← HA8.out, ← HA6.out, ← HHD.out] at hx
      have hmk := HS.out.mask
      have hhl := HS.out.hl
      have hhu := HS.out.hu
      have hrw := HS.out.raw
      have r0 := hrw 0
      have r1 := hrw 1
      have r2 := hrw 2
      have r3 := hrw 3
      have r4 := hrw 4
      have r5 := hrw 5
      simp only [Sen.raw, List.getD_cons_zero, List.getD_cons_succ] at r0 r1 r2 r3 r4 r5
      simp only [List.mem_append, rawsL, headL, List.mem_cons, List.mem_nil_iff, or_false] at hx
      rcases hx with (((((hx | hx) | hx) | hx) | hx) | hx) | hx
      · rcases hx with rfl | rfl | rfl | rfl | rfl | rfl | rfl | rfl <;> constructor <;> omega
      · exact nameL_bytes _ x hx
      · exact convL_bytes HCV.out HS.out.conv.pok x hx
      · subst hx; constructor <;> omega
      · rcases hx with rfl | rfl | rfl | rfl | rfl | rfl <;> constructor <;> omega
      · rcases hx with rfl | rfl <;> constructor <;> omega
      · exact twoL_bytes _ H16 x hx
    have hlen : (senL S P).length ≤ 100000 := by rw [← HE, List.length_append, twoL_length]; simp; omega
    have hO := HO11.out
    rw [HE] at hO
    clear HX HO10 HM10 hz10 HE
    refine (seal8_ok w11 v11 (senL S P) hO.rd HB hlen).mono ?_
    rintro e w12 ⟨v12, rfl, O12, M12⟩
    have HM12 := Lib.hid (HM11.out.trans M12)
    have HO12 := Lib.hid (owns_down O12 HM11.out.size)
    clear O12 M12 hO HO11 HM11
    go_wp2
    go_ret2
    exact ⟨_, rfl, HO12.out, HM12.out⟩
end Go.Proofs.Ytijjkonephjodaa

namespace Go.Proofs.Ytijjkonephjodaa
open Go.RowKit

theorem bodyD_eq {S : Sen} {P : List Pt} (hd : S.disc = true) (hv : validB S P = true) : bodyD S = senL S P := by
  have h1 : S.samples = 1 := by
    unfold validB at hv
    rw [hd] at hv
    simp only [Bool.and_eq_true, if_true, discB, decide_eq_true_eq] at hv
    exact hv.2.1.2.1
  have hf : flagD S = flagS S := by unfold flagD flagS; rw [h1, hd]; cases S.host <;> simp
  rw [bodyD, senL, hd, hf, if_pos rfl]
set_option maxRecDepth 100000 in
set_option maxHeartbeats 1000000 in
theorem encodeS_ok (w : World) (S : Sen) (P : List Pt) (hS : IsSen w S P) :
    Calls Try.prog 16 #[.agg S.cells] w fun e w' => EncRes w (validB S P) (seal8 (senL S P)) e w' := by
  cases hv : validB S P with
  | true =>
    cases hd : S.disc with
    | true => rw [← bodyD_eq hd hv]; exact encodeD_ok w S P hS hd hv
    | false => exact encodeA_ok w S P hS hd hv
  | false =>
    have HV := Lib.hid hv
    have HS := Lib.hid hS
    clear hv hS
    have BB := Lib.hid (SenBox.new w S)
    have M0 := Lib.hid ((Mods.refl (S := []) (w := w)).alloc (.cells S.cells 32))
    go_enter Try.func16, Try.ntmps16
    go_wp2_with (refine wpList_load_sen rfl (.tmp 1) rfl BB.out (by rfl) ?_)
    refine (valid_ok _ S P (HS.out.mods0 M0.out)).mono ?_
    rw [HV.out]
    rintro e w2 ⟨rfl, M2⟩
    go_wp2
    go_ret2
    exact ⟨rfl, M0.out.trans M2⟩
end Go.Proofs.Ytijjkonephjodaa

namespace Go.Proofs.Ytijjkonephjodaa
open Go.RowKit

set_option maxRecDepth 100000 in
theorem refLittle_ok (w : World) (V : Int) (n : Nat) (hn : n ≤ 8) :
    Calls Try.prog 89 #[.int .i64 V, .int .i64 n] w fun e w' => OwnedBy 5 w (u8s (leL V n)) e w' := by
  have HL := Lib.hid (leL_mod V n hn)
  have h1 : 0 ≤ V % 18446744073709551616 ∧ V % 18446744073709551616 ≤ 18446744073709551615 := by omega
  have HB := Lib.hid h1
  clear h1
  go_enter Try.func89, Try.ntmps89
  go_wp2_with fail
  refine (little_ok w (V % 18446744073709551616) n HB.out (by omega)).mono ?_
  rw [HL.out]
  rintro e w1 ⟨v1, rfl, O1, M1⟩
  go_wp2
  go_ret
  exact ⟨_, rfl, O1, M1⟩
theorem add128 (f : Int) (h : 1 ≤ f ∧ f ≤ 5) : IntKind.u8.wrap (f + 128) = f + 128 := by
  have : f = 1 ∨ f = 2 ∨ f = 3 ∨ f = 4 ∨ f = 5 := by omega
  rcases this with rfl | rfl | rfl | rfl | rfl <;> decide
set_option maxRecDepth 100000 in
set_option maxHeartbeats 2000000 in
theorem refEnc_ok (w : World) (C : Conv) (P : List Pt) (hC : IsConv w C P) :
    Calls Try.prog 54 #[.agg C.cells] w fun e w' => EncRes w (convB C P) (convL C P) e w' := by
  have HC := Lib.hid hC
  have R0 := Lib.hid (heap_alloc_new w (.cells C.cells 26))
  have M0 := Lib.hid ((Mods.refl (S := []) (w := w)).alloc (.cells C.cells 26))
  have V0 := Lib.hid (fun W (M : Mods [] w W) => refConvValid_ok W C P (hC.mods0 M))
  clear hC
  cases hv : convB C P with
  | false =>
    have HV := Lib.hid hv
    clear hv
    go_enter Try.func54, Try.ntmps54
    go_wp2_with (refine wpList_load_row rfl 26 (.tmp 1) rfl w.heap.size (by rfl) _ _ _ _ R0.out Try.underlying26 rfl Try.infoC ?_)
    refine (V0.out _ M0.out).mono ?_
    rw [HV.out]
    rintro e w1 ⟨rfl, M1⟩
    go_wp2
    go_ret2
    exact ⟨rfl, M0.out.trans M1⟩
  | true =>
    have HV := Lib.hid hv
    have hf15 : 1 ≤ C.form ∧ C.form ≤ 5 := by
      by_cases h5 : C.form = 5
      · omega
      · have := convB_lin hv h5; omega
    obtain ⟨hf1, hf5⟩ := hf15
    have eor := add128 C.form ⟨hf1, hf5⟩
    clear hv
    have rc0 : C.cells[0]? = some (.int .i64 C.form) := rfl
    have rc1 : C.cells[1]? = some (.bool C.sgn) := rfl
    obtain ⟨f, hf⟩ : ∃ f, f = C.form := ⟨_, rfl⟩
    rw [← hf] at hf1 hf5 eor rc0
    have HF := Lib.hid hf
    clear hf
    by_cases h5 : f = 5
    · have d5 : (f != 5) = false := by simpa using h5
      have HF5 := Lib.hid h5
      clear h5
      have hI := HC.out
      have hPl := convB_tab HV.out (HF.out.symm.trans HF5.out)
      obtain ⟨hp2, hp12⟩ := hPl
      have HPK := Lib.hid hI.pok
      obtain ⟨ad, cap, hpts, hc1, hc2, -⟩ := hI.rd
      have hcap : cap ≤ 9223372036854775807 := hc2
      clear hI hc2
      have rc6 : C.cells[6]? = some (.slice ad P.length cap) := by rw [← hpts]; rfl
      have HPT := Lib.hid hpts
      clear hpts
      cases hs : C.sgn with
      | false =>
        rw [hs] at rc1
        have HS := Lib.hid hs
        clear hs
        go_enter Try.func54, Try.ntmps54
        go_wp2_with (refine wpList_load_row rfl 26 (.tmp 1) rfl w.heap.size (by rfl) _ _ _ _ R0.out Try.underlying26 rfl Try.infoC ?_)
        refine (V0.out _ M0.out).mono ?_
        rw [HV.out]
        rintro e w1 ⟨rfl, M1⟩
        have HR1 := Lib.hid (M1.heap R0.out (by simp))
        have HM1 := Lib.hid (M0.out.trans M1)
        have hz1 : w.heap.size + 1 ≤ w1.heap.size := by have := M1.size; simp at this; omega
        have cf0 : w1.cell? ⟨w.heap.size, 0, none⟩ = some (.int .i64 f) := (cell_blk HR1.out 0).trans rc0
        have c1 : w1.cell? ⟨w.heap.size, 1, none⟩ = some (.bool false) := (cell_blk HR1.out 1).trans rc1
        have c0 : (w1.alloc (.cells #[.int .u8 f] 5)).cell? ⟨w.heap.size, 0, none⟩ = some (.int .i64 f) := (cell_blk (heap_alloc HR1.out) 0).trans rc0
        have c2 : (w1.alloc (.cells #[.int .u8 f] 5)).cell? ⟨w.heap.size, 2, none⟩ = some (.int .i64 C.m) := (cell_blk (heap_alloc HR1.out) 2).trans rfl
        have c6 : (w1.alloc (.cells #[.int .u8 f] 5)).cell? ⟨w.heap.size, 6, none⟩ = some C.pts := (cell_blk (heap_alloc HR1.out) 6).trans rfl
        clear M1
        rw [HPT.out] at c6
        go_wp2_with (first
          | (show wpList _ _ _ (⟨some 43, .fieldAddr 26 (.tmp 1) 6, _, _, _, _⟩ :: _) _ _
             have HR2 := Lib.hid (heap_alloc (o' := .cells #[.int .u8 f] 5) HR1.out)
             have HO2 : Hid (OwnB (w1.alloc (.cells #[.int .u8 f] 5)) (w.heap.size + 1) (.slice (some ⟨w1.heap.size, 0, none⟩) 1 1) [f]) := Lib.hid (OwnB.lit w1 hz1 [f] (by unfold maxLen; simp))
             have HM2 := Lib.hid (HM1.out.alloc (.cells #[.int .u8 f] 5))
             have hz2 : w.heap.size + 1 ≤ (w1.alloc (.cells #[.int .u8 f] 5)).heap.size := by simp; omega
             clear c0 c1 c2 cf0 c6 hz1 HR1 HM1
             generalize w1.alloc (.cells #[.int .u8 f] 5) = w2 at HR2 HO2 HM2 hz2 ⊢
             generalize w1.heap.size = g1 at HO2 ⊢
             generalize hgc : w.heap.size = gc at HR2 HO2 hz2 ⊢
             have HGC := Lib.hid hgc
             clear hgc
             have c6 : w2.cell? ⟨gc, 6, none⟩ = some (.slice ad P.length cap) := (cell_blk HR2.out 6).trans rc6)
          | (at_builtin; refine wpList_appB (by rfl) (.tmp 42) (.tmp 47) rfl (v := .slice (some ⟨g1, 0, none⟩) 1 1) (by rfl) (HO2.out.mods0 (Mods.refl.alloc _)) (by rfl) (OwnB.lit w2 (Nat.le_refl _) [(P.length : Int)] (by unfold maxLen; simp)).rd (by simp) (by simp; omega) ?_; intro v3 w3 O3 M3; have HM3 := Lib.hid ((HM2.out.alloc (.cells (u8s [(P.length : Int)]).toArray 5)).comp M3 (fun k hk => .inr (by have := HO2.out.back hk; have := HGC.out; omega))); have HR3 := Lib.hid (M3.heap (heap_alloc (o' := .cells (u8s [(P.length : Int)]).toArray 5) HR2.out) (fun hm => by have := HO2.out.back hm; omega)); have hz3 : gc + 1 ≤ w3.heap.size := Nat.le_trans hz2 (Nat.le_trans ((Mods.refl (S := []) (w := w2)).alloc (.cells (u8s [(P.length : Int)]).toArray 5)).size M3.size); have HO3 := Lib.hid O3; clear O3 M3))
        clear c6 hz2 HR2 HM2 HO2
        go_loopw [5, 6] (fun o i wr => ∃ k : Nat, k ≤ P.length ∧ i = .int .i64 k ∧ OwnB wr (gc + 1) o ([f] ++ [(P.length : Int)] ++ ptsL (P.take k)) ∧ Mods [] w wr ∧ gc + 1 ≤ wr.heap.size ∧ wr.heap[gc]? = some (.cells C.cells 26 (0, 0))) (fun _ i _ => P.length - (intOf i).toNat)
        case atStart => exact ⟨0, Nat.zero_le _, rfl, by simpa [ptsL] using HO3.out, HM3.out, hz3, HR3.out⟩
        case round =>
          obtain ⟨k, hk, rfl, O, M, hz, R⟩ := hrel
          clear HO3 HM3 hz3 HR3
          have c6 : wr.cell? ⟨gc, 6, none⟩ = some (.slice ad P.length cap) := (cell_blk R 6).trans rc6
          have i1 : (0 : Int) ≤ (k : Int) := by omega
          by_cases hlt : k < P.length
          · have HX := Lib.hid (fun W (M : Mods [] w W) => HC.out.rd.mods0 M)
            obtain ⟨_, _, he, _, _, hc⟩ := HX.out _ M
            obtain ⟨bb, off, rfl, x0, x1⟩ := hc k hlt
            rw [HPT.out] at he
            injection he with he1 he2 he3
            subst he1 he3
            clear hc he2
            have HX1 := Lib.hid (fun W (M : Mods [] w W) => show W.cell? ⟨bb, off + k * 2 + 1, none⟩ = some (.int .i64 (P.getD k default).val) from by
              obtain ⟨_, _, he, _, _, hc⟩ := HX.out _ M
              obtain ⟨bb', off', hq, _, y1⟩ := hc k hlt
              rw [HPT.out] at he
              injection he with he1 he2 he3
              rw [← he1] at hq
              cases hq
              exact y1)
            clear HX
            have hraw := HPK.out.raw k
            have HTK := Lib.hid (ptsL_take P k hlt)
            have hlen : (ptsL (P.take k)).length ≤ 84 := by rw [ptsL_length, List.length_take]; omega
            have i2 : (k : Int) < (P.length : Int) := by omega
            generalize (P.getD k default).raw = rr at x0 hraw HTK
            generalize (P.getD k default).val = vv at x1 HX1 HTK
            have HM := Lib.hid M
            have HO := Lib.hid O
            have HR := Lib.hid R
            clear M O R
            go_wp2_with (at_builtin; refine wpList_appB (by rfl) (.tmp 56) (.tmp 63) rfl (v := u5) (by rfl) (HO.out.mods0 (Mods.refl.alloc _)) (by rfl) (OwnB.lit wr (Nat.le_refl _) [(rr : Int)] (by unfold maxLen; simp)).rd (by simp only [List.length_append, List.length_cons, List.length_nil]; omega) (by simp; omega) ?_; intro v3 w3 O3 M3; have HM3 := Lib.hid ((HM.out.alloc (.cells (u8s [(rr : Int)]).toArray 5)).comp M3 (fun k hk => .inr (by have := HO.out.back hk; have := HGC.out; omega))); have HR3 := Lib.hid (M3.heap (heap_alloc (o' := .cells (u8s [(rr : Int)]).toArray 5) HR.out) (fun hm => by have := HO.out.back hm; omega)); have hz3 : gc + 1 ≤ w3.heap.size := Nat.le_trans hz (Nat.le_trans ((Mods.refl (S := []) (w := wr)).alloc (.cells (u8s [(rr : Int)]).toArray 5)).size M3.size); have HO3 := Lib.hid O3; have c63 : w3.cell? ⟨gc, 6, none⟩ = some (.slice (some ⟨bb, off, none⟩) P.length cap) := ((cell_blk HR3.out 6).trans rc6); have x13 := HX1.out w3 HM3.out; clear O3 M3)
            refine (refLittle_ok w3 vv 6 (by omega)).mono ?_
            rintro e w4 ⟨v4, rfl, O4, M4⟩
            have HX := Lib.hid (show OwnB _ _ _ _ from O4)
            have HO4 := Lib.hid (HO3.out.mods0 M4)
            have HM4 := Lib.hid (HM3.out.trans M4)
            have hz4 := Nat.le_trans hz3 M4.size
            have HR4 := Lib.hid (M4.heap HR3.out (by simp))
            clear O4 M4 HR3 HM3 HO3 hz3 c63 x13 c6 x0 x1 HX1 HR HM HO
            go_wp2_with (at_builtin; refine wpList_appB (by rfl) (.tmp 65) (.tmp 72) rfl (v := v3) (by rfl) HO4.out (by rfl) HX.out.rd (by simp only [List.length_append, List.length_cons, List.length_nil, leL_length]; omega) hz4 ?_; intro v5 w5 O5 M5; have HM5 := Lib.hid (HM4.out.comp M5 (fun k hk => .inr (by have := HO4.out.back hk; have := HGC.out; omega))); have HR5 := Lib.hid (M5.heap HR4.out (fun hm => by have := HO4.out.back hm; omega)); have hz5 : gc + 1 ≤ w5.heap.size := Nat.le_trans hz4 M5.size; have HO5 : Hid (OwnB w5 (gc + 1) v5 ([f] ++ [(P.length : Int)] ++ ptsL (P.take (k + 1)))) := Lib.hid (by rw [HTK.out]; simpa [List.append_assoc] using O5); clear O5 M5)
            exact ⟨⟨k + 1, by omega, by go_num, HO5.out, HM5.out, hz5, HR5.out⟩, by simp only [intOf]; omega⟩
          · have hk2 : k = P.length := by omega
            have HE : [f] ++ [(P.length : Int)] ++ ptsL (P.take k) = convL C P := by rw [convL, ← HF.out, if_pos HF5.out, HS.out, hk2, List.take_length]; simp
            rw [HE] at O
            have HO := Lib.hid (O.down (B' := w.heap.size) (by have := HGC.out; omega))
            have HM := Lib.hid M
            clear O M
            go_wp2_with fail
            go_ret2
            exact ⟨_, rfl, HO.out, HM.out⟩
      | true =>
        rw [hs] at rc1
        have HS := Lib.hid hs
        clear hs
        go_enter Try.func54, Try.ntmps54
        go_wp2_with (refine wpList_load_row rfl 26 (.tmp 1) rfl w.heap.size (by rfl) _ _ _ _ R0.out Try.underlying26 rfl Try.infoC ?_)
        refine (V0.out _ M0.out).mono ?_
        rw [HV.out]
        rintro e w1 ⟨rfl, M1⟩
        have HR1 := Lib.hid (M1.heap R0.out (by simp))
        have HM1 := Lib.hid (M0.out.trans M1)
        have hz1 : w.heap.size + 1 ≤ w1.heap.size := by have := M1.size; simp at this; omega
        have cf0 : w1.cell? ⟨w.heap.size, 0, none⟩ = some (.int .i64 f) := (cell_blk HR1.out 0).trans rc0
        have c1 : w1.cell? ⟨w.heap.size, 1, none⟩ = some (.bool true) := (cell_blk HR1.out 1).trans rc1
        have c0 : (w1.alloc (.cells #[.int .u8 (f+128)] 5)).cell? ⟨w.heap.size, 0, none⟩ = some (.int .i64 f) := (cell_blk (heap_alloc HR1.out) 0).trans rc0
        have c2 : (w1.alloc (.cells #[.int .u8 (f+128)] 5)).cell? ⟨w.heap.size, 2, none⟩ = some (.int .i64 C.m) := (cell_blk (heap_alloc HR1.out) 2).trans rfl
        have c6 : (w1.alloc (.cells #[.int .u8 (f+128)] 5)).cell? ⟨w.heap.size, 6, none⟩ = some C.pts := (cell_blk (heap_alloc HR1.out) 6).trans rfl
        clear M1
        rw [HPT.out] at c6
        go_wp2_with (first
          | (show wpList _ _ _ (⟨some 43, .fieldAddr 26 (.tmp 1) 6, _, _, _, _⟩ :: _) _ _
             have HR2 := Lib.hid (heap_alloc (o' := .cells #[.int .u8 (f+128)] 5) HR1.out)
             have HO2 : Hid (OwnB (w1.alloc (.cells #[.int .u8 (f+128)] 5)) (w.heap.size + 1) (.slice (some ⟨w1.heap.size, 0, none⟩) 1 1) [(f+128)]) := Lib.hid (OwnB.lit w1 hz1 [(f+128)] (by unfold maxLen; simp))
             have HM2 := Lib.hid (HM1.out.alloc (.cells #[.int .u8 (f+128)] 5))
             have hz2 : w.heap.size + 1 ≤ (w1.alloc (.cells #[.int .u8 (f+128)] 5)).heap.size := by simp; omega
             clear c0 c1 c2 cf0 c6 hz1 HR1 HM1
             generalize w1.alloc (.cells #[.int .u8 (f+128)] 5) = w2 at HR2 HO2 HM2 hz2 ⊢
             generalize w1.heap.size = g1 at HO2 ⊢
             generalize hgc : w.heap.size = gc at HR2 HO2 hz2 ⊢
             have HGC := Lib.hid hgc
             clear hgc
             have c6 : w2.cell? ⟨gc, 6, none⟩ = some (.slice ad P.length cap) := (cell_blk HR2.out 6).trans rc6)
          | (at_builtin; refine wpList_appB (by rfl) (.tmp 42) (.tmp 47) rfl (v := .slice (some ⟨g1, 0, none⟩) 1 1) (by rfl) (HO2.out.mods0 (Mods.refl.alloc _)) (by rfl) (OwnB.lit w2 (Nat.le_refl _) [(P.length : Int)] (by unfold maxLen; simp)).rd (by simp) (by simp; omega) ?_; intro v3 w3 O3 M3; have HM3 := Lib.hid ((HM2.out.alloc (.cells (u8s [(P.length : Int)]).toArray 5)).comp M3 (fun k hk => .inr (by have := HO2.out.back hk; have := HGC.out; omega))); have HR3 := Lib.hid (M3.heap (heap_alloc (o' := .cells (u8s [(P.length : Int)]).toArray 5) HR2.out) (fun hm => by have := HO2.out.back hm; omega)); have hz3 : gc + 1 ≤ w3.heap.size := Nat.le_trans hz2 (Nat.le_trans ((Mods.refl (S := []) (w := w2)).alloc (.cells (u8s [(P.length : Int)]).toArray 5)).size M3.size); have HO3 := Lib.hid O3; clear O3 M3))
        clear c6 hz2 HR2 HM2 HO2
        go_loopw [5, 6] (fun o i wr => ∃ k : Nat, k ≤ P.length ∧ i = .int .i64 k ∧ OwnB wr (gc + 1) o ([(f+128)] ++ [(P.length : Int)] ++ ptsL (P.take k)) ∧ Mods [] w wr ∧ gc + 1 ≤ wr.heap.size ∧ wr.heap[gc]? = some (.cells C.cells 26 (0, 0))) (fun _ i _ => P.length - (intOf i).toNat)
        case atStart => exact ⟨0, Nat.zero_le _, rfl, by simpa [ptsL] using HO3.out, HM3.out, hz3, HR3.out⟩
        case round =>
          obtain ⟨k, hk, rfl, O, M, hz, R⟩ := hrel
          clear HO3 HM3 hz3 HR3
          have c6 : wr.cell? ⟨gc, 6, none⟩ = some (.slice ad P.length cap) := (cell_blk R 6).trans rc6
          have i1 : (0 : Int) ≤ (k : Int) := by omega
          by_cases hlt : k < P.length
          · have HX := Lib.hid (fun W (M : Mods [] w W) => HC.out.rd.mods0 M)
            obtain ⟨_, _, he, _, _, hc⟩ := HX.out _ M
            obtain ⟨bb, off, rfl, x0, x1⟩ := hc k hlt
            rw [HPT.out] at he
            injection he with he1 he2 he3
            subst he1 he3
            clear hc he2
            have HX1 := Lib.hid (fun W (M : Mods [] w W) => show W.cell? ⟨bb, off + k * 2 + 1, none⟩ = some (.int .i64 (P.getD k default).val) from by
              obtain ⟨_, _, he, _, _, hc⟩ := HX.out _ M
              obtain ⟨bb', off', hq, _, y1⟩ := hc k hlt
              rw [HPT.out] at he
              injection he with he1 he2 he3
              rw [← he1] at hq
              cases hq
              exact y1)
            clear HX
            have hraw := HPK.out.raw k
            have HTK := Lib.hid (ptsL_take P k hlt)
            have hlen : (ptsL (P.take k)).length ≤ 84 := by rw [ptsL_length, List.length_take]; omega
            have i2 : (k : Int) < (P.length : Int) := by omega
            generalize (P.getD k default).raw = rr at x0 hraw HTK
            generalize (P.getD k default).val = vv at x1 HX1 HTK
            have HM := Lib.hid M
            have HO := Lib.hid O
            have HR := Lib.hid R
            clear M O R
            go_wp2_with (at_builtin; refine wpList_appB (by rfl) (.tmp 56) (.tmp 63) rfl (v := u5) (by rfl) (HO.out.mods0 (Mods.refl.alloc _)) (by rfl) (OwnB.lit wr (Nat.le_refl _) [(rr : Int)] (by unfold maxLen; simp)).rd (by simp only [List.length_append, List.length_cons, List.length_nil]; omega) (by simp; omega) ?_; intro v3 w3 O3 M3; have HM3 := Lib.hid ((HM.out.alloc (.cells (u8s [(rr : Int)]).toArray 5)).comp M3 (fun k hk => .inr (by have := HO.out.back hk; have := HGC.out; omega))); have HR3 := Lib.hid (M3.heap (heap_alloc (o' := .cells (u8s [(rr : Int)]).toArray 5) HR.out) (fun hm => by have := HO.out.back hm; omega)); have hz3 : gc + 1 ≤ w3.heap.size := Nat.le_trans hz (Nat.le_trans ((Mods.refl (S := []) (w := wr)).alloc (.cells (u8s [(rr : Int)]).toArray 5)).size M3.size); have HO3 := Lib.hid O3; have c63 : w3.cell? ⟨gc, 6, none⟩ = some (.slice (some ⟨bb, off, none⟩) P.length cap) := ((cell_blk HR3.out 6).trans rc6); have x13 := HX1.out w3 HM3.out; clear O3 M3)
            refine (refLittle_ok w3 vv 6 (by omega)).mono ?_
            rintro e w4 ⟨v4, rfl, O4, M4⟩
            have HX := Lib.hid (show OwnB _ _ _ _ from O4)
            have HO4 := Lib.hid (HO3.out.mods0 M4)
            have HM4 := Lib.hid (HM3.out.trans M4)
            have hz4 := Nat.le_trans hz3 M4.size
            have HR4 := Lib.hid (M4.heap HR3.out (by simp))
            clear O4 M4 HR3 HM3 HO3 hz3 c63 x13 c6 x0 x1 HX1 HR HM HO
            go_wp2_with (at_builtin; refine wpList_appB (by rfl) (.tmp 65) (.tmp 72) rfl (v := v3) (by rfl) HO4.out (by rfl) HX.out.rd (by simp only [List.length_append, List.length_cons, List.length_nil, leL_length]; omega) hz4 ?_; intro v5 w5 O5 M5; have HM5 := Lib.hid (HM4.out.comp M5 (fun k hk => .inr (by have := HO4.out.back hk; have := HGC.out; omega))); have HR5 := Lib.hid (M5.heap HR4.out (fun hm => by have := HO4.out.back hm; omega)); have hz5 : gc + 1 ≤ w5.heap.size := Nat.le_trans hz4 M5.size; have HO5 : Hid (OwnB w5 (gc + 1) v5 ([(f+128)] ++ [(P.length : Int)] ++ ptsL (P.take (k + 1)))) := Lib.hid (by rw [HTK.out]; simpa [List.append_assoc] using O5); clear O5 M5)
            exact ⟨⟨k + 1, by omega, by go_num, HO5.out, HM5.out, hz5, HR5.out⟩, by simp only [intOf]; omega⟩
          · have hk2 : k = P.length := by omega
            have HE : [(f+128)] ++ [(P.length : Int)] ++ ptsL (P.take k) = convL C P := by rw [convL, ← HF.out, if_pos HF5.out, HS.out, hk2, List.take_length]; simp
            rw [HE] at O
            have HO := Lib.hid (O.down (B' := w.heap.size) (by have := HGC.out; omega))
            have HM := Lib.hid M
            clear O M
            go_wp2_with fail
            go_ret2
            exact ⟨_, rfl, HO.out, HM.out⟩
    · have d5 : (f != 5) = true := by simpa using h5
      cases hs : C.sgn with
      | false =>
        rw [hs] at rc1
        have HS := Lib.hid hs
        clear hs
        go_enter Try.func54, Try.ntmps54
        go_wp2_with (refine wpList_load_row rfl 26 (.tmp 1) rfl w.heap.size (by rfl) _ _ _ _ R0.out Try.underlying26 rfl Try.infoC ?_)
        refine (V0.out _ M0.out).mono ?_
        rw [HV.out]
        rintro e w1 ⟨rfl, M1⟩
        have HR1 := Lib.hid (M1.heap R0.out (by simp))
        have HM1 := Lib.hid (M0.out.trans M1)
        have hz1 : w.heap.size + 1 ≤ w1.heap.size := by have := M1.size; simp at this; omega
        have cf0 : w1.cell? ⟨w.heap.size, 0, none⟩ = some (.int .i64 f) := (cell_blk HR1.out 0).trans rc0
        have c1 : w1.cell? ⟨w.heap.size, 1, none⟩ = some (.bool false) := (cell_blk HR1.out 1).trans rc1
        have c0 : (w1.alloc (.cells #[.int .u8 f] 5)).cell? ⟨w.heap.size, 0, none⟩ = some (.int .i64 f) := (cell_blk (heap_alloc HR1.out) 0).trans rc0
        have c2 : (w1.alloc (.cells #[.int .u8 f] 5)).cell? ⟨w.heap.size, 2, none⟩ = some (.int .i64 C.m) := (cell_blk (heap_alloc HR1.out) 2).trans rfl
        have c6 : (w1.alloc (.cells #[.int .u8 f] 5)).cell? ⟨w.heap.size, 6, none⟩ = some C.pts := (cell_blk (heap_alloc HR1.out) 6).trans rfl
        clear M1
        go_wp2_with fail
        have HR2 := Lib.hid (heap_alloc (o' := .cells #[.int .u8 f] 5) HR1.out)
        have HO2 : Hid (OwnB (w1.alloc (.cells #[.int .u8 f] 5)) (w.heap.size + 1) (.slice (some ⟨w1.heap.size, 0, none⟩) 1 1) [f]) := Lib.hid (OwnB.lit w1 hz1 [f] (by unfold maxLen; simp))
        have HM2 := Lib.hid (HM1.out.alloc (.cells #[.int .u8 f] 5))
        have hz2 : w.heap.size + 1 ≤ (w1.alloc (.cells #[.int .u8 f] 5)).heap.size := by simp; omega
        clear c0 c1 c2 cf0 c6 hz1 HR1 HM1
        generalize w1.alloc (.cells #[.int .u8 f] 5) = w2 at HR2 HO2 HM2 hz2 ⊢
        generalize w1.heap.size = g1 at HO2 ⊢
        generalize hgc : w.heap.size = gc at HR2 HO2 hz2 ⊢
        have HGC := Lib.hid hgc
        clear hgc
        refine (refLittle_ok w2 C.m 2 (by omega)).mono ?_
        rintro e w3 ⟨v3, rfl, OA, MA⟩
        have HX := Lib.hid (show OwnB _ _ _ _ from OA)
        have HOA := Lib.hid (HO2.out.mods0 MA)
        have HMA := Lib.hid (HM2.out.trans MA)
        have hzA := Nat.le_trans hz2 MA.size
        have HRA := Lib.hid (MA.heap HR2.out (by simp))
        clear OA MA
        go_wp2_with (at_builtin; refine wpList_appB (by rfl) (.tmp 22) (.tmp 25) rfl (v := (.slice (some ⟨g1, 0, none⟩) 1 1)) (by rfl) HOA.out (by rfl) HX.out.rd (by simp [leL_length] <;> omega) hzA ?_; intro v4 w4 OB MB; have HM4 := Lib.hid (HMA.out.comp MB (fun k hk => .inr (by have := HOA.out.back hk; have := HGC.out; omega))); have HO4 := Lib.hid OB; have HR4 := Lib.hid (MB.heap HRA.out (HOA.out.apart HRA.out (by decide))); have hz4 := Nat.le_trans hzA MB.size; have cB := (cell_blk HR4.out 3).trans (show _ = some (.int .i64 C.b) from rfl); clear OB MB)
        clear cB HX HOA HMA hzA HRA
        refine (refLittle_ok w4 C.b 2 (by omega)).mono ?_
        rintro e w5 ⟨v5, rfl, OA, MA⟩
        have HX := Lib.hid (show OwnB _ _ _ _ from OA)
        have HOA := Lib.hid (HO4.out.mods0 MA)
        have HMA := Lib.hid (HM4.out.trans MA)
        have hzA := Nat.le_trans hz4 MA.size
        have HRA := Lib.hid (MA.heap HR4.out (by simp))
        clear OA MA
        go_wp2_with (at_builtin; refine wpList_appB (by rfl) (.tmp 27) (.tmp 30) rfl (v := v4) (by rfl) HOA.out (by rfl) HX.out.rd (by simp [leL_length] <;> omega) hzA ?_; intro v6 w6 OB MB; have HM6 := Lib.hid (HMA.out.comp MB (fun k hk => .inr (by have := HOA.out.back hk; have := HGC.out; omega))); have HO6 := Lib.hid OB; have HR6 := Lib.hid (MB.heap HRA.out (HOA.out.apart HRA.out (by decide))); have hz6 := Nat.le_trans hzA MB.size; have cB := (cell_blk HR6.out 4).trans (show _ = some (.int .i64 C.k1) from rfl); clear OB MB)
        clear cB HX HOA HMA hzA HRA
        refine (refLittle_ok w6 C.k1 1 (by omega)).mono ?_
        rintro e w7 ⟨v7, rfl, OA, MA⟩
        have HX := Lib.hid (show OwnB _ _ _ _ from OA)
        have HOA := Lib.hid (HO6.out.mods0 MA)
        have HMA := Lib.hid (HM6.out.trans MA)
        have hzA := Nat.le_trans hz6 MA.size
        have HRA := Lib.hid (MA.heap HR6.out (by simp))
        clear OA MA
        go_wp2_with (at_builtin; refine wpList_appB (by rfl) (.tmp 32) (.tmp 35) rfl (v := v6) (by rfl) HOA.out (by rfl) HX.out.rd (by simp [leL_length] <;> omega) hzA ?_; intro v8 w8 OB MB; have HM8 := Lib.hid (HMA.out.comp MB (fun k hk => .inr (by have := HOA.out.back hk; have := HGC.out; omega))); have HO8 := Lib.hid OB; have HR8 := Lib.hid (MB.heap HRA.out (HOA.out.apart HRA.out (by decide))); have hz8 := Nat.le_trans hzA MB.size; have cB := (cell_blk HR8.out 5).trans (show _ = some (.int .i64 C.k2) from rfl); clear OB MB)
        clear cB HX HOA HMA hzA HRA
        refine (refLittle_ok w8 C.k2 1 (by omega)).mono ?_
        rintro e w9 ⟨v9, rfl, OA, MA⟩
        have HX := Lib.hid (show OwnB _ _ _ _ from OA)
        have HOA := Lib.hid (HO8.out.mods0 MA)
        have HMA := Lib.hid (HM8.out.trans MA)
        have hzA := Nat.le_trans hz8 MA.size
        have HRA := Lib.hid (MA.heap HR8.out (by simp))
        clear OA MA
        go_wp2_with (at_builtin; refine wpList_appB (by rfl) (.tmp 37) (.tmp 40) rfl (v := v8) (by rfl) HOA.out (by rfl) HX.out.rd (by simp [leL_length] <;> omega) hzA ?_; intro v10 w10 OB MB; have HM10 := Lib.hid (HMA.out.comp MB (fun k hk => .inr (by have := HOA.out.back hk; have := HGC.out; omega))); have HO10 := Lib.hid OB; have HR10 := Lib.hid (MB.heap HRA.out (HOA.out.apart HRA.out (by decide))); have hz10 := Nat.le_trans hzA MB.size; have cB := (cell_blk HR10.out 5).trans (show _ = some (.int .i64 C.k2) from rfl); clear OB MB)
        clear cB HX HOA HMA hzA HRA
        have HE : [f] ++ leL C.m 2 ++ leL C.b 2 ++ leL C.k1 1 ++ leL C.k2 1 = convL C P := by rw [convL, ← HF.out, if_neg h5, HS.out]; simp [leL]
        have hO := HO10.out
        rw [HE] at hO
        have HO := Lib.hid (hO.down (B' := w.heap.size) (by have := HGC.out; omega))
        clear hO
        go_ret2
        exact ⟨_, rfl, HO.out, HM10.out⟩
      | true =>
        rw [hs] at rc1
        have HS := Lib.hid hs
        clear hs
        go_enter Try.func54, Try.ntmps54
        go_wp2_with (refine wpList_load_row rfl 26 (.tmp 1) rfl w.heap.size (by rfl) _ _ _ _ R0.out Try.underlying26 rfl Try.infoC ?_)
        refine (V0.out _ M0.out).mono ?_
        rw [HV.out]
        rintro e w1 ⟨rfl, M1⟩
        have HR1 := Lib.hid (M1.heap R0.out (by simp))
        have HM1 := Lib.hid (M0.out.trans M1)
        have hz1 : w.heap.size + 1 ≤ w1.heap.size := by have := M1.size; simp at this; omega
        have cf0 : w1.cell? ⟨w.heap.size, 0, none⟩ = some (.int .i64 f) := (cell_blk HR1.out 0).trans rc0
        have c1 : w1.cell? ⟨w.heap.size, 1, none⟩ = some (.bool true) := (cell_blk HR1.out 1).trans rc1
        have c0 : (w1.alloc (.cells #[.int .u8 (f+128)] 5)).cell? ⟨w.heap.size, 0, none⟩ = some (.int .i64 f) := (cell_blk (heap_alloc HR1.out) 0).trans rc0
        have c2 : (w1.alloc (.cells #[.int .u8 (f+128)] 5)).cell? ⟨w.heap.size, 2, none⟩ = some (.int .i64 C.m) := (cell_blk (heap_alloc HR1.out) 2).trans rfl
        have c6 : (w1.alloc (.cells #[.int .u8 (f+128)] 5)).cell? ⟨w.heap.size, 6, none⟩ = some C.pts := (cell_blk (heap_alloc HR1.out) 6).trans rfl
        clear M1
        go_wp2_with fail
        have HR2 := Lib.hid (heap_alloc (o' := .cells #[.int .u8 (f+128)] 5) HR1.out)
        have HO2 : Hid (OwnB (w1.alloc (.cells #[.int .u8 (f+128)] 5)) (w.heap.size + 1) (.slice (some ⟨w1.heap.size, 0, none⟩) 1 1) [(f+128)]) := Lib.hid (OwnB.lit w1 hz1 [(f+128)] (by unfold maxLen; simp))
        have HM2 := Lib.hid (HM1.out.alloc (.cells #[.int .u8 (f+128)] 5))
        have hz2 : w.heap.size + 1 ≤ (w1.alloc (.cells #[.int .u8 (f+128)] 5)).heap.size := by simp; omega
        clear c0 c1 c2 cf0 c6 hz1 HR1 HM1
        generalize w1.alloc (.cells #[.int .u8 (f+128)] 5) = w2 at HR2 HO2 HM2 hz2 ⊢
        generalize w1.heap.size = g1 at HO2 ⊢
        generalize hgc : w.heap.size = gc at HR2 HO2 hz2 ⊢
        have HGC := Lib.hid hgc
        clear hgc
        refine (refLittle_ok w2 C.m 2 (by omega)).mono ?_
        rintro e w3 ⟨v3, rfl, OA, MA⟩
        have HX := Lib.hid (show OwnB _ _ _ _ from OA)
        have HOA := Lib.hid (HO2.out.mods0 MA)
        have HMA := Lib.hid (HM2.out.trans MA)
        have hzA := Nat.le_trans hz2 MA.size
        have HRA := Lib.hid (MA.heap HR2.out (by simp))
        clear OA MA
        go_wp2_with (at_builtin; refine wpList_appB (by rfl) (.tmp 22) (.tmp 25) rfl (v := (.slice (some ⟨g1, 0, none⟩) 1 1)) (by rfl) HOA.out (by rfl) HX.out.rd (by simp [leL_length] <;> omega) hzA ?_; intro v4 w4 OB MB; have HM4 := Lib.hid (HMA.out.comp MB (fun k hk => .inr (by have := HOA.out.back hk; have := HGC.out; omega))); have HO4 := Lib.hid OB; have HR4 := Lib.hid (MB.heap HRA.out (HOA.out.apart HRA.out (by decide))); have hz4 := Nat.le_trans hzA MB.size; have cB := (cell_blk HR4.out 3).trans (show _ = some (.int .i64 C.b) from rfl); clear OB MB)
        clear cB HX HOA HMA hzA HRA
        refine (refLittle_ok w4 C.b 2 (by omega)).mono ?_
        rintro e w5 ⟨v5, rfl, OA, MA⟩
        have HX := Lib.hid (show OwnB _ _ _ _ from OA)
        have HOA := Lib.hid (HO4.out.mods0 MA)
        have HMA := Lib.hid (HM4.out.trans MA)
        have hzA := Nat.le_trans hz4 MA.size
        have HRA := Lib.hid (MA.heap HR4.out (by simp))
        clear OA MA
        go_wp2_with (at_builtin; refine wpList_appB (by rfl) (.tmp 27) (.tmp 30) rfl (v := v4) (by rfl) HOA.out (by rfl) HX.out.rd (by simp [leL_length] <;> omega) hzA ?_; intro v6 w6 OB MB; have HM6 := Lib.hid (HMA.out.comp MB (fun k hk => .inr (by have := HOA.out.back hk; have := HGC.out; omega))); have HO6 := Lib.hid OB; have HR6 := Lib.hid (MB.heap HRA.out (HOA.out.apart HRA.out (by decide))); have hz6 := Nat.le_trans hzA MB.size; have cB := (cell_blk HR6.out 4).trans (show _ = some (.int .i64 C.k1) from rfl); clear OB MB)
        clear cB HX HOA HMA hzA HRA
        refine (refLittle_ok w6 C.k1 1 (by omega)).mono ?_
        rintro e w7 ⟨v7, rfl, OA, MA⟩
        have HX := Lib.hid (show OwnB _ _ _ _ from OA)
        have HOA := Lib.hid (HO6.out.mods0 MA)
        have HMA := Lib.hid (HM6.out.trans MA)
        have hzA := Nat.le_trans hz6 MA.size
        have HRA := Lib.hid (MA.heap HR6.out (by simp))
        clear OA MA
        go_wp2_with (at_builtin; refine wpList_appB (by rfl) (.tmp 32) (.tmp 35) rfl (v := v6) (by rfl) HOA.out (by rfl) HX.out.rd (by simp [leL_length] <;> omega) hzA ?_; intro v8 w8 OB MB; have HM8 := Lib.hid (HMA.out.comp MB (fun k hk => .inr (by have := HOA.out.back hk; have := HGC.out; omega))); have HO8 := Lib.hid OB; have HR8 := Lib.hid (MB.heap HRA.out (HOA.out.apart HRA.out (by decide))); have hz8 := Nat.le_trans hzA MB.size; have cB := (cell_blk HR8.out 5).trans (show _ = some (.int .i64 C.k2) from rfl); clear OB MB)
        clear cB HX HOA HMA hzA HRA
        refine (refLittle_ok w8 C.k2 1 (by omega)).mono ?_
        rintro e w9 ⟨v9, rfl, OA, MA⟩
        have HX := Lib.hid (show OwnB _ _ _ _ from OA)
        have HOA := Lib.hid (HO8.out.mods0 MA)
        have HMA := Lib.hid (HM8.out.trans MA)
        have hzA := Nat.le_trans hz8 MA.size
        have HRA := Lib.hid (MA.heap HR8.out (by simp))
        clear OA MA
        go_wp2_with (at_builtin; refine wpList_appB (by rfl) (.tmp 37) (.tmp 40) rfl (v := v8) (by rfl) HOA.out (by rfl) HX.out.rd (by simp [leL_length] <;> omega) hzA ?_; intro v10 w10 OB MB; have HM10 := Lib.hid (HMA.out.comp MB (fun k hk => .inr (by have := HOA.out.back hk; have := HGC.out; omega))); have HO10 := Lib.hid OB; have HR10 := Lib.hid (MB.heap HRA.out (HOA.out.apart HRA.out (by decide))); have hz10 := Nat.le_trans hzA MB.size; have cB := (cell_blk HR10.out 5).trans (show _ = some (.int .i64 C.k2) from rfl); clear OB MB)
        clear cB HX HOA HMA hzA HRA
        have HE : [(f+128)] ++ leL C.m 2 ++ leL C.b 2 ++ leL C.k1 1 ++ leL C.k2 1 = convL C P := by rw [convL, ← HF.out, if_neg h5, HS.out]; simp [leL]
        have hO := HO10.out
        rw [HE] at hO
        have HO := Lib.hid (hO.down (B' := w.heap.size) (by have := HGC.out; omega))
        clear hO
        go_ret2
        exact ⟨_, rfl, HO.out, HM10.out⟩
end Go.Proofs.Ytijjkonephjodaa

namespace Go.Proofs.Ytijjkonephjodaa
open Go.RowKit

theorem leL_two {n : Nat} (h : n < 65536) : leL (n : Int) 2 = twoL [n] := by
  simp [leL, twoL, List.range_succ]
  omega
theorem twoL_app (l l' : List Nat) : twoL l ++ twoL l' = twoL (l ++ l') := by simp [twoL]
theorem senL_bytes {w : World} {S : Sen} {P : List Pt} (hS : IsSen w S P) (hv : validB S P = true) : Bytes (senL S P) ∧ (senL S P).length ≤ 300 := by
  have hn : S.name.size ≤ 16 ∧ (S.samples = 1 ∨ S.samples = 3 ∨ S.samples = 5) ∧ (S.disc = false → convB S.conv P = true) := by
    unfold validB at hv
    simp only [Bool.and_eq_true, nameB, decide_eq_true_eq] at hv
    refine ⟨hv.1.1.1.2, hv.1.2, fun hd => ?_⟩
    have := hv.2
    rw [hd] at this
    simp only [Bool.false_eq_true, if_false, analogB, Bool.and_eq_true] at this
    exact this.1.1.1.1.1
  obtain ⟨hn16, hsm, hcv⟩ := hn
  have b0 := hS.number
  have b1 := hS.type
  have b2 := hS.unit
  have b4 := hS.eid
  have b5 := hS.einst
  have hst := hS.states
  have has := hS.asrt
  have hde := hS.deas
  have hmk := hS.mask
  have hhl := hS.hl
  have hhu := hS.hu
  have hrw := hS.raw
  have r0 := hrw 0
  have r1 := hrw 1
  have r2 := hrw 2
  have r3 := hrw 3
  have r4 := hrw 4
  have r5 := hrw 5
  simp only [Sen.raw, List.getD_cons_zero, List.getD_cons_succ] at r0 r1 r2 r3 r4 r5
  have hfl : 4 ≤ flagS S ∧ flagS S ≤ 23 := by unfold flagS; split <;> split <;> omega
  have hhead : ∀ x ∈ headL S (flagS S) ++ nameL S.name, 0 ≤ x ∧ x ≤ 255 := fun x hx => by
    rcases List.mem_append.1 hx with hx | hx
    · simp only [headL, List.mem_cons, List.mem_nil_iff, or_false] at hx
      rcases hx with rfl | rfl | rfl | rfl | rfl | rfl | rfl | rfl <;> constructor <;> omega
    · exact nameL_bytes _ x hx
  have hhl : (headL S (flagS S) ++ nameL S.name).length ≤ 24 := by rw [List.length_append, nameL_length]; simp [headL]; omega
  cases hd : S.disc with
  | true =>
    constructor
    · refine bytes_of fun x hx => ?_
      rw [senL, hd, if_pos rfl] at hx
      rcases List.mem_append.1 hx with hx | hx
      · exact hhead x hx
      · exact twoL_bytes _ (fun n hn => by simp at hn; rcases hn with rfl | rfl | rfl <;> assumption) x hx
    · rw [senL, hd, if_pos rfl, List.length_append, twoL_length]; simp only [List.length_cons, List.length_nil]; omega
  | false =>
    have hc := hcv hd
    have hcl := convL_length_le hc
    constructor
    · refine bytes_of fun x hx => ?_
      rw [senL, hd, if_neg (by simp)] at hx
      rcases List.mem_append.1 hx with hx | hx
      · exact hhead x hx
      · simp only [List.mem_append, rawsL, List.mem_cons, List.mem_nil_iff, or_false] at hx
        rcases hx with (((hx | hx) | hx) | hx) | hx
        · exact convL_bytes hc hS.conv.pok x hx
        · subst hx; constructor <;> omega
        · rcases hx with rfl | rfl | rfl | rfl | rfl | rfl <;> constructor <;> omega
        · rcases hx with rfl | rfl <;> constructor <;> omega
        · exact twoL_bytes _ (fun n hn => by simp at hn; rcases hn with rfl | rfl <;> assumption) x hx
    · rw [senL, hd, if_neg (by simp)]
      simp only [List.length_append, twoL_length, rawsL, List.length_cons, List.length_nil]
      rw [List.length_append] at hhl
      omega
set_option maxRecDepth 100000 in
set_option maxHeartbeats 4000000 in
theorem refEncS_ok (w : World) (S : Sen) (P : List Pt) (hS : IsSen w S P) :
    Calls Try.prog 17 #[.agg S.cells] w fun e w' => EncRes w (validB S P) (seal8 (senL S P)) e w' := by
  have HS := Lib.hid hS
  have BB := Lib.hid (SenBox.new w S)
  have M0 := Lib.hid ((Mods.refl (S := []) (w := w)).alloc (.cells S.cells 32))
  cases hv : validB S P with
  | false =>
    have HV := Lib.hid hv
    clear hv hS
    go_enter Try.func17, Try.ntmps17
    go_wp2_with (refine wpList_load_sen rfl (.tmp 1) rfl BB.out (by rfl) ?_)
    refine (refValid_ok _ S P (HS.out.mods0 M0.out)).mono ?_
    rw [HV.out]
    rintro e w2 ⟨rfl, M2⟩
    go_wp2
    go_ret2
    exact ⟨rfl, M0.out.trans M2⟩
  | true =>
    have hp : (S.samples = 1 ∨ S.samples = 3 ∨ S.samples = 5) ∧ S.name.size ≤ 16 := by
      have h := hv
      unfold validB at h
      simp only [Bool.and_eq_true, nameB, decide_eq_true_eq] at h
      exact ⟨h.1.2, h.1.1.1.2⟩
    obtain ⟨hsm, hn16⟩ := hp
    have HV := Lib.hid hv
    have HVV := Lib.hid hv
    have HSB := Lib.hid (senL_bytes hS hv)
    have b0 := hS.number
    have b1 := hS.type
    have b2 := hS.unit
    have b4 := hS.eid
    have b5 := hS.einst
    have b23 := hS.states
    have b24 := hS.asrt
    have b25 := hS.deas
    have hsb : 1 ≤ S.samples ∧ S.samples ≤ 5 := by omega
    obtain ⟨hs1, hs5⟩ := hsb
    have hnm : S.name.size ≤ 9223372036854775807 := by omega
    clear hS hv hsm
    obtain ⟨i0, hi, hz0, hz1, hz2⟩ := info_parts Try.infoB
    go_enter Try.func17, Try.ntmps17
    go_wp2_with (refine wpList_load_sen rfl (.tmp 1) rfl BB.out (by rfl) ?_)
    refine (refValid_ok _ S P (HS.out.mods0 M0.out)).mono ?_
    rw [HV.out]
    rintro e w2 ⟨rfl, M2⟩
    have B2 := BB.out.mods0 M2
    have HM := Lib.hid (M0.out.trans M2)
    have c27 := B2.rest.2.2.2.2.2.2
    have c26 := B2.rest.2.2.2.2.2.1
    obtain ⟨c0, c1, c2, c3, c4, c5, c6⟩ := B2.head
    have HH := Lib.hid (B2.blk)
    have hzz : w.heap.size + 1 ≤ w2.heap.size := by have := (M0.out.trans M2).size; have := lt_of_block B2.blk; omega
    clear B2 BB M0 M2 HV
    generalize hg : w.heap.size = g at c27 c6 c26 c0 c1 c2 c3 c4 c5 HH hzz ⊢
    have HG := Lib.hid hg
    clear hg
    have HCV : Hid (S.disc = false → convB S.conv P = true ∧ (convL S.conv P).length ≤ 100) := Lib.hid fun hd => by
      have hv := HVV.out
      unfold validB at hv
      rw [hd] at hv
      simp only [Bool.and_eq_true, nameB, decide_eq_true_eq, Bool.false_eq_true, if_false, analogB] at hv
      exact ⟨hv.2.1.1.1.1.1, convL_length_le hv.2.1.1.1.1.1⟩
    cases hd : S.disc with
    | true =>
      rw [hd] at c6
      cases hh : S.host with
      | false =>
        rw [hh] at c26
        have HF := Lib.hid (show flagS S = (4*S.samples+1) by unfold flagS; rw [hh, hd]; simp)
        have HD := Lib.hid hd
        clear hh hd
        have MA := (Mods.refl (S := []) (w := w2)).alloc (.cells #[.int .u8 1, .int .u8 (S.number : Int), .int .u8 (S.type : Int), .int .u8 (S.unit : Int), .int .u8 (S.eid : Int), .int .u8 (S.einst : Int), .int .u8 ((4*S.samples+1)), .int .u8 (S.name.size : Int)] 5)
        have ca3 := MA.cell c3 (by simp)
        go_wp2_with (first | (at_builtin; refine Lib.wpList_append_own_string _ rfl (.tmp 42) (.tmp 44) 33 9 rfl (g + 1) 5 i0 Try.underlying33 Try.underlying9 hi hz0 hz1 hz2 _ 8 (u8s (headL S ((4*S.samples+1)))) (by rfl) (World.ownsRow_lit w2 #[.int .u8 1, .int .u8 S.number, .int .u8 S.type, .int .u8 S.unit, .int .u8 S.eid, .int .u8 S.einst, .int .u8 ((4*S.samples+1)), .int .u8 S.name.size] 8 hzz (by decide) rfl) S.name (by rfl) (by unfold maxLen; omega) (by omega) (by simp; omega) ?_; intro v3 w3 O3 G3 _; have HM3 := Lib.hid ((HM.out.trans MA).grown G3 (fun q hq => .inr (by simp [Value.ownBlock] at hq; have := HG.out; omega))); have HH3 : Hid (w3.heap[g]? = some (.cells S.cells 32 (0, 0))) := Lib.hid ((Mods.of_grown G3).heap (MA.heap HH.out (by simp)) (by simp [Value.ownBlock]; omega)); have q6 : w3.cell? ⟨g, 6, none⟩ = some (.bool true) := (by rw [cell_blk HH3.out]; rw [cell_blk HH.out] at c6; exact c6); have q23 : w3.cell? ⟨g, 23, none⟩ = some (.int .u16 S.states) := ((cell_blk HH3.out 23).trans rfl); have hz3 : g + 1 ≤ w3.heap.size := (by have := G3.size; simp at this; omega); have HO3 : Hid (OwnB w3 (g + 1) v3 (headL S ((4*S.samples+1)) ++ nameL S.name)) := Lib.hid (by unfold OwnB; rw [u8s_length, List.length_append, nameL_length]; have e : u8s (headL S ((4*S.samples+1)) ++ nameL S.name) = u8s (headL S ((4*S.samples+1))) ++ Lib.strCells S.name := (by rw [nameL_cells]; simp [u8s]); rw [e]; exact O3); clear G3 O3 MA ca3) | (refine wpList_load_mid rfl 26 (.tmp 55) rfl g 7 (by rfl) S.conv.cells.toList _ (Sen.conv_range HH3.out) Try.underlying26 rfl Try.infoC ?_; rw [Array.toArray_toList]))
        clear q6 c27 c6 c26 c0 c1 c2 c3 c4 c5 HH HM
        have hlen3 : (headL S ((4*S.samples+1)) ++ nameL S.name).length ≤ 24 := by rw [List.length_append, nameL_length]; simp [headL]; omega
        generalize hhd : headL S ((4*S.samples+1)) ++ nameL S.name = A3 at HO3 hlen3
        have HHD := Lib.hid hhd
        clear hhd
        refine (little_ok w3 (S.states : Int) 2 (by omega) (by omega)).mono ?_
        rw [leL_two b23]
        rintro e w4 ⟨v4, rfl, O4, M4⟩
        have HX := Lib.hid (show OwnB _ _ _ _ from O4)
        have HO4 := Lib.hid (HO3.out.mods0 M4)
        have HM4 := Lib.hid (HM3.out.trans M4)
        have hz4 := Nat.le_trans hz3 M4.size
        have HR4 := Lib.hid (M4.heap HH3.out (by simp))
        clear O4 M4 HO3 HM3 hz3 HH3
        go_wp2_with (at_builtin; refine wpList_appB (by rfl) (.tmp 48) (.tmp 52) rfl (v := v3) (by rfl) HO4.out (by rfl) HX.out.rd (by (rw [twoL_length]; simp; omega)) hz4 ?_; intro v5 w5 O5 M5; have HM5 := Lib.hid (HM4.out.comp M5 (fun k hk => .inr (by have := HO4.out.back hk; have := HG.out; omega))); have HR5 := Lib.hid (M5.heap HR4.out (fun hm => by have := HO4.out.back hm; omega)); have hz5 : g + 1 ≤ w5.heap.size := Nat.le_trans hz4 M5.size; have HO5 := Lib.hid O5; have c24 : w5.cell? ⟨g, 24, none⟩ = some (.int .u16 S.asrt) := ((cell_blk HR5.out 24).trans rfl); clear O5 M5)
        clear HX HO4 HM4 HR4 hz4 q23
        have hlen5 : (A3 ++ twoL [S.states]).length ≤ 300 := by rw [List.length_append, twoL_length]; simp; omega
        generalize hA5 : A3 ++ twoL [S.states] = A5 at HO5 hlen5
        have HA5 := Lib.hid (show headL S (flagS S) ++ nameL S.name ++ twoL [S.states] = A5 by rw [HF.out, HHD.out, hA5])
        clear hA5
        refine (little_ok w5 (S.asrt : Int) 2 (by omega) (by omega)).mono ?_
        rw [leL_two b24]
        rintro e w6 ⟨v6, rfl, O6, M6⟩
        have HX := Lib.hid (show OwnB _ _ _ _ from O6)
        have HO6 := Lib.hid (HO5.out.mods0 M6)
        have HM6 := Lib.hid (HM5.out.trans M6)
        have hz6 := Nat.le_trans hz5 M6.size
        have HR6 := Lib.hid (M6.heap HR5.out (by simp))
        clear O6 M6 HO5 HM5 hz5 HR5
        go_wp2_with (at_builtin; refine wpList_appB (by rfl) (.tmp 88) (.tmp 92) rfl (v := v5) (by rfl) HO6.out (by rfl) HX.out.rd (by (rw [twoL_length]; simp; omega)) hz6 ?_; intro v7 w7 O7 M7; have HM7 := Lib.hid (HM6.out.comp M7 (fun k hk => .inr (by have := HO6.out.back hk; have := HG.out; omega))); have HR7 := Lib.hid (M7.heap HR6.out (fun hm => by have := HO6.out.back hm; omega)); have hz7 : g + 1 ≤ w7.heap.size := Nat.le_trans hz6 M7.size; have HO7 := Lib.hid O7; have c25 : w7.cell? ⟨g, 25, none⟩ = some (.int .u16 S.deas) := ((cell_blk HR7.out 25).trans rfl); clear O7 M7)
        clear HX HO6 HM6 HR6 hz6 c24
        refine (little_ok w7 (S.deas : Int) 2 (by omega) (by omega)).mono ?_
        rw [leL_two b25]
        rintro e w8 ⟨v8, rfl, O8, M8⟩
        have HX := Lib.hid (show OwnB _ _ _ _ from O8)
        have HO8 := Lib.hid (HO7.out.mods0 M8)
        have HM8 := Lib.hid (HM7.out.trans M8)
        have hz8 := Nat.le_trans hz7 M8.size
        have HR8 := Lib.hid (M8.heap HR7.out (by simp))
        clear O8 M8 HO7 HM7 hz7 HR7
        go_wp2_with (at_builtin; refine wpList_appB (by rfl) (.tmp 94) (.tmp 98) rfl (v := v7) (by rfl) HO8.out (by rfl) HX.out.rd (by (rw [List.length_append, twoL_length, twoL_length]; simp; omega)) hz8 ?_; intro v9 w9 O9 M9; have HM9 := Lib.hid (HM8.out.comp M9 (fun k hk => .inr (by have := HO8.out.back hk; have := HG.out; omega))); have HR9 := Lib.hid (M9.heap HR8.out (fun hm => by have := HO8.out.back hm; omega)); have hz9 : g + 1 ≤ w9.heap.size := Nat.le_trans hz8 M9.size; have HO9 := Lib.hid O9; skip; clear O9 M9)
        clear HX HO8 HM8 HR8 hz8 c25
        have hO := HO9.out
        rw [(show A5 ++ twoL [S.asrt] ++ twoL [S.deas] = senL S P by rw [senL, HD.out, if_pos rfl, ← HA5.out]; simp [twoL])] at hO
        refine (refSeal8_ok w9 v9 (senL S P) hO.rd HSB.out.1 (by have := HSB.out.2; omega)).mono ?_
        rintro e w10 ⟨v10, rfl, O10, M10⟩
        have HM10 := Lib.hid (HM9.out.trans M10)
        have HO10 := Lib.hid (owns_down O10 HM9.out.size)
        clear O10 M10 hO HO9 HM9
        go_wp2
        go_ret2
        exact ⟨_, rfl, HO10.out, HM10.out⟩
      | true =>
        rw [hh] at c26
        have HF := Lib.hid (show flagS S = (4*S.samples+1+2) by unfold flagS; rw [hh, hd]; simp)
        have HD := Lib.hid hd
        clear hh hd
        have MA := (Mods.refl (S := []) (w := w2)).alloc (.cells #[.int .u8 1, .int .u8 (S.number : Int), .int .u8 (S.type : Int), .int .u8 (S.unit : Int), .int .u8 (S.eid : Int), .int .u8 (S.einst : Int), .int .u8 ((4*S.samples+1+2)), .int .u8 (S.name.size : Int)] 5)
        have ca3 := MA.cell c3 (by simp)
        go_wp2_with (first | (at_builtin; refine Lib.wpList_append_own_string _ rfl (.tmp 42) (.tmp 44) 33 9 rfl (g + 1) 5 i0 Try.underlying33 Try.underlying9 hi hz0 hz1 hz2 _ 8 (u8s (headL S ((4*S.samples+1+2)))) (by rfl) (World.ownsRow_lit w2 #[.int .u8 1, .int .u8 S.number, .int .u8 S.type, .int .u8 S.unit, .int .u8 S.eid, .int .u8 S.einst, .int .u8 ((4*S.samples+1+2)), .int .u8 S.name.size] 8 hzz (by decide) rfl) S.name (by rfl) (by unfold maxLen; omega) (by omega) (by simp; omega) ?_; intro v3 w3 O3 G3 _; have HM3 := Lib.hid ((HM.out.trans MA).grown G3 (fun q hq => .inr (by simp [Value.ownBlock] at hq; have := HG.out; omega))); have HH3 : Hid (w3.heap[g]? = some (.cells S.cells 32 (0, 0))) := Lib.hid ((Mods.of_grown G3).heap (MA.heap HH.out (by simp)) (by simp [Value.ownBlock]; omega)); have q6 : w3.cell? ⟨g, 6, none⟩ = some (.bool true) := (by rw [cell_blk HH3.out]; rw [cell_blk HH.out] at c6; exact c6); have q23 : w3.cell? ⟨g, 23, none⟩ = some (.int .u16 S.states) := ((cell_blk HH3.out 23).trans rfl); have hz3 : g + 1 ≤ w3.heap.size := (by have := G3.size; simp at this; omega); have HO3 : Hid (OwnB w3 (g + 1) v3 (headL S ((4*S.samples+1+2)) ++ nameL S.name)) := Lib.hid (by unfold OwnB; rw [u8s_length, List.length_append, nameL_length]; have e : u8s (headL S ((4*S.samples+1+2)) ++ nameL S.name) = u8s (headL S ((4*S.samples+1+2))) ++ Lib.strCells S.name := (by rw [nameL_cells]; simp [u8s]); rw [e]; exact O3); clear G3 O3 MA ca3) | (refine wpList_load_mid rfl 26 (.tmp 55) rfl g 7 (by rfl) S.conv.cells.toList _ (Sen.conv_range HH3.out) Try.underlying26 rfl Try.infoC ?_; rw [Array.toArray_toList]))
        clear q6 c27 c6 c26 c0 c1 c2 c3 c4 c5 HH HM
        have hlen3 : (headL S ((4*S.samples+1+2)) ++ nameL S.name).length ≤ 24 := by rw [List.length_append, nameL_length]; simp [headL]; omega
        generalize hhd : headL S ((4*S.samples+1+2)) ++ nameL S.name = A3 at HO3 hlen3
        have HHD := Lib.hid hhd
        clear hhd
        refine (little_ok w3 (S.states : Int) 2 (by omega) (by omega)).mono ?_
        rw [leL_two b23]
        rintro e w4 ⟨v4, rfl, O4, M4⟩
        have HX := Lib.hid (show OwnB _ _ _ _ from O4)
        have HO4 := Lib.hid (HO3.out.mods0 M4)
        have HM4 := Lib.hid (HM3.out.trans M4)
        have hz4 := Nat.le_trans hz3 M4.size
        have HR4 := Lib.hid (M4.heap HH3.out (by simp))
        clear O4 M4 HO3 HM3 hz3 HH3
        go_wp2_with (at_builtin; refine wpList_appB (by rfl) (.tmp 48) (.tmp 52) rfl (v := v3) (by rfl) HO4.out (by rfl) HX.out.rd (by (rw [twoL_length]; simp; omega)) hz4 ?_; intro v5 w5 O5 M5; have HM5 := Lib.hid (HM4.out.comp M5 (fun k hk => .inr (by have := HO4.out.back hk; have := HG.out; omega))); have HR5 := Lib.hid (M5.heap HR4.out (fun hm => by have := HO4.out.back hm; omega)); have hz5 : g + 1 ≤ w5.heap.size := Nat.le_trans hz4 M5.size; have HO5 := Lib.hid O5; have c24 : w5.cell? ⟨g, 24, none⟩ = some (.int .u16 S.asrt) := ((cell_blk HR5.out 24).trans rfl); clear O5 M5)
        clear HX HO4 HM4 HR4 hz4 q23
        have hlen5 : (A3 ++ twoL [S.states]).length ≤ 300 := by rw [List.length_append, twoL_length]; simp; omega
        generalize hA5 : A3 ++ twoL [S.states] = A5 at HO5 hlen5
        have HA5 := Lib.hid (show headL S (flagS S) ++ nameL S.name ++ twoL [S.states] = A5 by rw [HF.out, HHD.out, hA5])
        clear hA5
        refine (little_ok w5 (S.asrt : Int) 2 (by omega) (by omega)).mono ?_
        rw [leL_two b24]
        rintro e w6 ⟨v6, rfl, O6, M6⟩
        have HX := Lib.hid (show OwnB _ _ _ _ from O6)
        have HO6 := Lib.hid (HO5.out.mods0 M6)
        have HM6 := Lib.hid (HM5.out.trans M6)
        have hz6 := Nat.le_trans hz5 M6.size
        have HR6 := Lib.hid (M6.heap HR5.out (by simp))
        clear O6 M6 HO5 HM5 hz5 HR5
        go_wp2_with (at_builtin; refine wpList_appB (by rfl) (.tmp 88) (.tmp 92) rfl (v := v5) (by rfl) HO6.out (by rfl) HX.out.rd (by (rw [twoL_length]; simp; omega)) hz6 ?_; intro v7 w7 O7 M7; have HM7 := Lib.hid (HM6.out.comp M7 (fun k hk => .inr (by have := HO6.out.back hk; have := HG.out; omega))); have HR7 := Lib.hid (M7.heap HR6.out (fun hm => by have := HO6.out.back hm; omega)); have hz7 : g + 1 ≤ w7.heap.size := Nat.le_trans hz6 M7.size; have HO7 := Lib.hid O7; have c25 : w7.cell? ⟨g, 25, none⟩ = some (.int .u16 S.deas) := ((cell_blk HR7.out 25).trans rfl); clear O7 M7)
        clear HX HO6 HM6 HR6 hz6 c24
        refine (little_ok w7 (S.deas : Int) 2 (by omega) (by omega)).mono ?_
        rw [leL_two b25]
        rintro e w8 ⟨v8, rfl, O8, M8⟩
        have HX := Lib.hid (show OwnB _ _ _ _ from O8)
        have HO8 := Lib.hid (HO7.out.mods0 M8)
        have HM8 := Lib.hid (HM7.out.trans M8)
        have hz8 := Nat.le_trans hz7 M8.size
        have HR8 := Lib.hid (M8.heap HR7.out (by simp))
        clear O8 M8 HO7 HM7 hz7 HR7
        go_wp2_with (at_builtin; refine wpList_appB (by rfl) (.tmp 94) (.tmp 98) rfl (v := v7) (by rfl) HO8.out (by rfl) HX.out.rd (by (rw [List.length_append, twoL_length, twoL_length]; simp; omega)) hz8 ?_; intro v9 w9 O9 M9; have HM9 := Lib.hid (HM8.out.comp M9 (fun k hk => .inr (by have := HO8.out.back hk; have := HG.out; omega))); have HR9 := Lib.hid (M9.heap HR8.out (fun hm => by have := HO8.out.back hm; omega)); have hz9 : g + 1 ≤ w9.heap.size := Nat.le_trans hz8 M9.size; have HO9 := Lib.hid O9; skip; clear O9 M9)
        clear HX HO8 HM8 HR8 hz8 c25
        have hO := HO9.out
        rw [(show A5 ++ twoL [S.asrt] ++ twoL [S.deas] = senL S P by rw [senL, HD.out, if_pos rfl, ← HA5.out]; simp [twoL])] at hO
        refine (refSeal8_ok w9 v9 (senL S P) hO.rd HSB.out.1 (by have := HSB.out.2; omega)).mono ?_
        rintro e w10 ⟨v10, rfl, O10, M10⟩
        have HM10 := Lib.hid (HM9.out.trans M10)
        have HO10 := Lib.hid (owns_down O10 HM9.out.size)
        clear O10 M10 hO HO9 HM9
        go_wp2
        go_ret2
        exact ⟨_, rfl, HO10.out, HM10.out⟩
    | false =>
      rw [hd] at c6
      have HCV := Lib.hid (HCV.out hd)
      cases hh : S.host with
      | false =>
        rw [hh] at c26
        have HF := Lib.hid (show flagS S = (4*S.samples) by unfold flagS; rw [hh, hd]; simp)
        have HD := Lib.hid hd
        clear hh hd
        have MA := (Mods.refl (S := []) (w := w2)).alloc (.cells #[.int .u8 1, .int .u8 (S.number : Int), .int .u8 (S.type : Int), .int .u8 (S.unit : Int), .int .u8 (S.eid : Int), .int .u8 (S.einst : Int), .int .u8 ((4*S.samples)), .int .u8 (S.name.size : Int)] 5)
        have ca3 := MA.cell c3 (by simp)
        go_wp2_with (first | (at_builtin; refine Lib.wpList_append_own_string _ rfl (.tmp 42) (.tmp 44) 33 9 rfl (g + 1) 5 i0 Try.underlying33 Try.underlying9 hi hz0 hz1 hz2 _ 8 (u8s (headL S ((4*S.samples)))) (by rfl) (World.ownsRow_lit w2 #[.int .u8 1, .int .u8 S.number, .int .u8 S.type, .int .u8 S.unit, .int .u8 S.eid, .int .u8 S.einst, .int .u8 ((4*S.samples)), .int .u8 S.name.size] 8 hzz (by decide) rfl) S.name (by rfl) (by unfold maxLen; omega) (by omega) (by simp; omega) ?_; intro v3 w3 O3 G3 _; have HM3 := Lib.hid ((HM.out.trans MA).grown G3 (fun q hq => .inr (by simp [Value.ownBlock] at hq; have := HG.out; omega))); have HH3 : Hid (w3.heap[g]? = some (.cells S.cells 32 (0, 0))) := Lib.hid ((Mods.of_grown G3).heap (MA.heap HH.out (by simp)) (by simp [Value.ownBlock]; omega)); have q6 : w3.cell? ⟨g, 6, none⟩ = some (.bool false) := (by rw [cell_blk HH3.out]; rw [cell_blk HH.out] at c6; exact c6); have q23 : w3.cell? ⟨g, 23, none⟩ = some (.int .u16 S.states) := ((cell_blk HH3.out 23).trans rfl); have hz3 : g + 1 ≤ w3.heap.size := (by have := G3.size; simp at this; omega); have HO3 : Hid (OwnB w3 (g + 1) v3 (headL S ((4*S.samples)) ++ nameL S.name)) := Lib.hid (by unfold OwnB; rw [u8s_length, List.length_append, nameL_length]; have e : u8s (headL S ((4*S.samples)) ++ nameL S.name) = u8s (headL S ((4*S.samples))) ++ Lib.strCells S.name := (by rw [nameL_cells]; simp [u8s]); rw [e]; exact O3); clear G3 O3 MA ca3) | (refine wpList_load_mid rfl 26 (.tmp 55) rfl g 7 (by rfl) S.conv.cells.toList _ (Sen.conv_range HH3.out) Try.underlying26 rfl Try.infoC ?_; rw [Array.toArray_toList]))
        clear q6 c27 c6 c26 c0 c1 c2 c3 c4 c5 HH HM
        have hlen3 : (headL S ((4*S.samples)) ++ nameL S.name).length ≤ 24 := by rw [List.length_append, nameL_length]; simp [headL]; omega
        generalize hhd : headL S ((4*S.samples)) ++ nameL S.name = A3 at HO3 hlen3
        have HHD := Lib.hid hhd
        clear hhd
        refine (refEnc_ok w3 S.conv P (HS.out.conv.mods0 HM3.out)).mono ?_
        rw [HCV.out.1]
        intro e w4 hE
        obtain ⟨v4, rfl, O4, M4⟩ : EncOut _ _ _ _ := hE
        have HX := Lib.hid (show OwnB _ _ _ _ from O4)
        have HO4 := Lib.hid (HO3.out.mods0 M4)
        have HM4 := Lib.hid (HM3.out.trans M4)
        have hz4 := Nat.le_trans hz3 M4.size
        have HR4 := Lib.hid (M4.heap HH3.out (by simp))
        have hlc := HCV.out.2
        clear O4 M4 HO3 HM3 hz3 HH3 q23
        go_wp2_with (first
          | (at_builtin; refine wpList_appB (by rfl) (.tmp 60) (.tmp 61) rfl (v := v3) (by rfl) HO4.out (by rfl) HX.out.rd (by omega) hz4 ?_; intro v5 w5 O5 M5; have HM5 := Lib.hid (HM4.out.comp M5 (fun k hk => .inr (by have := HO4.out.back hk; have := HG.out; omega))); have HR5 := Lib.hid (M5.heap HR4.out (fun hm => by have := HO4.out.back hm; omega)); have hz5 : g + 1 ≤ w5.heap.size := Nat.le_trans hz4 M5.size; have HO5 := Lib.hid O5; have c14 : w5.cell? ⟨g, 14, none⟩ = some (.int .u8 S.mask) := ((cell_blk HR5.out 14).trans rfl); have hlen5 : (A3 ++ convL S.conv P).length ≤ 150 := (by rw [List.length_append]; omega); clear O5 M5)
          | (at_builtin; refine wpList_appB (by rfl) (.tmp 63) (.tmp 67) rfl (v := v5) (by rfl) (HO5.out.mods0 (Mods.refl.alloc _)) (by rfl) (OwnB.lit w5 (Nat.le_refl _) [(S.mask : Int)] (by unfold maxLen; simp)).rd (by (simp only [List.length_cons, List.length_nil]; omega)) (by simp; omega) ?_; intro v6 w6 O6 M6; have HM6 := Lib.hid ((HM5.out.alloc (.cells (u8s [(S.mask : Int)]).toArray 5)).comp M6 (fun k hk => .inr (by have := HO5.out.back hk; have := HG.out; omega))); have HR6 := Lib.hid (M6.heap (heap_alloc (o' := .cells (u8s [(S.mask : Int)]).toArray 5) HR5.out) (fun hm => by have := HO5.out.back hm; omega)); have hz6 : g + 1 ≤ w6.heap.size := Nat.le_trans hz5 (Nat.le_trans ((Mods.refl (S := []) (w := w5)).alloc (.cells (u8s [(S.mask : Int)]).toArray 5)).size M6.size); have HO6 := Lib.hid O6; skip; clear O6 M6)
          | fail)
        clear HX HO4 HM4 HR4 hz4 c14 HO5 HM5 HR5 hz5
        have hlen6 : (A3 ++ convL S.conv P ++ [(S.mask : Int)]).length ≤ 160 := by rw [List.length_append]; simp only [List.length_cons, List.length_nil]; omega
        generalize hA6 : A3 ++ convL S.conv P ++ [(S.mask : Int)] = A6 at HO6 hlen6
        have HA6 := Lib.hid hA6
        clear hA6 hlen5
        go_loopw [5, 8] (fun o i wr => ∃ k : Nat, k ≤ 6 ∧ i = .int .i64 k ∧ OwnB wr (g + 1) o (A6 ++ (rawsL S).take k) ∧ Mods [] w wr ∧ g + 1 ≤ wr.heap.size ∧ wr.heap[g]? = some (.cells S.cells 32 (0, 0))) (fun _ i _ => 6 - (intOf i).toNat)
        case atStart => exact ⟨0, Nat.zero_le _, rfl, by simpa using HO6.out, HM6.out, hz6, HR6.out⟩
        case round =>
          obtain ⟨k, hk, rfl, O, M, hzr, R⟩ := hrel
          clear HO6 HM6 hz6 HR6
          by_cases hlt : k < 6
          · have craw : wr.cell? ⟨g, 15 + k, none⟩ = some (.int .u8 (S.raw k)) := SenBox.craw ⟨R⟩ hlt
            have i1 : (0 : Int) ≤ (k : Int) := by omega
            have i2 : (k : Int) < 6 := by omega
            have HTK : Hid ((rawsL S).take (k + 1) = (rawsL S).take k ++ [(S.raw k : Int)]) := Lib.hid (by
              match k, hlt with
              | 0, _ | 1, _ | 2, _ | 3, _ | 4, _ | 5, _ => rfl)
            have hlk : (A6 ++ (rawsL S).take k).length ≤ 170 := by rw [List.length_append, List.length_take]; omega
            have HO := Lib.hid O
            have HMr := Lib.hid M
            have HR := Lib.hid R
            generalize S.raw k = rr at craw HTK
            clear O M R
            go_wp2_with (first
              | (at_builtin; refine wpList_appB (by rfl) (.tmp 73) (.tmp 79) rfl (v := u5) (by rfl) (HO.out.mods0 (Mods.refl.alloc _)) (by rfl) (OwnB.lit wr (Nat.le_refl _) [(rr : Int)] (by unfold maxLen; simp)).rd (by (simp only [List.length_cons, List.length_nil]; omega)) (by simp; omega) ?_; intro v7 w7 O7 M7; have HM7 := Lib.hid ((HMr.out.alloc (.cells (u8s [(rr : Int)]).toArray 5)).comp M7 (fun k hk => .inr (by have := HO.out.back hk; have := HG.out; omega))); have HR7 := Lib.hid (M7.heap (heap_alloc (o' := .cells (u8s [(rr : Int)]).toArray 5) HR.out) (fun hm => by have := HO.out.back hm; omega)); have hz7 : g + 1 ≤ w7.heap.size := Nat.le_trans hzr (Nat.le_trans ((Mods.refl (S := []) (w := wr)).alloc (.cells (u8s [(rr : Int)]).toArray 5)).size M7.size); have HO7 := Lib.hid O7; skip; clear O7 M7)
              | fail)
            exact ⟨⟨k + 1, by omega, by go_num, by rw [HTK.out, ← List.append_assoc]; exact HO7.out, HM7.out, hz7, HR7.out⟩, by simp only [intOf]; omega⟩
          · have hk6 : k = 6 := by omega
            subst hk6
            have eR : (rawsL S).take 6 = rawsL S := rfl
            rw [eR] at O
            have HO := Lib.hid O
            have HMr := Lib.hid M
            have HR := Lib.hid R
            have c21 : wr.cell? ⟨g, 21, none⟩ = some (.int .u8 S.hl) := (cell_blk R 21).trans rfl
            have c22 : wr.cell? ⟨g, 22, none⟩ = some (.int .u8 S.hu) := (cell_blk R 22).trans rfl
            have hlk : (A6 ++ rawsL S).length ≤ 170 := by simp [rawsL]; omega
            clear O M R eR
            go_wp2_with (first
              | (at_builtin; refine wpList_appB (by rfl) (.tmp 81) (.tmp 86) rfl (v := u5) (by rfl) (HO.out.mods0 (Mods.refl.alloc _)) (by rfl) (OwnB.lit wr (Nat.le_refl _) [(S.hl : Int), (S.hu : Int)] (by unfold maxLen; simp)).rd (by (simp only [List.length_cons, List.length_nil]; omega)) (by simp; omega) ?_; intro v5 w5 O5 M5; have HM5 := Lib.hid ((HMr.out.alloc (.cells (u8s [(S.hl : Int), (S.hu : Int)]).toArray 5)).comp M5 (fun k hk => .inr (by have := HO.out.back hk; have := HG.out; omega))); have HR5 := Lib.hid (M5.heap (heap_alloc (o' := .cells (u8s [(S.hl : Int), (S.hu : Int)]).toArray 5) HR.out) (fun hm => by have := HO.out.back hm; omega)); have hz5 : g + 1 ≤ w5.heap.size := Nat.le_trans hzr (Nat.le_trans ((Mods.refl (S := []) (w := wr)).alloc (.cells (u8s [(S.hl : Int), (S.hu : Int)]).toArray 5)).size M5.size); have HO5 := Lib.hid O5; have c24 : w5.cell? ⟨g, 24, none⟩ = some (.int .u16 S.asrt) := ((cell_blk HR5.out 24).trans rfl); clear O5 M5)
              | fail)
            clear c21 c22 HO HMr HR hzr
            have hlen5 : (A6 ++ rawsL S ++ [(S.hl : Int), (S.hu : Int)]).length ≤ 300 := by rw [List.length_append]; simp only [List.length_cons, List.length_nil]; omega
            generalize hA5 : A6 ++ rawsL S ++ [(S.hl : Int), (S.hu : Int)] = A5 at HO5 hlen5
            have HA5 := Lib.hid (show headL S (flagS S) ++ nameL S.name ++ (convL S.conv P ++ [(S.mask : Int)] ++ rawsL S ++ [(S.hl : Int), (S.hu : Int)]) = A5 by rw [← hA5, ← HA6.out, ← HHD.out, HF.out]; simp)
            clear hA5
            refine (little_ok w5 (S.asrt : Int) 2 (by omega) (by omega)).mono ?_
            rw [leL_two b24]
            rintro e w6 ⟨v6, rfl, O6, M6⟩
            have HX := Lib.hid (show OwnB _ _ _ _ from O6)
            have HO6 := Lib.hid (HO5.out.mods0 M6)
            have HM6 := Lib.hid (HM5.out.trans M6)
            have hz6 := Nat.le_trans hz5 M6.size
            have HR6 := Lib.hid (M6.heap HR5.out (by simp))
            clear O6 M6 HO5 HM5 hz5 HR5
            go_wp2_with (at_builtin; refine wpList_appB (by rfl) (.tmp 88) (.tmp 92) rfl (v := v5) (by rfl) HO6.out (by rfl) HX.out.rd (by (rw [twoL_length]; simp; omega)) hz6 ?_; intro v7 w7 O7 M7; have HM7 := Lib.hid (HM6.out.comp M7 (fun k hk => .inr (by have := HO6.out.back hk; have := HG.out; omega))); have HR7 := Lib.hid (M7.heap HR6.out (fun hm => by have := HO6.out.back hm; omega)); have hz7 : g + 1 ≤ w7.heap.size := Nat.le_trans hz6 M7.size; have HO7 := Lib.hid O7; have c25 : w7.cell? ⟨g, 25, none⟩ = some (.int .u16 S.deas) := ((cell_blk HR7.out 25).trans rfl); clear O7 M7)
            clear HX HO6 HM6 HR6 hz6 c24
            refine (little_ok w7 (S.deas : Int) 2 (by omega) (by omega)).mono ?_
            rw [leL_two b25]
            rintro e w8 ⟨v8, rfl, O8, M8⟩
            have HX := Lib.hid (show OwnB _ _ _ _ from O8)
            have HO8 := Lib.hid (HO7.out.mods0 M8)
            have HM8 := Lib.hid (HM7.out.trans M8)
            have hz8 := Nat.le_trans hz7 M8.size
            have HR8 := Lib.hid (M8.heap HR7.out (by simp))
            clear O8 M8 HO7 HM7 hz7 HR7
            go_wp2_with (at_builtin; refine wpList_appB (by rfl) (.tmp 94) (.tmp 98) rfl (v := v7) (by rfl) HO8.out (by rfl) HX.out.rd (by (rw [List.length_append, twoL_length, twoL_length]; simp; omega)) hz8 ?_; intro v9 w9 O9 M9; have HM9 := Lib.hid (HM8.out.comp M9 (fun k hk => .inr (by have := HO8.out.back hk; have := HG.out; omega))); have HR9 := Lib.hid (M9.heap HR8.out (fun hm => by have := HO8.out.back hm; omega)); have hz9 : g + 1 ≤ w9.heap.size := Nat.le_trans hz8 M9.size; have HO9 := Lib.hid O9; skip; clear O9 M9)
            clear HX HO8 HM8 HR8 hz8 c25
            have hO := HO9.out
            rw [(show A5 ++ twoL [S.asrt] ++ twoL [S.deas] = senL S P by rw [senL, HD.out, if_neg (by simp), ← HA5.out]; simp [twoL])] at hO
            refine (refSeal8_ok w9 v9 (senL S P) hO.rd HSB.out.1 (by have := HSB.out.2; omega)).mono ?_
            rintro e w10 ⟨v10, rfl, O10, M10⟩
            have HM10 := Lib.hid (HM9.out.trans M10)
            have HO10 := Lib.hid (owns_down O10 HM9.out.size)
            clear O10 M10 hO HO9 HM9
            go_wp2
            go_ret2
            exact ⟨_, rfl, HO10.out, HM10.out⟩
      | true =>
        rw [hh] at c26
        have HF := Lib.hid (show flagS S = (4*S.samples+2) by unfold flagS; rw [hh, hd]; simp)
        have HD := Lib.hid hd
        clear hh hd
        have MA := (Mods.refl (S := []) (w := w2)).alloc (.cells #[.int .u8 1, .int .u8 (S.number : Int), .int .u8 (S.type : Int), .int .u8 (S.unit : Int), .int .u8 (S.eid : Int), .int .u8 (S.einst : Int), .int .u8 ((4*S.samples+2)), .int .u8 (S.name.size : Int)] 5)
        have ca3 := MA.cell c3 (by simp)
        go_wp2_with (first | (at_builtin; refine Lib.wpList_append_own_string _ rfl (.tmp 42) (.tmp 44) 33 9 rfl (g + 1) 5 i0 Try.underlying33 Try.underlying9 hi hz0 hz1 hz2 _ 8 (u8s (headL S ((4*S.samples+2)))) (by rfl) (World.ownsRow_lit w2 #[.int .u8 1, .int .u8 S.number, .int .u8 S.type, .int .u8 S.unit, .int .u8 S.eid, .int .u8 S.einst, .int .u8 ((4*S.samples+2)), .int .u8 S.name.size] 8 hzz (by decide) rfl) S.name (by rfl) (by unfold maxLen; omega) (by omega) (by simp; omega) ?_; intro v3 w3 O3 G3 _; have HM3 := Lib.hid ((HM.out.trans MA).grown G3 (fun q hq => .inr (by simp [Value.ownBlock] at hq; have := HG.out; omega))); have HH3 : Hid (w3.heap[g]? = some (.cells S.cells 32 (0, 0))) := Lib.hid ((Mods.of_grown G3).heap (MA.heap HH.out (by simp)) (by simp [Value.ownBlock]; omega)); have q6 : w3.cell? ⟨g, 6, none⟩ = some (.bool false) := (by rw [cell_blk HH3.out]; rw [cell_blk HH.out] at c6; exact c6); have q23 : w3.cell? ⟨g, 23, none⟩ = some (.int .u16 S.states) := ((cell_blk HH3.out 23).trans rfl); have hz3 : g + 1 ≤ w3.heap.size := (by have := G3.size; simp at this; omega); have HO3 : Hid (OwnB w3 (g + 1) v3 (headL S ((4*S.samples+2)) ++ nameL S.name)) := Lib.hid (by unfold OwnB; rw [u8s_length, List.length_append, nameL_length]; have e : u8s (headL S ((4*S.samples+2)) ++ nameL S.name) = u8s (headL S ((4*S.samples+2))) ++ Lib.strCells S.name := (by rw [nameL_cells]; simp [u8s]); rw [e]; exact O3); clear G3 O3 MA ca3) | (refine wpList_load_mid rfl 26 (.tmp 55) rfl g 7 (by rfl) S.conv.cells.toList _ (Sen.conv_range HH3.out) Try.underlying26 rfl Try.infoC ?_; rw [Array.toArray_toList]))
        clear q6 c27 c6 c26 c0 c1 c2 c3 c4 c5 HH HM
        have hlen3 : (headL S ((4*S.samples+2)) ++ nameL S.name).length ≤ 24 := by rw [List.length_append, nameL_length]; simp [headL]; omega
        generalize hhd : headL S ((4*S.samples+2)) ++ nameL S.name = A3 at HO3 hlen3
        have HHD := Lib.hid hhd
        clear hhd
        refine (refEnc_ok w3 S.conv P (HS.out.conv.mods0 HM3.out)).mono ?_
        rw [HCV.out.1]
        intro e w4 hE
        obtain ⟨v4, rfl, O4, M4⟩ : EncOut _ _ _ _ := hE
        have HX := Lib.hid (show OwnB _ _ _ _ from O4)
        have HO4 := Lib.hid (HO3.out.mods0 M4)
        have HM4 := Lib.hid (HM3.out.trans M4)
        have hz4 := Nat.le_trans hz3 M4.size
        have HR4 := Lib.hid (M4.heap HH3.out (by simp))
        have hlc := HCV.out.2
        clear O4 M4 HO3 HM3 hz3 HH3 q23
        go_wp2_with (first
          | (at_builtin; refine wpList_appB (by rfl) (.tmp 60) (.tmp 61) rfl (v := v3) (by rfl) HO4.out (by rfl) HX.out.rd (by omega) hz4 ?_; intro v5 w5 O5 M5; have HM5 := Lib.hid (HM4.out.comp M5 (fun k hk => .inr (by have := HO4.out.back hk; have := HG.out; omega))); have HR5 := Lib.hid (M5.heap HR4.out (fun hm => by have := HO4.out.back hm; omega)); have hz5 : g + 1 ≤ w5.heap.size := Nat.le_trans hz4 M5.size; have HO5 := Lib.hid O5; have c14 : w5.cell? ⟨g, 14, none⟩ = some (.int .u8 S.mask) := ((cell_blk HR5.out 14).trans rfl); have hlen5 : (A3 ++ convL S.conv P).length ≤ 150 := (by rw [List.length_append]; omega); clear O5 M5)
          | (at_builtin; refine wpList_appB (by rfl) (.tmp 63) (.tmp 67) rfl (v := v5) (by rfl) (HO5.out.mods0 (Mods.refl.alloc _)) (by rfl) (OwnB.lit w5 (Nat.le_refl _) [(S.mask : Int)] (by unfold maxLen; simp)).rd (by (simp only [List.length_cons, List.length_nil]; omega)) (by simp; omega) ?_; intro v6 w6 O6 M6; have HM6 := Lib.hid ((HM5.out.alloc (.cells (u8s [(S.mask : Int)]).toArray 5)).comp M6 (fun k hk => .inr (by have := HO5.out.back hk; have := HG.out; omega))); have HR6 := Lib.hid (M6.heap (heap_alloc (o' := .cells (u8s [(S.mask : Int)]).toArray 5) HR5.out) (fun hm => by have := HO5.out.back hm; omega)); have hz6 : g + 1 ≤ w6.heap.size := Nat.le_trans hz5 (Nat.le_trans ((Mods.refl (S := []) (w := w5)).alloc (.cells (u8s [(S.mask : Int)]).toArray 5)).size M6.size); have HO6 := Lib.hid O6; skip; clear O6 M6)
          | fail)
        clear HX HO4 HM4 HR4 hz4 c14 HO5 HM5 HR5 hz5
        have hlen6 : (A3 ++ convL S.conv P ++ [(S.mask : Int)]).length ≤ 160 := by rw [List.length_append]; simp only [List.length_cons, List.length_nil]; omega
        generalize hA6 : A3 ++ convL S.conv P ++ [(S.mask : Int)] = A6 at HO6 hlen6
        have HA6 := Lib.hid hA6
        clear hA6 hlen5
        go_loopw [5, 8] (fun o i wr => ∃ k : Nat, k ≤ 6 ∧ i = .int .i64 k ∧ OwnB wr (g + 1) o (A6 ++ (rawsL S).take k) ∧ Mods [] w wr ∧ g + 1 ≤ wr.heap.size ∧ wr.heap[g]? = some (.cells S.cells 32 (0, 0))) (fun _ i _ => 6 - (intOf i).toNat)
        case atStart => exact ⟨0, Nat.zero_le _, rfl, by simpa using HO6.out, HM6.out, hz6, HR6.out⟩
        case round =>
          obtain ⟨k, hk, rfl, O, M, hzr, R⟩ := hrel
          clear HO6 HM6 hz6 HR6
          by_cases hlt : k < 6
          · have craw : wr.cell? ⟨g, 15 + k, none⟩ = some (.int .u8 (S.raw k)) := SenBox.craw ⟨R⟩ hlt
            have i1 : (0 : Int) ≤ (k : Int) := by omega
            have i2 : (k : Int) < 6 := by omega
            have HTK : Hid ((rawsL S).take (k + 1) = (rawsL S).take k ++ [(S.raw k : Int)]) := Lib.hid (by
              match k, hlt with
              | 0, _ | 1, _ | 2, _ | 3, _ | 4, _ | 5, _ => rfl)
            have hlk : (A6 ++ (rawsL S).take k).length ≤ 170 := by rw [List.length_append, List.length_take]; omega
            have HO := Lib.hid O
            have HMr := Lib.hid M
            have HR := Lib.hid R
            generalize S.raw k = rr at craw HTK
            clear O M R
            go_wp2_with (first
              | (at_builtin; refine wpList_appB (by rfl) (.tmp 73) (.tmp 79) rfl (v := u5) (by rfl) (HO.out.mods0 (Mods.refl.alloc _)) (by rfl) (OwnB.lit wr (Nat.le_refl _) [(rr : Int)] (by unfold maxLen; simp)).rd (by (simp only [List.length_cons, List.length_nil]; omega)) (by simp; omega) ?_; intro v7 w7 O7 M7; have HM7 := Lib.hid ((HMr.out.alloc (.cells (u8s [(rr : Int)]).toArray 5)).comp M7 (fun k hk => .inr (by have := HO.out.back hk; have := HG.out; omega))); have HR7 := Lib.hid (M7.heap (heap_alloc (o' := .cells (u8s [(rr : Int)]).toArray 5) HR.out) (fun hm => by have := HO.out.back hm; omega)); have hz7 : g + 1 ≤ w7.heap.size := Nat.le_trans hzr (Nat.le_trans ((Mods.refl (S := []) (w := wr)).alloc (.cells (u8s [(rr : Int)]).toArray 5)).size M7.size); have HO7 := Lib.hid O7; skip; clear O7 M7)
              | fail)
            exact ⟨⟨k + 1, by omega, by go_num, by rw [HTK.out, ← List.append_assoc]; exact HO7.out, HM7.out, hz7, HR7.out⟩, by simp only [intOf]; omega⟩
          · have hk6 : k = 6 := by omega
            subst hk6
            have eR : (rawsL S).take 6 = rawsL S := rfl
            rw [eR] at O
            have HO := Lib.hid O
            have HMr := Lib.hid M
            have HR := Lib.hid R
            have c21 : wr.cell? ⟨g, 21, none⟩ = some (.int .u8 S.hl) := (cell_blk R 21).trans rfl
            have c22 : wr.cell? ⟨g, 22, none⟩ = some (.int .u8 S.hu) := (cell_blk R 22).trans rfl
            have hlk : (A6 ++ rawsL S).length ≤ 170 := by simp [rawsL]; omega
            clear O M R eR
            go_wp2_with (first
              | (at_builtin; refine wpList_appB (by rfl) (.tmp 81) (.tmp 86) rfl (v := u5) (by rfl) (HO.out.mods0 (Mods.refl.alloc _)) (by rfl) (OwnB.lit wr (Nat.le_refl _) [(S.hl : Int), (S.hu : Int)] (by unfold maxLen; simp)).rd (by (simp only [List.length_cons, List.length_nil]; omega)) (by simp; omega) ?_; intro v5 w5 O5 M5; have HM5 := Lib.hid ((HMr.out.alloc (.cells (u8s [(S.hl : Int), (S.hu : Int)]).toArray 5)).comp M5 (fun k hk => .inr (by have := HO.out.back hk; have := HG.out; omega))); have HR5 := Lib.hid (M5.heap (heap_alloc (o' := .cells (u8s [(S.hl : Int), (S.hu : Int)]).toArray 5) HR.out) (fun hm => by have := HO.out.back hm; omega)); have hz5 : g + 1 ≤ w5.heap.size := Nat.le_trans hzr (Nat.le_trans ((Mods.refl (S := []) (w := wr)).alloc (.cells (u8s [(S.hl : Int), (S.hu : Int)]).toArray 5)).size M5.size); have HO5 := Lib.hid O5; have c24 : w5.cell? ⟨g, 24, none⟩ = some (.int .u16 S.asrt) := ((cell_blk HR5.out 24).trans rfl); clear O5 M5)
              | fail)
            clear c21 c22 HO HMr HR hzr
            have hlen5 : (A6 ++ rawsL S ++ [(S.hl : Int), (S.hu : Int)]).length ≤ 300 := by rw [List.length_append]; simp only [List.length_cons, List.length_nil]; omega
            generalize hA5 : A6 ++ rawsL S ++ [(S.hl : Int), (S.hu : Int)] = A5 at HO5 hlen5
            have HA5 := Lib.hid (show headL S (flagS S) ++ nameL S.name ++ (convL S.conv P ++ [(S.mask : Int)] ++ rawsL S ++ [(S.hl : Int), (S.hu : Int)]) = A5 by rw [← hA5, ← HA6.out, ← HHD.out, HF.out]; simp)
            clear hA5
            refine (little_ok w5 (S.asrt : Int) 2 (by omega) (by omega)).mono ?_
            rw [leL_two b24]
            rintro e w6 ⟨v6, rfl, O6, M6⟩
            have HX := Lib.hid (show OwnB _ _ _ _ from O6)
            have HO6 := Lib.hid (HO5.out.mods0 M6)
            have HM6 := Lib.hid (HM5.out.trans M6)
            have hz6 := Nat.le_trans hz5 M6.size
            have HR6 := Lib.hid (M6.heap HR5.out (by simp))
            clear O6 M6 HO5 HM5 hz5 HR5
            go_wp2_with (at_builtin; refine wpList_appB (by rfl) (.tmp 88) (.tmp 92) rfl (v := v5) (by rfl) HO6.out (by rfl) HX.out.rd (by (rw [twoL_length]; simp; omega)) hz6 ?_; intro v7 w7 O7 M7; have HM7 := Lib.hid (HM6.out.comp M7 (fun k hk => .inr (by have := HO6.out.back hk; have := HG.out; omega))); have HR7 := Lib.hid (M7.heap HR6.out (fun hm => by have := HO6.out.back hm; omega)); have hz7 : g + 1 ≤ w7.heap.size := Nat.le_trans hz6 M7.size; have HO7 := Lib.hid O7; have c25 : w7.cell? ⟨g, 25, none⟩ = some (.int .u16 S.deas) := ((cell_blk HR7.out 25).trans rfl); clear O7 M7)
            clear HX HO6 HM6 HR6 hz6 c24
            refine (little_ok w7 (S.deas : Int) 2 (by omega) (by omega)).mono ?_
            rw [leL_two b25]
            rintro e w8 ⟨v8, rfl, O8, M8⟩
            have HX := Lib.hid (show OwnB _ _ _ _ from O8)
            have HO8 := Lib.hid (HO7.out.mods0 M8)
            have HM8 := Lib.hid (HM7.out.trans M8)
            have hz8 := Nat.le_trans hz7 M8.size
            have HR8 := Lib.hid (M8.heap HR7.out (by simp))
            clear O8 M8 HO7 HM7 hz7 HR7
            go_wp2_with (at_builtin; refine wpList_appB (by rfl) (.tmp 94) (.tmp 98) rfl (v := v7) (by rfl) HO8.out (by rfl) HX.out.rd (by (rw [List.length_append, twoL_length, twoL_length]; simp; omega)) hz8 ?_; intro v9 w9 O9 M9; have HM9 := Lib.hid (HM8.out.comp M9 (fun k hk => .inr (by have := HO8.out.back hk; have := HG.out; omega))); have HR9 := Lib.hid (M9.heap HR8.out (fun hm => by have := HO8.out.back hm; omega)); have hz9 : g + 1 ≤ w9.heap.size := Nat.le_trans hz8 M9.size; have HO9 := Lib.hid O9; skip; clear O9 M9)
            clear HX HO8 HM8 HR8 hz8 c25
            have hO := HO9.out
            rw [(show A5 ++ twoL [S.asrt] ++ twoL [S.deas] = senL S P by rw [senL, HD.out, if_neg (by simp), ← HA5.out]; simp [twoL])] at hO
            refine (refSeal8_ok w9 v9 (senL S P) hO.rd HSB.out.1 (by have := HSB.out.2; omega)).mono ?_
            rintro e w10 ⟨v10, rfl, O10, M10⟩
            have HM10 := Lib.hid (HM9.out.trans M10)
            have HO10 := Lib.hid (owns_down O10 HM9.out.size)
            clear O10 M10 hO HO9 HM9
            go_wp2
            go_ret2
            exact ⟨_, rfl, HO10.out, HM10.out⟩
end Go.Proofs.Ytijjkonephjodaa
