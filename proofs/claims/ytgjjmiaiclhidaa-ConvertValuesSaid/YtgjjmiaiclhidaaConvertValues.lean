/- ConvertValues: the walk. -/
import Derived.Test.YtgjjmiaiclhidaaAwakeC
import Derived.Test.YtgjjmiaiclhidaaConvIn
import Derived.Test.YtgjjmiaiclhidaaThreeK
import Derived.Test.YtgjjmiaiclhidaaHeldRow
import Derived.Test.YtgjjmiaiclhidaaMadeOddC
namespace Go.Proofs.Ytgjjmiaiclhidaa
open Go.RowKit

set_option maxRecDepth 100000 in
set_option maxHeartbeats 8000000 in
theorem convertValues_walk (w : World) (C0 : Conv) (P0 : List Pt) (hC0 : ConvIn w C0 P0) (v : Value) (L : List Int) (hv : Rd w v (i64s L)) (hb : ∀ i, -9223372036854775808 ≤ L.getD i 0 ∧ L.getD i 0 ≤ 9223372036854775807) (a : Int) (ha : 0 ≤ a ∧ a ≤ 255) :
    Calls Try.prog 6 #[.agg C0.cells, v, .int .u8 a] w fun e w' => e = .returned (.bool true) ∧ Mods [] w w' := by
  obtain ⟨raw, rfl⟩ := Int.eq_ofNat_of_zero_le ha.1
  have hraw : raw < 256 := by omega
  have HI := Lib.hid hC0
  have BB := Lib.hid (heap_alloc_new w (.cells C0.cells 26))
  have M0 := Lib.hid ((Mods.refl (S := []) (w := w)).alloc (.cells C0.cells 26))
  clear hC0 ha
  by_cases hl0 : P0.length ≤ 30
  · have HLT := Lib.hid (decide_eq_true hl0)
    have HL := Lib.hid (light_ok w v L hv)
    have HV := Lib.hid hv
    have HB := Lib.hid hb
    clear hv hb
    by_cases hl : L.length ≤ 600
    · have HLL := Lib.hid (decide_eq_true hl)
      have HLM := Lib.hid (fun W (M : Mods [] w W) => light_ok W v L (HV.out.mods0 M))
      go_enter Try.func6, Try.ntmps6
      go_wp2_with (refine wpList_load_conv rfl (.tmp 3) rfl BB.out (by rfl) ?_)
      refine (cLight_ok _ C0 P0 (HI.out.mods0 M0.out).rd).mono ?_
      rw [HLT.out]
      rintro e w0 ⟨rfl, Mx⟩
      have HX := Lib.hid (M0.out.trans Mx)
      have HB0 := Lib.hid (Mx.heap BB.out (by simp))
      clear Mx
      go_wp2_with fail
      refine (HLM.out _ HX.out).mono ?_
      rw [HLL.out]
      rintro e w' ⟨rfl, rfl⟩
      go_wp2_with fail
      refine (roll_ok _ v L (HV.out.mods0 HX.out) (by omega) HB.out).mono ?_
      rintro e w1 ⟨rfl, D1, M1, z1⟩
      have hgb := lt_of_block HB0.out
      have hwb := HX.out.size
      have HM1 := Lib.hid (HX.out.trans M1)
      have HB1 := Lib.hid (M1.heap HB0.out (by simp))
      generalize w0.heap.size = b at D1 z1 hgb hwb ⊢
      generalize w.heap.size = g0 at HB1 HB0 BB hgb ⊢
      have HD1 := Lib.hid (D1.drewN 1)
      clear D1 M1
      go_wp2_with fail
      refine heldStart (S := fun W => W.heap[g0]? = some (.cells C0.cells 26 (0, 0))) 8 rfl (by kernel_rfl) HB1.out (fun hHeld => ?_)
      refine takeD (i := 0) (d := 25) (v := .agg (C0).cells) rfl rfl (by kernel_rfl) (by kernel_rfl) (by kernel_rfl) (fun _ _ _ h => h) (yieldsIf_load_row rfl 26 (.tmp 3) rfl g0 rfl 26 (C0).cells (0, 0) _ (fun w h=>h) Try.underlying26 rfl (Conv.infoCC _)) hHeld ?_
      simp only [List.setIfInBounds_toArray, List.set_cons_zero, List.set_cons_succ]
      refine takeD (i := 1) (d := 26) (v := ?_) rfl rfl (by kernel_rfl) (by kernel_rfl) (by kernel_rfl) (fun _ _ _ h => h) (Or.inl ⟨by rfl, ?_⟩) hHeld ?_
      rotate_left 1
      · (intro w hSw; (try dsimp only at hSw); go_simp; (try with_reducible rfl))
      simp only [List.setIfInBounds_toArray, List.set_cons_zero, List.set_cons_succ]
      refine takeD (i := 3) (d := 28) (v := ?_) rfl rfl (by kernel_rfl) (by kernel_rfl) (by kernel_rfl) (fun _ _ _ h => h) (Or.inl ⟨by rfl, ?_⟩) hHeld ?_
      rotate_left 1
      · (intro w hSw; (try dsimp only at hSw); go_simp; (try with_reducible rfl))
      simp only [List.setIfInBounds_toArray, List.set_cons_zero, List.set_cons_succ]
      refine takeD (i := 7) (d := 32) (v := ?_) rfl rfl (by kernel_rfl) (by kernel_rfl) (by kernel_rfl) (fun _ _ _ h => h) (Or.inl ⟨by rfl, ?_⟩) hHeld ?_
      rotate_left 1
      · (intro w hSw; (try dsimp only at hSw); go_simp; (try with_reducible rfl))
      simp only [List.setIfInBounds_toArray, List.set_cons_zero, List.set_cons_succ]
      refine wpAnyH_ready (rs := [2]) (by kernel_rfl) (by simp) ?_
      refine AllReadyH.cons rfl (fun K hK => ?_) AllReadyH.nil
      go_simp
      go_wp2_with (go_at_call 41; refine (oddConversion_ok _ b v L 0 HD1.out).mono ?_; rintro e w2 ⟨C1, P1, n2, rfl, IC1, OP1, PL1, D2, M2⟩)
      refine hK.out _ _ ?_ (fun hHeld => ?_)
      · exact M2.heap hHeld (by simp;omega)
      clear hK K
      have HM2 := Lib.hid ((HM1.out.drewN 1).comp M2 (fun q hq => by simp at hq; subst hq; exact .inr hwb))
      have HD2 := Lib.hid D2
      have HI1 := Lib.hid IC1
      have HF1 := Lib.hid (show ∀ q, C1.pts.ownBlock = some q → q ≠ b from fun q hq => by have h1 := (OP1.own q hq).1; have h2 : w1.heap.size ≤ q := h1; omega)
      clear D2 M2 IC1 OP1
      refine wpAnyH_ready (rs := [4]) (by kernel_rfl) (by simp) ?_
      refine AllReadyH.cons rfl (fun K hK => ?_) AllReadyH.nil
      go_simp
      go_wp2_with (go_at_call 42; refine (conversion_ok _ b v L n2 HD2.out).mono ?_; rintro e w3 ⟨C2, P2, n3, rfl, IC2, VC2, OP2, PL2, D3, M3⟩)
      refine hK.out _ _ ?_ (fun hHeld => ?_)
      · exact M3.heap hHeld (by simp;omega)
      clear hK K
      have HI1 := Lib.hid (HI1.out.mods M3 (fun _ q hq => by simpa using HF1.out q hq))
      have HI2 := Lib.hid IC2
      have HM3 := Lib.hid (HM2.out.comp M3 (fun q hq => by simp at hq; subst hq; exact .inr hwb))
      have HI0 := Lib.hid ((HI.out.is (by omega)).mods0 HM3.out)
      clear D3 M3 IC2 OP2 VC2
      refine wpAnyH_ready (rs := [5]) (by kernel_rfl) (by simp) ?_
      refine AllReadyH.cons rfl (fun K hK => ?_) AllReadyH.nil
      rw [if_pos (by rfl)]
      refine wp_threeK (.tmp 25) (.tmp 27) (.tmp 29) rfl 30 rfl C0 C1 C2 rfl rfl rfl ?_
      intro cells hcells
      refine hK.out _ _ ?_ (fun hHeld => ?_)
      · exact heap_alloc hHeld
      clear hK K
      simp only [List.setIfInBounds_toArray, List.set_cons_zero, List.set_cons_succ]
      refine takeD (i := 6) (d := 31) (v := ?_) rfl rfl (by kernel_rfl) (by kernel_rfl) (by kernel_rfl) (fun _ _ _ h => h) (Or.inl ⟨by rfl, ?_⟩) hHeld ?_
      rotate_left 1
      · (intro w hSw; (try dsimp only at hSw); go_simp; (try with_reducible rfl))
      simp only [List.setIfInBounds_toArray, List.set_cons_zero, List.set_cons_succ]
      refine wpAnyH_done (by kernel_rfl) ?_ _
      have M5 := (Mods.refl (S := []) (w := w3)).alloc (.cells cells 26)
      have R5 := heap_alloc_new w3 (.cells cells 26)
      have HI0 := Lib.hid (HI0.out.mods0 M5)
      have HI1 := Lib.hid (HI1.out.mods0 M5)
      have HI2 := Lib.hid (HI2.out.mods0 M5)
      have HM5 := Lib.hid (HM3.out.trans M5)
      have HR5 := Lib.hid R5
      generalize w3.alloc (.cells cells 26) = w5 at HI0 HI1 HI2 HM5 HR5 ⊢
      generalize w3.heap.size = gx at HR5 ⊢
      clear M5 R5 hHeld HM3 HM2 HM1 HD1 HD2 HB1 HB0 BB M0 HI HLM HV HF1
      have HSQ : Hid (∀ q, q < 3 → ∃ C P, IsConv w5 C P ∧ ∀ j, j < 7 → cells[q * 7 + j]? = C.cells[j]?) := Lib.hid (fun q hq => by
        match q, hq with
        | 0, _ => exact ⟨C0, P0, HI0.out, fun j hj => (hcells j hj).1⟩
        | 1, _ => exact ⟨C1, P1, HI1.out, fun j hj => (hcells j hj).2.1⟩
        | 2, _ => exact ⟨C2, P2, HI2.out, fun j hj => (hcells j hj).2.2⟩)
      clear hcells HI0 HI1 HI2 hgb hwb
      go_wp2_with fail
      go_loopw [32] (fun i wr => ∃ q : Nat, q ≤ 3 ∧ i = .int .i64 q ∧ Mods [] w5 wr) (fun i _ => 3 - (intOf i).toNat)
      case atStart => exact ⟨0, by omega, rfl, Mods.refl⟩
      case round =>
        obtain ⟨q, hq, rfl, M⟩ := hrel
        by_cases hq3 : q < 3
        · obtain ⟨C, P, IC, hg⟩ := HSQ.out q hq3
          have hone := Lib.hid (Conv.one C IC.rd.one)
          have HIC := Lib.hid (IC.mods0 M)
          have HRG := Lib.hid (show wr.rangeAt gx (q * 7) C.cells.toList from fun j u hu => by
            have hj : j < 7 := (List.getElem?_eq_some_iff.1 hu).1
            have h4 : w5.cell? ⟨gx, q * 7 + j, none⟩ = some u := by rw [cell_blk HR5.out, hg j hj, ← hu]; simp
            exact M.cell h4 (by simp))
          have HM := Lib.hid M
          have i1 : (0 : Int) ≤ (q : Int) := by omega
          have i2 : (q : Int) < 3 := by omega
          clear M IC hg
          have V1 := Lib.hid (fun W (M : Mods [] wr W) => value_ok W C P raw (HIC.out.mods0 M) hraw)
          have V2 := Lib.hid (fun W (M : Mods [] wr W) => refValue_ok W C P raw (HIC.out.mods0 M) hraw)
          have V3 := Lib.hid (fun W (M : Mods [] wr W) => convValid_ok W C P (HIC.out.mods0 M))
          have V4 := Lib.hid (fun W (M : Mods [] wr W) => refConvValid_ok W C P (HIC.out.mods0 M))
          generalize (valueI C P raw).1 = x1 at *
          generalize (valueI C P raw).2 = x2 at *
          have e1 : (x1 != x1) = false := by simp
          have e2 : (x2 != x2) = false := by simp
          go_wp2_with (first
            | (refine wpList_load_conv (C := C) rfl (.tmp 9) rfl HB6.out (by rfl) ?_)
            | (refine wpList_store_row (cs := C.cells) rfl 26 (.tmp 9) (.tmp 35) rfl (heap_alloc_new wr _) (by rfl) (by rfl) (by rfl) C.infoCC hone.out ?_; intro w6 R6 M6; have HB6 := Lib.hid R6; have HF6 := Lib.hid (fresh M6); clear R6 M6)
            | (refine wpList_load_mid rfl 26 (.tmp 34) rfl gx (q * 7) (by rfl) C.cells.toList _ HRG.out Try.underlying26 rfl C.infoCC ?_))
          generalize wr.heap.size = g7 at HB6 ⊢
          refine (V1.out _ HF6.out).mono ?_
          rintro e w7 ⟨rfl, M7⟩
          have HM7 := Lib.hid (HF6.out.trans M7)
          have HB7 := Lib.hid (M7.heap HB6.out (by simp))
          clear M7 HB6
          go_wp2_with (refine wpList_load_conv (C := C) rfl (.tmp 9) rfl HB7.out (by rfl) ?_)
          refine (V2.out _ HM7.out).mono ?_
          rintro e w8 ⟨rfl, M8⟩
          have HM8 := Lib.hid (HM7.out.trans M8)
          have HB8 := Lib.hid (M8.heap HB7.out (by simp))
          clear M8 HB7 V1 V2
          go_wp2_with fail
          refine heldStart (S := fun W => W.heap[g7]? = some (.cells C.cells 26 (0, 0))) 26 rfl (by kernel_rfl) HB8.out (fun hHeld => ?_)
          refine takeD (i := 0) (d := 48) (v := .agg (C).cells) rfl rfl (by kernel_rfl) (by kernel_rfl) (by kernel_rfl) (fun _ _ _ h => h) (yieldsIf_load_row rfl 26 (.tmp 9) rfl g7 rfl 26 (C).cells (0, 0) _ (fun w h=>h) Try.underlying26 rfl (Conv.infoCC _)) hHeld ?_
          simp only [List.setIfInBounds_toArray, List.set_cons_zero, List.set_cons_succ]
          refine takeD (i := 2) (d := 50) (v := .agg (C).cells) rfl rfl (by kernel_rfl) (by kernel_rfl) (by kernel_rfl) (fun _ _ _ h => h) (yieldsIf_load_row rfl 26 (.tmp 9) rfl g7 rfl 26 (C).cells (0, 0) _ (fun w h=>h) Try.underlying26 rfl (Conv.infoCC _)) hHeld ?_
          simp only [List.setIfInBounds_toArray, List.set_cons_zero, List.set_cons_succ]
          refine wpAnyH_ready (rs := [1]) (by kernel_rfl) (by simp) ?_
          refine AllReadyH.cons rfl (fun K hK => ?_) AllReadyH.nil
          go_simp
          go_wp2_with (go_at_call 45; refine (V3.out _ (HM8.out.drewN 1)).mono ?_; rintro e w9 ⟨rfl, M9⟩)
          refine hK.out _ _ ?_ (fun hHeld => ?_)
          · exact M9.heap hHeld (by simp)
          clear hK K
          have HM9 := Lib.hid ((HM8.out.drewN 1).trans M9)
          clear M9
          refine wpAnyH_ready (rs := [3]) (by kernel_rfl) (by simp) ?_
          refine AllReadyH.cons rfl (fun K hK => ?_) AllReadyH.nil
          go_simp
          go_wp2_with (go_at_call 46; refine (V4.out _ HM9.out).mono ?_; rintro e w10 ⟨rfl, M10⟩)
          refine hK.out _ _ ?_ (fun hHeld => ?_)
          · exact M10.heap hHeld (by simp)
          clear hK K
          have HM10 := Lib.hid (HM9.out.trans M10)
          clear M10
          generalize convB C P = vb
          have hvb : (vb != vb) = false := by cases vb <;> rfl
          refine takeD (i := 4) (d := 52) (v := ?_) rfl rfl (by kernel_rfl) (by kernel_rfl) (by kernel_rfl) (fun _ _ _ h => h) (Or.inl ⟨by rfl, ?_⟩) hHeld ?_
          rotate_left 1
          · (intro w hSw; (try dsimp only at hSw); go_simp; (try with_reducible rfl))
          simp only [List.setIfInBounds_toArray, List.set_cons_zero, List.set_cons_succ]
          refine takeD (i := 5) (d := 53) (v := ?_) rfl rfl (by kernel_rfl) (by kernel_rfl) (by kernel_rfl) (fun _ _ _ h => h) (Or.inl ⟨by rfl, ?_⟩) hHeld ?_
          rotate_left 1
          · (intro w hSw; (try dsimp only at hSw); go_simp; (try with_reducible rfl))
          simp only [List.setIfInBounds_toArray, List.set_cons_zero, List.set_cons_succ]
          refine takeD (i := 6) (d := 54) (v := ?_) rfl rfl (by kernel_rfl) (by kernel_rfl) (by kernel_rfl) (fun _ _ _ h => h) (Or.inl ⟨by rfl, ?_⟩) hHeld ?_
          rotate_left 1
          · (intro w hSw; (try dsimp only at hSw); go_simp; (try with_reducible rfl))
          simp only [List.setIfInBounds_toArray, List.set_cons_zero, List.set_cons_succ]
          refine takeD (i := 7) (d := 55) (v := ?_) rfl rfl (by kernel_rfl) (by kernel_rfl) (by kernel_rfl) (fun _ _ _ h => h) (Or.inl ⟨by rfl, ?_⟩) hHeld ?_
          rotate_left 1
          · (intro w hSw; (try dsimp only at hSw); go_simp; (try with_reducible rfl))
          simp only [List.setIfInBounds_toArray, List.set_cons_zero, List.set_cons_succ]
          refine takeD (i := 8) (d := 56) (v := ?_) rfl rfl (by kernel_rfl) (by kernel_rfl) (by kernel_rfl) (fun _ _ _ h => h) (Or.inl ⟨by rfl, ?_⟩) hHeld ?_
          rotate_left 1
          · (intro w hSw; (try dsimp only at hSw); go_simp; (try with_reducible rfl))
          simp only [List.setIfInBounds_toArray, List.set_cons_zero, List.set_cons_succ]
          refine takeD (i := 9) (d := 57) (v := ?_) rfl rfl (by kernel_rfl) (by kernel_rfl) (by kernel_rfl) (fun _ _ _ h => h) (Or.inl ⟨by rfl, ?_⟩) hHeld ?_
          rotate_left 1
          · (intro w hSw; (try dsimp only at hSw); go_simp; (try with_reducible rfl))
          simp only [List.setIfInBounds_toArray, List.set_cons_zero, List.set_cons_succ]
          refine takeD (i := 10) (d := 58) (v := ?_) rfl rfl (by kernel_rfl) (by kernel_rfl) (by kernel_rfl) (fun _ _ _ h => h) (Or.inl ⟨by rfl, ?_⟩) hHeld ?_
          rotate_left 1
          · (intro w hSw; (try dsimp only at hSw); go_simp; (try with_reducible rfl))
          simp only [List.setIfInBounds_toArray, List.set_cons_zero, List.set_cons_succ]
          refine takeD (i := 11) (d := 59) (v := ?_) rfl rfl (by kernel_rfl) (by kernel_rfl) (by kernel_rfl) (fun _ _ _ h => h) (Or.inl ⟨by rfl, ?_⟩) hHeld ?_
          rotate_left 1
          · (intro w hSw; (try dsimp only at hSw); go_simp; (try with_reducible rfl))
          simp only [List.setIfInBounds_toArray, List.set_cons_zero, List.set_cons_succ]
          refine takeD (i := 12) (d := 60) (v := ?_) rfl rfl (by kernel_rfl) (by kernel_rfl) (by kernel_rfl) (fun _ _ _ h => h) (Or.inl ⟨by rfl, ?_⟩) hHeld ?_
          rotate_left 1
          · (intro w hSw; (try dsimp only at hSw); go_simp; (try with_reducible rfl))
          simp only [List.setIfInBounds_toArray, List.set_cons_zero, List.set_cons_succ]
          refine takeD (i := 13) (d := 61) (v := ?_) rfl rfl (by kernel_rfl) (by kernel_rfl) (by kernel_rfl) (fun _ _ _ h => h) (Or.inl ⟨by rfl, ?_⟩) hHeld ?_
          rotate_left 1
          · (intro w hSw; (try dsimp only at hSw); go_simp; (try with_reducible rfl))
          simp only [List.setIfInBounds_toArray, List.set_cons_zero, List.set_cons_succ]
          refine takeD (i := 14) (d := 62) (v := ?_) rfl rfl (by kernel_rfl) (by kernel_rfl) (by kernel_rfl) (fun _ _ _ h => h) (Or.inl ⟨by rfl, ?_⟩) hHeld ?_
          rotate_left 1
          · (intro w hSw; (try dsimp only at hSw); go_simp; (try with_reducible rfl))
          simp only [List.setIfInBounds_toArray, List.set_cons_zero, List.set_cons_succ]
          refine takeD (i := 15) (d := 63) (v := ?_) rfl rfl (by kernel_rfl) (by kernel_rfl) (by kernel_rfl) (fun _ _ _ h => h) (Or.inl ⟨by rfl, ?_⟩) hHeld ?_
          rotate_left 1
          · (intro w hSw; (try dsimp only at hSw); go_simp; (try with_reducible rfl))
          simp only [List.setIfInBounds_toArray, List.set_cons_zero, List.set_cons_succ]
          refine takeD (i := 16) (d := 64) (v := ?_) rfl rfl (by kernel_rfl) (by kernel_rfl) (by kernel_rfl) (fun _ _ _ h => h) (Or.inl ⟨by rfl, ?_⟩) hHeld ?_
          rotate_left 1
          · (intro w hSw; (try dsimp only at hSw); go_simp; (try with_reducible rfl))
          simp only [List.setIfInBounds_toArray, List.set_cons_zero, List.set_cons_succ]
          refine takeD (i := 17) (d := 65) (v := (.bool C.sgn)) rfl rfl (by kernel_rfl) (by kernel_rfl) (by kernel_rfl) (fun _ _ _ h => h) (Or.inl ⟨by rfl, fun w hSw => ?_⟩) hHeld ?_
          · have cst := (cell_blk hSw 1).trans (show _ = some (.bool C.sgn) from rfl)
            go_simp
          simp only [List.setIfInBounds_toArray, List.set_cons_zero, List.set_cons_succ]
          refine takeD (i := 18) (d := 66) (v := ?_) rfl rfl (by kernel_rfl) (by kernel_rfl) (by kernel_rfl) (fun _ _ _ h => h) (Or.inl ⟨by rfl, ?_⟩) hHeld ?_
          rotate_left 1
          · (intro w hSw; (try dsimp only at hSw); go_simp; (try with_reducible rfl))
          simp only [List.setIfInBounds_toArray, List.set_cons_zero, List.set_cons_succ]
          refine takeD (i := 20) (d := 68) (v := ?_) rfl rfl (by kernel_rfl) (by kernel_rfl) (by kernel_rfl) (fun _ _ _ h => h) (Or.inl ⟨by rfl, ?_⟩) hHeld ?_
          rotate_left 1
          · (intro w hSw; (try dsimp only at hSw); go_simp; (try with_reducible rfl))
          simp only [List.setIfInBounds_toArray, List.set_cons_zero, List.set_cons_succ]
          refine takeD (i := 21) (d := 69) (v := (.bool C.sgn)) rfl rfl (by kernel_rfl) (by kernel_rfl) (by kernel_rfl) (fun _ _ _ h => h) (Or.inl ⟨by rfl, fun w hSw => ?_⟩) hHeld ?_
          · have cst := (cell_blk hSw 1).trans (show _ = some (.bool C.sgn) from rfl)
            go_simp
          simp only [List.setIfInBounds_toArray, List.set_cons_zero, List.set_cons_succ]
          refine takeD (i := 22) (d := 70) (v := ?_) rfl rfl (by kernel_rfl) (by kernel_rfl) (by kernel_rfl) (fun _ _ _ h => h) (Or.inl ⟨by rfl, ?_⟩) hHeld ?_
          rotate_left 1
          · (intro w hSw; (try dsimp only at hSw); go_simp; (try with_reducible rfl))
          simp only [List.setIfInBounds_toArray, List.set_cons_zero, List.set_cons_succ]
          refine wpAnyH_ready (rs := [19]) (by kernel_rfl) (by simp) ?_
          refine AllReadyH.cons rfl (fun K hK => ?_) AllReadyH.nil
          go_simp
          go_wp2_with (go_at_call 47; refine (number_ok C.sgn raw hraw _).mono ?_; rintro e w' ⟨rfl, rfl⟩)
          refine hK.out _ _ ?_ (fun hHeld => ?_)
          · exact hHeld
          clear hK K
          refine wpAnyH_ready (rs := [23]) (by kernel_rfl) (by simp) ?_
          refine AllReadyH.cons rfl (fun K hK => ?_) AllReadyH.nil
          go_simp
          go_wp2_with (go_at_call 48; refine (refNumber_ok C.sgn raw hraw _).mono ?_; rintro e w' ⟨rfl, rfl⟩)
          refine hK.out _ _ ?_ (fun hHeld => ?_)
          · exact hHeld
          clear hK K
          generalize numI C.sgn raw = nn
          have hnn : (nn != nn) = false := by simp
          refine takeD (i := 24) (d := 72) (v := ?_) rfl rfl (by kernel_rfl) (by kernel_rfl) (by kernel_rfl) (fun _ _ _ h => h) (Or.inl ⟨by rfl, ?_⟩) hHeld ?_
          rotate_left 1
          · (intro w hSw; (try dsimp only at hSw); go_simp; (try with_reducible rfl))
          simp only [List.setIfInBounds_toArray, List.set_cons_zero, List.set_cons_succ]
          refine takeD (i := 25) (d := 73) (v := ?_) rfl rfl (by kernel_rfl) (by kernel_rfl) (by kernel_rfl) (fun _ _ _ h => h) (Or.inl ⟨by rfl, ?_⟩) hHeld ?_
          rotate_left 1
          · (intro w hSw; (try dsimp only at hSw); go_simp; (try with_reducible rfl))
          simp only [List.setIfInBounds_toArray, List.set_cons_zero, List.set_cons_succ]
          refine wpAnyH_done (by kernel_rfl) ?_ _
          clear hHeld
          go_wp2
          exact ⟨⟨q + 1, by omega, by go_num, HM.out.trans HM10.out⟩, by simp only [intOf]; omega⟩
        · have HX := Lib.hid (HM5.out.trans M)
          clear M
          go_wp2_with fail
          refine (awakeC_ok _).mono ?_
          rintro e w1 ⟨rfl, M1⟩
          go_wp2
          go_ret
          exact ⟨rfl, HX.out.trans M1⟩
    · have HLL := Lib.hid (decide_eq_false hl)
      have HLM := Lib.hid (fun W (M : Mods [] w W) => light_ok W v L (HV.out.mods0 M))
      go_enter Try.func6, Try.ntmps6
      go_wp2_with (refine wpList_load_conv rfl (.tmp 3) rfl BB.out (by rfl) ?_)
      refine (cLight_ok _ C0 P0 (HI.out.mods0 M0.out).rd).mono ?_
      rw [HLT.out]
      rintro e w0 ⟨rfl, Mx⟩
      have HX := Lib.hid (M0.out.trans Mx)
      have HB0 := Lib.hid (Mx.heap BB.out (by simp))
      clear Mx
      go_wp2_with fail
      refine (HLM.out _ HX.out).mono ?_
      rw [HLL.out]
      rintro e w' ⟨rfl, rfl⟩
      go_wp2_with fail
      refine (awakeC_ok _).mono ?_
      rintro e w1 ⟨rfl, M1⟩
      go_wp2
      go_ret
      exact ⟨rfl, HX.out.trans M1⟩
  · have HLT := Lib.hid (decide_eq_false hl0)
    go_enter Try.func6, Try.ntmps6
    go_wp2_with (refine wpList_load_conv rfl (.tmp 3) rfl BB.out (by rfl) ?_)
    refine (cLight_ok _ C0 P0 (HI.out.mods0 M0.out).rd).mono ?_
    rw [HLT.out]
    rintro e w0 ⟨rfl, Mx⟩
    have HX := Lib.hid (M0.out.trans Mx)
    have HB0 := Lib.hid (Mx.heap BB.out (by simp))
    clear Mx
    go_wp2_with fail
    refine (awakeC_ok _).mono ?_
    rintro e w1 ⟨rfl, M1⟩
    go_wp2
    go_ret
    exact ⟨rfl, HX.out.trans M1⟩
end Go.Proofs.Ytgjjmiaiclhidaa
