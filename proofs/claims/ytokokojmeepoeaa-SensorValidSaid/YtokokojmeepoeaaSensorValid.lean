/- SensorValid: the walk. -/
import Derived.Test.YtokokojmeepoeaaAwakeS
import Derived.Test.YtokokojmeepoeaaRefValid
import Derived.Test.YtokokojmeepoeaaSenIn
import Derived.Test.YtokokojmeepoeaaFour
import Derived.Test.YtokokojmeepoeaaHeldRow
namespace Go.Proofs.Ytokokojmeepoeaa
open Go.RowKit

set_option maxRecDepth 100000 in
theorem sLight_ok (w : World) (S : Sen) (P : List Pt) (hS : SenIn w S P) :
    Calls Try.prog 43 #[.agg S.cells] w fun e w' => e = .returned (.bool (decide (S.name.size ≤ 100) && decide (P.length ≤ 40))) ∧ Mods [] w w' := by
  have M0 := Lib.hid ((Mods.refl (S := []) (w := w)).alloc (.cells S.cells 32))
  have hnm : S.name.size ≤ 9223372036854775807 := hS.name
  obtain ⟨adp, capp, hpts⟩ := hS.rd.len
  have c3 : S.cells[3]? = some (.string S.name) := rfl
  have c13 : S.cells[13]? = some (.slice adp P.length capp) := by rw [← hpts]; rfl
  clear hpts hS
  by_cases hn : S.name.size ≤ 100
  · have d1 : decide ((S.name.size : Int) ≤ 100) = true := decide_eq_true (by omega)
    by_cases hp : P.length ≤ 40
    · have d2 : decide ((P.length : Int) ≤ 40) = true := decide_eq_true (by omega)
      have HR := Lib.hid (show (decide (S.name.size ≤ 100) && decide (P.length ≤ 40)) = true by rw [decide_eq_true hn, decide_eq_true hp]; rfl)
      go_enter Try.func43, Try.ntmps43
      go_wp2_with fail
      go_ret
      exact ⟨ret_bool (by rw [HR.out]), M0.out⟩
    · have d2 : decide ((P.length : Int) ≤ 40) = false := decide_eq_false (by omega)
      have HR := Lib.hid (show (decide (S.name.size ≤ 100) && decide (P.length ≤ 40)) = false by rw [decide_eq_false hp, Bool.and_false])
      go_enter Try.func43, Try.ntmps43
      go_wp2_with fail
      go_ret
      exact ⟨ret_bool (by rw [HR.out]), M0.out⟩
  · have d1 : decide ((S.name.size : Int) ≤ 100) = false := decide_eq_false (by omega)
    have HR := Lib.hid (show (decide (S.name.size ≤ 100) && decide (P.length ≤ 40)) = false by rw [decide_eq_false hn, Bool.false_and])
    go_enter Try.func43, Try.ntmps43
    go_wp2_with fail
    go_ret
    exact ⟨ret_bool (by rw [HR.out]), M0.out⟩
theorem SenIn.mods0 {w w' : World} {S : Sen} {P : List Pt} (h : SenIn w S P) (M : Mods [] w w') : SenIn w' S P := ⟨h.rd.mods0 M, h.nums, h.name⟩
set_option maxRecDepth 100000 in
set_option maxHeartbeats 4000000 in
theorem sensorValid_walk (w : World) (S0 : Sen) (P0 : List Pt) (hS0 : SenIn w S0 P0) (v : Value) (L : List Int) (hv : Rd w v (i64s L)) (hb : ∀ i, -9223372036854775808 ≤ L.getD i 0 ∧ L.getD i 0 ≤ 9223372036854775807) :
    Calls Try.prog 14 #[.agg S0.cells, v] w fun e w' => e = .returned (.bool true) ∧ Mods [] w w' := by
  have HI := Lib.hid hS0
  have BB := Lib.hid (SenBox.new w S0)
  have M0 := Lib.hid ((Mods.refl (S := []) (w := w)).alloc (.cells S0.cells 32))
  clear hS0
  by_cases hl0 : S0.name.size ≤ 100 ∧ P0.length ≤ 40
  · have HLT := Lib.hid (show (decide (S0.name.size ≤ 100) && decide (P0.length ≤ 40)) = true by rw [decide_eq_true hl0.1, decide_eq_true hl0.2]; rfl)
    have HL := Lib.hid (light_ok w v L hv)
    have HV := Lib.hid hv
    have HB := Lib.hid hb
    clear hv hb
    by_cases hl : L.length ≤ 600
    · have HLL := Lib.hid (decide_eq_true hl)
      have HLM := Lib.hid (fun W (M : Mods [] w W) => light_ok W v L (HV.out.mods0 M))
      go_enter Try.func14, Try.ntmps14
      go_wp2_with (refine wpList_load_sen rfl (.tmp 2) rfl BB.out (by rfl) ?_)
      refine (sLight_ok _ S0 P0 (HI.out.mods0 M0.out)).mono ?_
      rw [HLT.out]
      rintro e w0 ⟨rfl, Mx⟩
      have HX := Lib.hid (M0.out.trans Mx)
      have HB0 := Lib.hid (BB.out.mods0 Mx)
      clear Mx
      go_wp2_with fail
      refine (HLM.out _ HX.out).mono ?_
      rw [HLL.out]
      rintro e w' ⟨rfl, rfl⟩
      go_wp2_with fail
      refine (roll_ok _ v L (HV.out.mods0 HX.out) (by omega) HB.out).mono ?_
      rintro e w1 ⟨rfl, D1, M1, z1⟩
      have hgb := lt_of_block HB0.out.blk
      have hwb := HX.out.size
      have HM1 := Lib.hid (HX.out.trans M1)
      have HB1 := Lib.hid (HB0.out.mods0 M1)
      generalize w0.heap.size = b at D1 z1 hgb hwb ⊢
      generalize w.heap.size = g0 at HB1 HB0 BB hgb ⊢
      have HD1 := Lib.hid (D1.drewN 1)
      clear D1 M1
      go_wp2_with fail
      refine heldStart (S := fun W => W.heap[g0]? = some (.cells S0.cells 32 (0, 0))) 10 rfl (by kernel_rfl) HB1.out.blk (fun hHeld => ?_)
      refine takeD (i := 0) (d := 19) (v := .agg S0.cells) rfl rfl (by kernel_rfl) (by kernel_rfl) (by kernel_rfl) (fun _ _ _ h => h) (yieldsIf_load_row rfl 32 (.tmp 2) rfl g0 rfl 32 S0.cells (0, 0) _ (fun w h=>h) Try.underlying32 rfl S0.infoS) hHeld ?_
      simp only [List.setIfInBounds_toArray, List.set_cons_zero, List.set_cons_succ]
      refine takeD (i := 1) (d := 20) (v := ?_) rfl rfl (by kernel_rfl) (by kernel_rfl) (by kernel_rfl) (fun _ _ _ h => h) (Or.inl ⟨by rfl, ?_⟩) hHeld ?_
      rotate_left 1
      · (intro w hSw; (try dsimp only at hSw); go_simp; (try with_reducible rfl))
      simp only [List.setIfInBounds_toArray, List.set_cons_zero, List.set_cons_succ]
      refine takeD (i := 3) (d := 22) (v := ?_) rfl rfl (by kernel_rfl) (by kernel_rfl) (by kernel_rfl) (fun _ _ _ h => h) (Or.inl ⟨by rfl, ?_⟩) hHeld ?_
      rotate_left 1
      · (intro w hSw; (try dsimp only at hSw); go_simp; (try with_reducible rfl))
      simp only [List.setIfInBounds_toArray, List.set_cons_zero, List.set_cons_succ]
      refine takeD (i := 5) (d := 24) (v := ?_) rfl rfl (by kernel_rfl) (by kernel_rfl) (by kernel_rfl) (fun _ _ _ h => h) (Or.inl ⟨by rfl, ?_⟩) hHeld ?_
      rotate_left 1
      · (intro w hSw; (try dsimp only at hSw); go_simp; (try with_reducible rfl))
      simp only [List.setIfInBounds_toArray, List.set_cons_zero, List.set_cons_succ]
      refine takeD (i := 9) (d := 28) (v := ?_) rfl rfl (by kernel_rfl) (by kernel_rfl) (by kernel_rfl) (fun _ _ _ h => h) (Or.inl ⟨by rfl, ?_⟩) hHeld ?_
      rotate_left 1
      · (intro w hSw; (try dsimp only at hSw); go_simp; (try with_reducible rfl))
      simp only [List.setIfInBounds_toArray, List.set_cons_zero, List.set_cons_succ]
      refine wpAnyH_ready (rs := [2]) (by kernel_rfl) (by simp) ?_
      refine AllReadyH.cons rfl (fun K hK => ?_) AllReadyH.nil
      go_simp
      go_wp2_with (go_at_call 45; refine (sensor_ok _ b v L 0 HD1.out 1 (by omega)).mono ?_; rintro e w2 ⟨S1, P1, n2, rfl, IS1, VS1, OP1, PL1, SN1, D2, M2⟩)
      refine hK.out _ _ ?_ (fun hHeld => ?_)
      · exact M2.heap hHeld (by simp;omega)
      clear hK K
      have HM2 := Lib.hid ((HM1.out.drewN 1).comp M2 (fun q hq => by simp at hq; subst hq; exact .inr hwb))
      have HD2 := Lib.hid D2
      have HI1 := Lib.hid IS1
      have HF1 := Lib.hid (show ∀ q, S1.conv.pts.ownBlock = some q → q ≠ b from fun q hq => by have h1 := (OP1.own q hq).1; have h2 : w1.heap.size ≤ q := h1; omega)
      clear D2 M2 IS1 VS1 OP1 SN1
      refine wpAnyH_ready (rs := [4]) (by kernel_rfl) (by simp) ?_
      refine AllReadyH.cons rfl (fun K hK => ?_) AllReadyH.nil
      go_simp
      go_wp2_with (go_at_call 24; refine (oddSensor_ok _ b v L n2 HD2.out).mono ?_; rintro e w3 ⟨S2, P2, n3, rfl, IS2, OP2, PL2, D3, M3⟩)
      refine hK.out _ _ ?_ (fun hHeld => ?_)
      · exact M3.heap hHeld (by simp;omega)
      clear hK K
      have HI1 := Lib.hid (HI1.out.mods M3 (fun _ q hq => by simpa using HF1.out q hq))
      have HI2 := Lib.hid IS2
      have HM3 := Lib.hid (HM2.out.comp M3 (fun q hq => by simp at hq; subst hq; exact .inr hwb))
      have HF2 := Lib.hid (show ∀ q, S2.conv.pts.ownBlock = some q → q ≠ b from fun q hq => by have h1 := (OP2.own q hq).1; have h2 := HD2.out.lt; omega)
      have HD3 := Lib.hid D3
      clear D3 M3 IS2 OP2
      refine wpAnyH_ready (rs := [6]) (by kernel_rfl) (by simp) ?_
      refine AllReadyH.cons rfl (fun K hK => ?_) AllReadyH.nil
      go_simp
      go_wp2_with (go_at_call 24; refine (oddSensor_ok _ b v L n3 HD3.out).mono ?_; rintro e w4 ⟨S3, P3, n4, rfl, IS3, OP3, PL3, D4, M4⟩)
      refine hK.out _ _ ?_ (fun hHeld => ?_)
      · exact M4.heap hHeld (by simp;omega)
      clear hK K
      have HI1 := Lib.hid (HI1.out.mods M4 (fun _ q hq => by simpa using HF1.out q hq))
      have HI2 := Lib.hid (HI2.out.mods M4 (fun _ q hq => by simpa using HF2.out q hq))
      have HI3 := Lib.hid IS3
      have HM4 := Lib.hid (HM3.out.comp M4 (fun q hq => by simp at hq; subst hq; exact .inr hwb))
      have HI0 := Lib.hid ((HI.out.is (by omega) (by omega)).mods0 HM4.out)
      clear D4 M4 IS3 OP3
      refine wpAnyH_ready (rs := [7]) (by kernel_rfl) (by simp) ?_
      refine AllReadyH.cons rfl (fun K hK => ?_) AllReadyH.nil
      rw [if_pos (by rfl)]
      refine wp_four (.tmp 19) (.tmp 21) (.tmp 23) (.tmp 25) rfl 26 rfl S0 S1 S2 S3 rfl rfl rfl rfl ?_
      intro cells hcells
      refine hK.out _ _ ?_ (fun hHeld => ?_)
      · exact heap_alloc hHeld
      clear hK K
      simp only [List.setIfInBounds_toArray, List.set_cons_zero, List.set_cons_succ]
      refine takeD (i := 8) (d := 27) (v := ?_) rfl rfl (by kernel_rfl) (by kernel_rfl) (by kernel_rfl) (fun _ _ _ h => h) (Or.inl ⟨by rfl, ?_⟩) hHeld ?_
      rotate_left 1
      · (intro w hSw; (try dsimp only at hSw); go_simp; (try with_reducible rfl))
      simp only [List.setIfInBounds_toArray, List.set_cons_zero, List.set_cons_succ]
      refine wpAnyH_done (by kernel_rfl) ?_ _
      have M5 := (Mods.refl (S := []) (w := w4)).alloc (.cells cells 32)
      have R5 := heap_alloc_new w4 (.cells cells 32)
      have HI0 := Lib.hid (HI0.out.mods0 M5)
      have HI1 := Lib.hid (HI1.out.mods0 M5)
      have HI2 := Lib.hid (HI2.out.mods0 M5)
      have HI3 := Lib.hid (HI3.out.mods0 M5)
      have HM5 := Lib.hid (HM4.out.trans M5)
      have HR5 := Lib.hid R5
      generalize w4.alloc (.cells cells 32) = w5 at HI0 HI1 HI2 HI3 HM5 HR5 ⊢
      generalize w4.heap.size = gx at HR5 ⊢
      clear M5 R5 hHeld HM4 HM3 HM2 HM1 HD1 HD2 HD3 HB1 HB0 BB M0 HI HLM HV HF1 HF2
      have HSQ : Hid (∀ q, q < 4 → ∃ S P, IsSen w5 S P ∧ ∀ j, j < 28 → cells[q * 28 + j]? = S.cells[j]?) := Lib.hid (fun q hq => by
        match q, hq with
        | 0, _ => exact ⟨S0, P0, HI0.out, fun j hj => (hcells j hj).1⟩
        | 1, _ => exact ⟨S1, P1, HI1.out, fun j hj => (hcells j hj).2.1⟩
        | 2, _ => exact ⟨S2, P2, HI2.out, fun j hj => (hcells j hj).2.2.1⟩
        | 3, _ => exact ⟨S3, P3, HI3.out, fun j hj => (hcells j hj).2.2.2⟩)
      clear hcells HI0 HI1 HI2 HI3 hgb hwb
      go_wp2_with fail
      go_loopw [28] (fun i wr => ∃ q : Nat, q ≤ 4 ∧ i = .int .i64 q ∧ Mods [] w5 wr) (fun i _ => 4 - (intOf i).toNat)
      case atStart => exact ⟨0, by omega, rfl, Mods.refl⟩
      case round =>
        obtain ⟨q, hq, rfl, M⟩ := hrel
        by_cases hq4 : q < 4
        · obtain ⟨S, P, IS, hg⟩ := HSQ.out q hq4
          have hone := Lib.hid IS.conv.rd.one
          have HIS := Lib.hid (IS.mods0 M)
          have HRG := Lib.hid (show wr.rangeAt gx (q * 28) S.cells.toList from fun j u hu => by
            have hj : j < 28 := (List.getElem?_eq_some_iff.1 hu).1
            have h4 : w5.cell? ⟨gx, q * 28 + j, none⟩ = some u := by rw [cell_blk HR5.out, hg j hj, ← hu]; simp
            exact M.cell h4 (by simp))
          have HM := Lib.hid M
          have i1 : (0 : Int) ≤ (q : Int) := by omega
          have i2 : (q : Int) < 4 := by omega
          clear M IS hg
          go_wp2_with (first
            | (refine wpList_store_row (cs := S.cells) rfl 32 (.tmp 7) (.tmp 31) rfl (heap_alloc_new wr _) (by rfl) (by rfl) (by rfl) (Sen.infoS _) (Sen.one _ hone.out) ?_; intro w6 R6 M6; have HB6 := Lib.hid (show SenBox w6 wr.heap.size S from ⟨R6⟩); have HF6 := Lib.hid (fresh M6); clear R6 M6)
            | (refine wpList_load_mid rfl 32 (.tmp 30) rfl gx (q * 28) (by rfl) S.cells.toList _ HRG.out Try.underlying32 rfl (Sen.infoS S) ?_))
          generalize wr.heap.size = g7 at HB6 ⊢
          have HI6 := Lib.hid (HIS.out.mods0 HF6.out)
          have HM6 := Lib.hid (HM.out.trans HF6.out)
          try dsimp only [Act.put]
          refine heldStart (S := fun W => W.heap[g7]? = some (.cells S.cells 32 (0, 0))) 5 rfl (by kernel_rfl) HB6.out.blk (fun hHeld => ?_)
          refine takeD (i := 0) (d := 32) (v := .agg S.cells) rfl rfl (by kernel_rfl) (by kernel_rfl) (by kernel_rfl) (fun _ _ _ h => h) (yieldsIf_load_row rfl 32 (.tmp 7) rfl g7 rfl 32 S.cells (0, 0) _ (fun w h => h) Try.underlying32 rfl S.infoS) hHeld ?_
          simp only [List.setIfInBounds_toArray, List.set_cons_zero, List.set_cons_succ]
          refine takeD (i := 2) (d := 34) (v := .agg S.cells) rfl rfl (by kernel_rfl) (by kernel_rfl) (by kernel_rfl) (fun _ _ _ h => h) (yieldsIf_load_row rfl 32 (.tmp 7) rfl g7 rfl 32 S.cells (0, 0) _ (fun w h=>h) Try.underlying32 rfl S.infoS) hHeld ?_
          simp only [List.setIfInBounds_toArray, List.set_cons_zero, List.set_cons_succ]
          refine wpAnyH_ready (rs := [1]) (by kernel_rfl) (by simp) ?_
          refine AllReadyH.cons rfl (fun K hK => ?_) AllReadyH.nil
          go_simp
          go_wp2_with (go_at_call 46; refine (valid_ok _ S P (HI6.out.mods0 (Mods.refl.drewN 1))).mono ?_; rintro e w8 ⟨rfl, M8⟩)
          refine hK.out _ _ ?_ (fun hHeld => ?_)
          · exact M8.heap hHeld (by simp)
          clear hK K
          have HI8 := Lib.hid ((HI6.out.mods0 (Mods.refl.drewN 1)).mods0 M8)
          have HM8 := Lib.hid ((HM6.out.drewN 1).trans M8)
          clear M8
          refine wpAnyH_ready (rs := [3]) (by kernel_rfl) (by simp) ?_
          refine AllReadyH.cons rfl (fun K hK => ?_) AllReadyH.nil
          go_simp
          go_wp2_with (go_at_call 47; refine (refValid_ok _ S P HI8.out).mono ?_; rintro e w9 ⟨rfl, M9⟩)
          refine hK.out _ _ ?_ (fun hHeld => ?_)
          · exact M9.heap hHeld (by simp)
          clear hK K
          have HM9 := Lib.hid (HM8.out.trans M9)
          clear M9
          generalize validB S P = vb
          have hvb : (vb != vb) = false := by cases vb <;> rfl
          refine takeD (i := 4) (d := 36) (v := ?_) rfl rfl (by kernel_rfl) (by kernel_rfl) (by kernel_rfl) (fun _ _ _ h => h) (Or.inl ⟨by rfl, ?_⟩) hHeld ?_
          rotate_left 1
          · (intro w hSw; (try dsimp only at hSw); go_simp; (try with_reducible rfl))
          simp only [List.setIfInBounds_toArray, List.set_cons_zero, List.set_cons_succ]
          refine wpAnyH_done (by kernel_rfl) ?_ _
          clear hHeld
          go_wp2
          exact ⟨⟨q + 1, by omega, by go_num, HM9.out⟩, by simp only [intOf]; omega⟩
        · have HX := Lib.hid (HM5.out.trans M)
          clear M
          go_wp2_with fail
          refine (awakeS_ok _).mono ?_
          rintro e w1 ⟨rfl, M1⟩
          go_wp2
          go_ret
          exact ⟨rfl, HX.out.trans M1⟩
    · have HLL := Lib.hid (decide_eq_false hl)
      have HLM := Lib.hid (fun W (M : Mods [] w W) => light_ok W v L (HV.out.mods0 M))
      go_enter Try.func14, Try.ntmps14
      go_wp2_with (refine wpList_load_sen rfl (.tmp 2) rfl BB.out (by rfl) ?_)
      refine (sLight_ok _ S0 P0 (HI.out.mods0 M0.out)).mono ?_
      rw [HLT.out]
      rintro e w0 ⟨rfl, Mx⟩
      have HX := Lib.hid (M0.out.trans Mx)
      have HB0 := Lib.hid (BB.out.mods0 Mx)
      clear Mx
      go_wp2_with fail
      refine (HLM.out _ HX.out).mono ?_
      rw [HLL.out]
      rintro e w' ⟨rfl, rfl⟩
      go_wp2_with fail
      refine (awakeS_ok _).mono ?_
      rintro e w1 ⟨rfl, M1⟩
      go_wp2
      go_ret
      exact ⟨rfl, HX.out.trans M1⟩
  · have HLT := Lib.hid (show (decide (S0.name.size ≤ 100) && decide (P0.length ≤ 40)) = false by
      by_cases h : S0.name.size ≤ 100
      · rw [decide_eq_false (fun h2 => hl0 ⟨h, h2⟩), Bool.and_false]
      · rw [decide_eq_false h, Bool.false_and])
    go_enter Try.func14, Try.ntmps14
    go_wp2_with (refine wpList_load_sen rfl (.tmp 2) rfl BB.out (by rfl) ?_)
    refine (sLight_ok _ S0 P0 (HI.out.mods0 M0.out)).mono ?_
    rw [HLT.out]
    rintro e w0 ⟨rfl, Mx⟩
    have HX := Lib.hid (M0.out.trans Mx)
    have HB0 := Lib.hid (BB.out.mods0 Mx)
    clear Mx
    go_wp2_with fail
    refine (awakeS_ok _).mono ?_
    rintro e w1 ⟨rfl, M1⟩
    go_wp2
    go_ret
    exact ⟨rfl, HX.out.trans M1⟩
end Go.Proofs.Ytokokojmeepoeaa
