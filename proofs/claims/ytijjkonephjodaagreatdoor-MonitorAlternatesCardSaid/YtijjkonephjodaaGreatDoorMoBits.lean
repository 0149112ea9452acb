/- monitor.bits, the reference's Bits and CheckSensors: contracts. -/
import Derived.Test.YtijjkonephjodaaGreatDoorMoS
import Derived.Test.YtijjkonephjodaaGreatDoorJoAC
namespace Go.Proofs.YtijjkonephjodaaGreatDoor
open Go.RowKit
set_option linter.unusedVariables false
set_option linter.unusedSimpArgs false
/-- The bits that the state of a sensor may have. -/
def bitN (S : Sen) : Nat := if S.disc then S.states else S.mask
theorem bitN_valid {S : Sen} {P : List Pt} (h : validB S P = true) : S.states ||| S.mask = bitN S := by
  unfold validB at h
  unfold bitN
  simp only [Bool.and_eq_true] at h
  cases hd : S.disc with
  | true =>
    rw [hd] at h
    have h2 : discB S P = true := h.2
    unfold discB at h2
    simp only [Bool.and_eq_true, decide_eq_true_eq] at h2
    rw [h2.1.1.2.1]
    simp
  | false =>
    rw [hd] at h
    have h2 : analogB S P = true := h.2
    unfold analogB at h2
    simp only [Bool.and_eq_true, decide_eq_true_eq] at h2
    rw [h2.1.1.1.2]
    simp
theorem bitN_lt {w : World} {S : Sen} {P : List Pt} (h : IsSen w S P) : bitN S < 65536 := by
  unfold bitN
  have := h.states
  have := h.mask
  split <;> omega
set_option maxHeartbeats 1000000 in
theorem bits_ok (w : World) (S : Sen) (P : List Pt) (hS : IsSen w S P) (hv : validB S P = true) :
    Calls Tryz.prog 67 #[.agg S.cells] w fun e w' => e = .returned (.int .u16 (bitN S : Nat)) ∧ Mods [] w w' := by
  have M0 := Lib.hid ((Mods.refl (S := []) (w := w)).alloc (.cells S.cells 40))
  have c23 := (SenBox.new w S).rest.2.2.1
  have c14 := (SenBox.new w S).lims.1
  have h1 := hS.states
  have h2 := hS.mask
  have HB := Lib.hid (bitN_valid hv)
  have hw : IntKind.u16.wrap ((S.mask : Nat) : Int) = ((S.mask : Nat) : Int) := by rw [IntKind.wrap_u16]; omega
  have ho := u16_or_nat S.states S.mask h1 (by omega)
  rw [HB.out] at ho
  generalize bitN S = r at ho ⊢
  clear hS hv HB
  go_enter Tryz.func67, Tryz.ntmps67
  go_wp2_with fail
  go_ret
  exact ⟨rfl, M0.out⟩
set_option maxHeartbeats 1000000 in
theorem refBits_ok (w : World) (S : Sen) (P : List Pt) (hS : IsSen w S P) :
    Calls Tryz.prog 70 #[.agg S.cells] w fun e w' => e = .returned (.int .u16 (bitN S : Nat)) ∧ Mods [] w w' := by
  have M0 := Lib.hid ((Mods.refl (S := []) (w := w)).alloc (.cells S.cells 40))
  have c23 := (SenBox.new w S).rest.2.2.1
  have c14 := (SenBox.new w S).lims.1
  have c6 := (SenBox.new w S).head.2.2.2.2.2.2
  have h2 := hS.mask
  have hw : IntKind.u16.wrap ((S.mask : Nat) : Int) = ((S.mask : Nat) : Int) := by rw [IntKind.wrap_u16]; omega
  cases hd : S.disc with
  | true =>
    have HB := Lib.hid (show bitN S = S.states from by unfold bitN; rw [hd]; rfl)
    rw [hd] at c6
    clear hS hd
    go_enter Tryz.func70, Tryz.ntmps70
    go_wp2_with fail
    go_ret
    exact ⟨ret_int (by rw [HB.out]), M0.out⟩
  | false =>
    have HB := Lib.hid (show bitN S = S.mask from by unfold bitN; rw [hd]; rfl)
    rw [hd] at c6
    clear hS hd
    go_enter Tryz.func70, Tryz.ntmps70
    go_wp2_with fail
    go_ret
    exact ⟨ret_int (by rw [HB.out]), M0.out⟩
set_option maxRecDepth 100000 in
set_option maxHeartbeats 4000000 in
theorem refChkS_ok (w : World) (v : Value) (l : List SenX) (hv : RdSens w v l) :
    Calls Tryz.prog 62 #[v] w fun e w' => e = .returned (.int .i64 (chkS l)) ∧ Mods [] w w' := by
  obtain ⟨ad, cap, rfl⟩ := hv.rd.len
  have hcap : l.length ≤ 9223372036854775807 := by obtain ⟨_, _, _, h1, h2, _⟩ := hv.rd; exact Nat.le_trans h1 h2
  have HV := Lib.hid hv
  clear hv
  by_cases hl : 32 < l.length
  · have d1 : decide ((32 : Int) < (l.length : Int)) = true := decide_eq_true (by omega)
    have HR := Lib.hid (show chkS l = 3 from by unfold chkS; rw [if_pos hl])
    clear hl
    go_enter Tryz.func62, Tryz.ntmps62
    go_wp2_with fail
    go_ret
    exact ⟨ret_int HR.out.symm, Mods.refl⟩
  · have d1 : decide ((32 : Int) < (l.length : Int)) = false := decide_eq_false (by omega)
    have HL := Lib.hid hl
    have hl32 : ((l.length : Nat) : Int) ≤ 32 := by omega
    clear hl
    go_enter Tryz.func62, Tryz.ntmps62
    go_wp2_with fail
    go_loopw [3] (fun i wr => ∃ k : Nat, k ≤ l.length ∧ i = .int .i64 (k : Nat) ∧ Mods [] w wr ∧ Hid (∀ j, j < k → goodS l j = true)) (fun i _ => l.length - (intOf i).toNat)
    case atStart => exact ⟨0, Nat.zero_le _, rfl, Mods.refl, Lib.hid (fun j hj => by omega)⟩
    case round =>
      obtain ⟨k, hk, rfl, hM, hG⟩ := hrel
      have i0 : (0 : Int) ≤ (k : Int) := by omega
      have HM := Lib.hid hM
      clear hM
      by_cases hlt : k < l.length
      · have i1 : (k : Int) < (l.length : Int) := by omega
        have HK := Lib.hid (HV.out.mods0 HM.out)
        obtain ⟨bb, off, cap', hv2, hc1, hc2⟩ := HK.out.at (by omega)
        injection hv2 with hv3 hv5 hv4
        subst hv3 hv4
        clear hv5
        have HRG := Lib.hid (HK.out.range hlt)
        have HIS := Lib.hid (HK.out.is k hlt)
        have HGK := Lib.hid (show goodS l k = (validB (l.getD k default).S (l.getD k default).P && (decide (k = 0) || decide (numS l (k - 1) < numS l k))) from rfl)
        have HN1 := Lib.hid (show numS l k = (l.getD k default).S.number from rfl)
        have HPV := Lib.hid (fun (W : World) (M : Mods [] wr W) (h0 : 0 < k) => show W.cell? ⟨bb, off + (k - 1) * 28, none⟩ = some (.int .u8 (numS l (k - 1) : Nat)) from range_num ((HK.out.mods0 M).range (show k - 1 < l.length by omega)))
        have HBAD := Lib.hid (fun h : goodS l k = false => show chkS l = 1 from by
          unfold chkS
          rw [if_neg HL.out, if_neg (by
            intro h2
            rw [List.all_eq_true] at h2
            rw [h2 k (List.mem_range.2 hlt)] at h
            cases h)])
        generalize (l.getD k default).P = P at HIS HGK
        generalize (l.getD k default).S = S at HRG HIS HGK HN1
        have HN0 := Lib.hid (range_num HRG.out)
        go_upto_region 6 with (fail)
        go_cut [36] (fun u wx => u = .bool (!goodS l k) ∧ Mods [] wr wx)
        case first => as_aux_lemma =>
          cases hvb : validB S P with
          | false =>
            have HVB := Lib.hid hvb
            have HGF := Lib.hid (show goodS l k = false from by rw [HGK.out, hvb]; rfl)
            clear hvb
            refine heldStart (S := fun W => Mods [] wr W) 24 rfl (by kernel_rfl) Mods.refl.drew (fun hHeld => ?_)
            refine takeD (i := 0) (d := 13) (v := ?_) rfl rfl (by kernel_rfl) (by kernel_rfl) (by kernel_rfl) (fun _ _ _ h => h) (Or.inl ⟨by rfl, ?_⟩) hHeld ?_
            rotate_left 1
            · (intro w hSw; (try dsimp only at hSw); go_simp; (try with_reducible rfl))
            simp only [List.setIfInBounds_toArray, List.set_cons_zero, List.set_cons_succ]
            refine takeD (i := 1) (d := 14) (v := ?_) rfl rfl (by kernel_rfl) (by kernel_rfl) (by kernel_rfl) (fun _ _ _ h => h) (Or.inl ⟨by rfl, ?_⟩) hHeld ?_
            rotate_left 1
            · (intro w hSw; (try dsimp only at hSw); go_simp; (try with_reducible rfl))
            simp only [List.setIfInBounds_toArray, List.set_cons_zero, List.set_cons_succ]
            refine takeD (i := 2) (d := 15) (v := ?_) rfl rfl (by kernel_rfl) (by kernel_rfl) (by kernel_rfl) (fun _ _ _ h => h) (Or.inl ⟨by rfl, ?_⟩) hHeld ?_
            rotate_left 1
            · (intro w hSw; (try dsimp only at hSw); go_simp; (try with_reducible rfl))
            simp only [List.setIfInBounds_toArray, List.set_cons_zero, List.set_cons_succ]
            refine takeD (i := 3) (d := 16) (v := .agg S.cells.toList.toArray) rfl rfl (by kernel_rfl) (by kernel_rfl) (by kernel_rfl) (fun _ _ _ h => h) (yieldsIf_load_mid (by rfl) 40 (.tmp 15) rfl bb (off+k*28) rfl S.cells.toList _ (fun W h j u hu => h.cell (HRG.out j u hu) (by simp)) Tryz.underlying40 rfl (Sen.infoS S)) hHeld ?_
            simp only [List.setIfInBounds_toArray, List.set_cons_zero, List.set_cons_succ]
            refine wpAnyH_ready (rs := [4]) (by kernel_rfl) (by simp) ?_
            refine AllReadyH.cons rfl (fun K hK => ?_) AllReadyH.nil
            go_simp
            go_wp2_with (go_at_call 99; refine (refValid_ok _ S P (HIS.out.mods0 hHeld)).mono ?_; rw [HVB.out]; rintro e w2 ⟨rfl, M2⟩)
            refine hK.out _ _ ?_ (fun hHeld => ?_)
            · exact hHeld.trans M2
            clear hK K
            refine takeD (i := 5) (d := 18) (v := ?_) rfl rfl (by kernel_rfl) (by kernel_rfl) (by kernel_rfl) (fun _ _ _ h => h) (Or.inl ⟨by rfl, ?_⟩) hHeld ?_
            rotate_left 1
            · (intro w hSw; (try dsimp only at hSw); go_simp; (try with_reducible rfl))
            simp only [List.setIfInBounds_toArray, List.set_cons_zero, List.set_cons_succ]
            refine takeD (i := 6) (d := 19) (v := ?_) rfl rfl (by kernel_rfl) (by kernel_rfl) (by kernel_rfl) (fun _ _ _ h => h) (Or.inl ⟨by rfl, ?_⟩) hHeld ?_
            rotate_left 1
            · (intro w hSw; (try dsimp only at hSw); go_simp; (try with_reducible rfl))
            simp only [List.setIfInBounds_toArray, List.set_cons_zero, List.set_cons_succ]
            refine takeD (i := 7) (d := 20) (v := undef) rfl rfl (by kernel_rfl) (by kernel_rfl) (by kernel_rfl) (fun _ _ _ h => h) (Or.inr ⟨by rfl, rfl⟩) hHeld ?_
            simp only [List.setIfInBounds_toArray, List.set_cons_zero, List.set_cons_succ]
            refine takeD (i := 8) (d := 21) (v := undef) rfl rfl (by kernel_rfl) (by kernel_rfl) (by kernel_rfl) (fun _ _ _ h => h) (Or.inr ⟨by rfl, rfl⟩) hHeld ?_
            simp only [List.setIfInBounds_toArray, List.set_cons_zero, List.set_cons_succ]
            refine takeD (i := 9) (d := 22) (v := undef) rfl rfl (by kernel_rfl) (by kernel_rfl) (by kernel_rfl) (fun _ _ _ h => h) (Or.inr ⟨by rfl, rfl⟩) hHeld ?_
            simp only [List.setIfInBounds_toArray, List.set_cons_zero, List.set_cons_succ]
            refine takeD (i := 10) (d := 23) (v := undef) rfl rfl (by kernel_rfl) (by kernel_rfl) (by kernel_rfl) (fun _ _ _ h => h) (Or.inr ⟨by rfl, rfl⟩) hHeld ?_
            simp only [List.setIfInBounds_toArray, List.set_cons_zero, List.set_cons_succ]
            refine takeD (i := 11) (d := 24) (v := undef) rfl rfl (by kernel_rfl) (by kernel_rfl) (by kernel_rfl) (fun _ _ _ h => h) (Or.inr ⟨by rfl, rfl⟩) hHeld ?_
            simp only [List.setIfInBounds_toArray, List.set_cons_zero, List.set_cons_succ]
            refine takeD (i := 12) (d := 25) (v := undef) rfl rfl (by kernel_rfl) (by kernel_rfl) (by kernel_rfl) (fun _ _ _ h => h) (Or.inr ⟨by rfl, rfl⟩) hHeld ?_
            simp only [List.setIfInBounds_toArray, List.set_cons_zero, List.set_cons_succ]
            refine takeD (i := 13) (d := 26) (v := undef) rfl rfl (by kernel_rfl) (by kernel_rfl) (by kernel_rfl) (fun _ _ _ h => h) (Or.inr ⟨by rfl, rfl⟩) hHeld ?_
            simp only [List.setIfInBounds_toArray, List.set_cons_zero, List.set_cons_succ]
            refine takeD (i := 14) (d := 27) (v := undef) rfl rfl (by kernel_rfl) (by kernel_rfl) (by kernel_rfl) (fun _ _ _ h => h) (Or.inr ⟨by rfl, rfl⟩) hHeld ?_
            simp only [List.setIfInBounds_toArray, List.set_cons_zero, List.set_cons_succ]
            refine takeD (i := 15) (d := 28) (v := undef) rfl rfl (by kernel_rfl) (by kernel_rfl) (by kernel_rfl) (fun _ _ _ h => h) (Or.inr ⟨by rfl, rfl⟩) hHeld ?_
            simp only [List.setIfInBounds_toArray, List.set_cons_zero, List.set_cons_succ]
            refine takeD (i := 16) (d := 29) (v := undef) rfl rfl (by kernel_rfl) (by kernel_rfl) (by kernel_rfl) (fun _ _ _ h => h) (Or.inr ⟨by rfl, rfl⟩) hHeld ?_
            simp only [List.setIfInBounds_toArray, List.set_cons_zero, List.set_cons_succ]
            refine takeD (i := 17) (d := 30) (v := undef) rfl rfl (by kernel_rfl) (by kernel_rfl) (by kernel_rfl) (fun _ _ _ h => h) (Or.inr ⟨by rfl, rfl⟩) hHeld ?_
            simp only [List.setIfInBounds_toArray, List.set_cons_zero, List.set_cons_succ]
            refine takeD (i := 18) (d := 31) (v := undef) rfl rfl (by kernel_rfl) (by kernel_rfl) (by kernel_rfl) (fun _ _ _ h => h) (Or.inr ⟨by rfl, rfl⟩) hHeld ?_
            simp only [List.setIfInBounds_toArray, List.set_cons_zero, List.set_cons_succ]
            refine takeD (i := 19) (d := 32) (v := undef) rfl rfl (by kernel_rfl) (by kernel_rfl) (by kernel_rfl) (fun _ _ _ h => h) (Or.inr ⟨by rfl, rfl⟩) hHeld ?_
            simp only [List.setIfInBounds_toArray, List.set_cons_zero, List.set_cons_succ]
            refine takeD (i := 20) (d := 33) (v := undef) rfl rfl (by kernel_rfl) (by kernel_rfl) (by kernel_rfl) (fun _ _ _ h => h) (Or.inr ⟨by rfl, rfl⟩) hHeld ?_
            simp only [List.setIfInBounds_toArray, List.set_cons_zero, List.set_cons_succ]
            refine takeD (i := 21) (d := 34) (v := undef) rfl rfl (by kernel_rfl) (by kernel_rfl) (by kernel_rfl) (fun _ _ _ h => h) (Or.inr ⟨by rfl, rfl⟩) hHeld ?_
            simp only [List.setIfInBounds_toArray, List.set_cons_zero, List.set_cons_succ]
            refine takeD (i := 22) (d := 35) (v := undef) rfl rfl (by kernel_rfl) (by kernel_rfl) (by kernel_rfl) (fun _ _ _ h => h) (Or.inr ⟨by rfl, rfl⟩) hHeld ?_
            simp only [List.setIfInBounds_toArray, List.set_cons_zero, List.set_cons_succ]
            refine takeD (i := 23) (d := 36) (v := ?_) rfl rfl (by kernel_rfl) (by kernel_rfl) (by kernel_rfl) (fun _ _ _ h => h) (Or.inl ⟨by rfl, ?_⟩) hHeld ?_
            rotate_left 1
            · (intro w hSw; (try dsimp only at hSw); go_simp; (try with_reducible rfl))
            simp only [List.setIfInBounds_toArray, List.set_cons_zero, List.set_cons_succ]
            refine wpAnyH_done (by kernel_rfl) ?_ _
            go_wp2_with fail
            go_meet
            exact ⟨by rw [HGF.out]; rfl, hHeld⟩
          | true =>
            have HVB := Lib.hid hvb
            by_cases h0 : k = 0
            · subst h0
              have HGF := Lib.hid (show goodS l 0 = true from by rw [HGK.out, hvb]; rfl)
              clear hvb
              refine heldStart (S := fun W => Mods [] wr W) 24 rfl (by kernel_rfl) Mods.refl.drew (fun hHeld => ?_)
              refine takeD (i := 0) (d := 13) (v := ?_) rfl rfl (by kernel_rfl) (by kernel_rfl) (by kernel_rfl) (fun _ _ _ h => h) (Or.inl ⟨by rfl, ?_⟩) hHeld ?_
              rotate_left 1
              · (intro w hSw; (try dsimp only at hSw); go_simp; (try with_reducible rfl))
              simp only [List.setIfInBounds_toArray, List.set_cons_zero, List.set_cons_succ]
              refine takeD (i := 1) (d := 14) (v := ?_) rfl rfl (by kernel_rfl) (by kernel_rfl) (by kernel_rfl) (fun _ _ _ h => h) (Or.inl ⟨by rfl, ?_⟩) hHeld ?_
              rotate_left 1
              · (intro w hSw; (try dsimp only at hSw); go_simp; (try with_reducible rfl))
              simp only [List.setIfInBounds_toArray, List.set_cons_zero, List.set_cons_succ]
              refine takeD (i := 2) (d := 15) (v := ?_) rfl rfl (by kernel_rfl) (by kernel_rfl) (by kernel_rfl) (fun _ _ _ h => h) (Or.inl ⟨by rfl, ?_⟩) hHeld ?_
              rotate_left 1
              · (intro w hSw; (try dsimp only at hSw); go_simp; (try with_reducible rfl))
              simp only [List.setIfInBounds_toArray, List.set_cons_zero, List.set_cons_succ]
              refine takeD (i := 3) (d := 16) (v := .agg S.cells.toList.toArray) rfl rfl (by kernel_rfl) (by kernel_rfl) (by kernel_rfl) (fun _ _ _ h => h) (yieldsIf_load_mid (by rfl) 40 (.tmp 15) rfl bb (off+0*28) rfl S.cells.toList _ (fun W h j u hu => h.cell (HRG.out j u hu) (by simp)) Tryz.underlying40 rfl (Sen.infoS S)) hHeld ?_
              simp only [List.setIfInBounds_toArray, List.set_cons_zero, List.set_cons_succ]
              refine wpAnyH_ready (rs := [4]) (by kernel_rfl) (by simp) ?_
              refine AllReadyH.cons rfl (fun K hK => ?_) AllReadyH.nil
              go_simp
              go_wp2_with (go_at_call 99; refine (refValid_ok _ S P (HIS.out.mods0 hHeld)).mono ?_; rw [HVB.out]; rintro e w2 ⟨rfl, M2⟩)
              refine hK.out _ _ ?_ (fun hHeld => ?_)
              · exact hHeld.trans M2
              clear hK K
              refine takeD (i := 5) (d := 18) (v := ?_) rfl rfl (by kernel_rfl) (by kernel_rfl) (by kernel_rfl) (fun _ _ _ h => h) (Or.inl ⟨by rfl, ?_⟩) hHeld ?_
              rotate_left 1
              · (intro w hSw; (try dsimp only at hSw); go_simp; (try with_reducible rfl))
              simp only [List.setIfInBounds_toArray, List.set_cons_zero, List.set_cons_succ]
              refine takeD (i := 6) (d := 19) (v := ?_) rfl rfl (by kernel_rfl) (by kernel_rfl) (by kernel_rfl) (fun _ _ _ h => h) (Or.inl ⟨by rfl, ?_⟩) hHeld ?_
              rotate_left 1
              · (intro w hSw; (try dsimp only at hSw); go_simp; (try with_reducible rfl))
              simp only [List.setIfInBounds_toArray, List.set_cons_zero, List.set_cons_succ]
              refine takeD (i := 7) (d := 20) (v := ?_) rfl rfl (by kernel_rfl) (by kernel_rfl) (by kernel_rfl) (fun _ _ _ h => h) (Or.inl ⟨by rfl, ?_⟩) hHeld ?_
              rotate_left 1
              · (intro w hSw; (try dsimp only at hSw); go_simp; (try with_reducible rfl))
              simp only [List.setIfInBounds_toArray, List.set_cons_zero, List.set_cons_succ]
              refine takeD (i := 8) (d := 21) (v := ?_) rfl rfl (by kernel_rfl) (by kernel_rfl) (by kernel_rfl) (fun _ _ _ h => h) (Or.inl ⟨by rfl, ?_⟩) hHeld ?_
              rotate_left 1
              · (intro w hSw; (try dsimp only at hSw); go_simp; (try with_reducible rfl))
              simp only [List.setIfInBounds_toArray, List.set_cons_zero, List.set_cons_succ]
              refine takeD (i := 9) (d := 22) (v := ?_) rfl rfl (by kernel_rfl) (by kernel_rfl) (by kernel_rfl) (fun _ _ _ h => h) (Or.inl ⟨by rfl, ?_⟩) hHeld ?_
              rotate_left 1
              · (intro w hSw; (try dsimp only at hSw); go_simp; (try with_reducible rfl))
              simp only [List.setIfInBounds_toArray, List.set_cons_zero, List.set_cons_succ]
              refine takeD (i := 10) (d := 23) (v := undef) rfl rfl (by kernel_rfl) (by kernel_rfl) (by kernel_rfl) (fun _ _ _ h => h) (Or.inr ⟨by rfl, rfl⟩) hHeld ?_
              simp only [List.setIfInBounds_toArray, List.set_cons_zero, List.set_cons_succ]
              refine takeD (i := 11) (d := 24) (v := undef) rfl rfl (by kernel_rfl) (by kernel_rfl) (by kernel_rfl) (fun _ _ _ h => h) (Or.inr ⟨by rfl, rfl⟩) hHeld ?_
              simp only [List.setIfInBounds_toArray, List.set_cons_zero, List.set_cons_succ]
              refine takeD (i := 12) (d := 25) (v := undef) rfl rfl (by kernel_rfl) (by kernel_rfl) (by kernel_rfl) (fun _ _ _ h => h) (Or.inr ⟨by rfl, rfl⟩) hHeld ?_
              simp only [List.setIfInBounds_toArray, List.set_cons_zero, List.set_cons_succ]
              refine takeD (i := 13) (d := 26) (v := undef) rfl rfl (by kernel_rfl) (by kernel_rfl) (by kernel_rfl) (fun _ _ _ h => h) (Or.inr ⟨by rfl, rfl⟩) hHeld ?_
              simp only [List.setIfInBounds_toArray, List.set_cons_zero, List.set_cons_succ]
              refine takeD (i := 14) (d := 27) (v := undef) rfl rfl (by kernel_rfl) (by kernel_rfl) (by kernel_rfl) (fun _ _ _ h => h) (Or.inr ⟨by rfl, rfl⟩) hHeld ?_
              simp only [List.setIfInBounds_toArray, List.set_cons_zero, List.set_cons_succ]
              refine takeD (i := 15) (d := 28) (v := undef) rfl rfl (by kernel_rfl) (by kernel_rfl) (by kernel_rfl) (fun _ _ _ h => h) (Or.inr ⟨by rfl, rfl⟩) hHeld ?_
              simp only [List.setIfInBounds_toArray, List.set_cons_zero, List.set_cons_succ]
              refine takeD (i := 16) (d := 29) (v := undef) rfl rfl (by kernel_rfl) (by kernel_rfl) (by kernel_rfl) (fun _ _ _ h => h) (Or.inr ⟨by rfl, rfl⟩) hHeld ?_
              simp only [List.setIfInBounds_toArray, List.set_cons_zero, List.set_cons_succ]
              refine takeD (i := 17) (d := 30) (v := undef) rfl rfl (by kernel_rfl) (by kernel_rfl) (by kernel_rfl) (fun _ _ _ h => h) (Or.inr ⟨by rfl, rfl⟩) hHeld ?_
              simp only [List.setIfInBounds_toArray, List.set_cons_zero, List.set_cons_succ]
              refine takeD (i := 18) (d := 31) (v := undef) rfl rfl (by kernel_rfl) (by kernel_rfl) (by kernel_rfl) (fun _ _ _ h => h) (Or.inr ⟨by rfl, rfl⟩) hHeld ?_
              simp only [List.setIfInBounds_toArray, List.set_cons_zero, List.set_cons_succ]
              refine takeD (i := 19) (d := 32) (v := undef) rfl rfl (by kernel_rfl) (by kernel_rfl) (by kernel_rfl) (fun _ _ _ h => h) (Or.inr ⟨by rfl, rfl⟩) hHeld ?_
              simp only [List.setIfInBounds_toArray, List.set_cons_zero, List.set_cons_succ]
              refine takeD (i := 20) (d := 33) (v := undef) rfl rfl (by kernel_rfl) (by kernel_rfl) (by kernel_rfl) (fun _ _ _ h => h) (Or.inr ⟨by rfl, rfl⟩) hHeld ?_
              simp only [List.setIfInBounds_toArray, List.set_cons_zero, List.set_cons_succ]
              refine takeD (i := 21) (d := 34) (v := undef) rfl rfl (by kernel_rfl) (by kernel_rfl) (by kernel_rfl) (fun _ _ _ h => h) (Or.inr ⟨by rfl, rfl⟩) hHeld ?_
              simp only [List.setIfInBounds_toArray, List.set_cons_zero, List.set_cons_succ]
              refine takeD (i := 22) (d := 35) (v := ?_) rfl rfl (by kernel_rfl) (by kernel_rfl) (by kernel_rfl) (fun _ _ _ h => h) (Or.inl ⟨by rfl, ?_⟩) hHeld ?_
              rotate_left 1
              · (intro w hSw; (try dsimp only at hSw); go_simp; (try with_reducible rfl))
              simp only [List.setIfInBounds_toArray, List.set_cons_zero, List.set_cons_succ]
              refine takeD (i := 23) (d := 36) (v := ?_) rfl rfl (by kernel_rfl) (by kernel_rfl) (by kernel_rfl) (fun _ _ _ h => h) (Or.inl ⟨by rfl, ?_⟩) hHeld ?_
              rotate_left 1
              · (intro w hSw; (try dsimp only at hSw); go_simp; (try with_reducible rfl))
              simp only [List.setIfInBounds_toArray, List.set_cons_zero, List.set_cons_succ]
              refine wpAnyH_done (by kernel_rfl) ?_ _
              go_wp2_with fail
              go_meet
              exact ⟨by rw [HGF.out]; rfl, hHeld⟩
            · obtain ⟨m, rfl⟩ : ∃ m, k = m + 1 := ⟨k - 1, by omega⟩
              have HPM := Lib.hid (fun (W : World) (M : Mods [] wr W) => show W.cell? ⟨bb, off + m * 28, none⟩ = some (.int .u8 (numS l m : Nat)) from HPV.out W M (by omega))
              have HGF := Lib.hid (show goodS l (m + 1) = decide (numS l m < S.number) from by
                rw [HGK.out, hvb, HN1.out, Nat.add_sub_cancel, decide_eq_false h0]
                simp)
              clear hvb h0 HGK HN1
              generalize numS l m = pn at HPM HGF
              have m0 : (0 : Int) ≤ ((m : Nat) : Int) := by omega
              have m1 : ((m : Nat) : Int) < ((l.length : Nat) : Int) := by omega
              have kp : (0 : Int) < ((m + 1 : Nat) : Int) := by omega
              have q0 : (0 : Int) ≤ ((m : Nat) : Int) + 1 := by omega
              have q1 : ((m : Nat) : Int) + 1 < ((l.length : Nat) : Int) := by omega
              have d0 : decide ((0 : Int) < ((m + 1 : Nat) : Int)) = true := decide_eq_true kp
              have HLE := Lib.hid (show decide (S.number ≤ pn) = !decide (pn < S.number) from by
                by_cases h : pn < S.number
                · rw [decide_eq_true h, decide_eq_false (by omega)]; rfl
                · rw [decide_eq_false h, decide_eq_true (by omega)]; rfl)
              refine heldStart (S := fun W => Mods [] wr W) 24 rfl (by kernel_rfl) Mods.refl.drew (fun hHeld => ?_)
              refine takeD (i := 0) (d := 13) (v := ?_) rfl rfl (by kernel_rfl) (by kernel_rfl) (by kernel_rfl) (fun _ _ _ h => h) (Or.inl ⟨by rfl, ?_⟩) hHeld ?_
              rotate_left 1
              · (intro w hSw; (try dsimp only at hSw); go_simp; (try with_reducible rfl))
              simp only [List.setIfInBounds_toArray, List.set_cons_zero, List.set_cons_succ]
              refine takeD (i := 1) (d := 14) (v := ?_) rfl rfl (by kernel_rfl) (by kernel_rfl) (by kernel_rfl) (fun _ _ _ h => h) (Or.inl ⟨by rfl, ?_⟩) hHeld ?_
              rotate_left 1
              · (intro w hSw; (try dsimp only at hSw); go_simp; (try with_reducible rfl))
              simp only [List.setIfInBounds_toArray, List.set_cons_zero, List.set_cons_succ]
              refine takeD (i := 2) (d := 15) (v := ?_) rfl rfl (by kernel_rfl) (by kernel_rfl) (by kernel_rfl) (fun _ _ _ h => h) (Or.inl ⟨by rfl, ?_⟩) hHeld ?_
              rotate_left 1
              · (intro w hSw; (try dsimp only at hSw); go_simp; (try with_reducible rfl))
              simp only [List.setIfInBounds_toArray, List.set_cons_zero, List.set_cons_succ]
              refine takeD (i := 3) (d := 16) (v := .agg S.cells.toList.toArray) rfl rfl (by kernel_rfl) (by kernel_rfl) (by kernel_rfl) (fun _ _ _ h => h) (yieldsIf_load_mid (by rfl) 40 (.tmp 15) rfl bb (off+(m+1)*28) rfl S.cells.toList _ (fun W h j u hu => h.cell (HRG.out j u hu) (by simp)) Tryz.underlying40 rfl (Sen.infoS S)) hHeld ?_
              simp only [List.setIfInBounds_toArray, List.set_cons_zero, List.set_cons_succ]
              refine wpAnyH_ready (rs := [4]) (by kernel_rfl) (by simp) ?_
              refine AllReadyH.cons rfl (fun K hK => ?_) AllReadyH.nil
              go_simp
              go_wp2_with (go_at_call 99; refine (refValid_ok _ S P (HIS.out.mods0 hHeld)).mono ?_; rw [HVB.out]; rintro e w2 ⟨rfl, M2⟩)
              refine hK.out _ _ ?_ (fun hHeld => ?_)
              · exact hHeld.trans M2
              clear hK K
              refine takeD (i := 5) (d := 18) (v := ?_) rfl rfl (by kernel_rfl) (by kernel_rfl) (by kernel_rfl) (fun _ _ _ h => h) (Or.inl ⟨by rfl, ?_⟩) hHeld ?_
              rotate_left 1
              · (intro w hSw; (try dsimp only at hSw); go_simp; (try with_reducible rfl))
              simp only [List.setIfInBounds_toArray, List.set_cons_zero, List.set_cons_succ]
              refine takeD (i := 6) (d := 19) (v := ?_) rfl rfl (by kernel_rfl) (by kernel_rfl) (by kernel_rfl) (fun _ _ _ h => h) (Or.inl ⟨by rfl, ?_⟩) hHeld ?_
              rotate_left 1
              · (intro w hSw; (try dsimp only at hSw); go_simp; (try with_reducible rfl))
              simp only [List.setIfInBounds_toArray, List.set_cons_zero, List.set_cons_succ]
              refine takeD (i := 7) (d := 20) (v := ?_) rfl rfl (by kernel_rfl) (by kernel_rfl) (by kernel_rfl) (fun _ _ _ h => h) (Or.inl ⟨by rfl, ?_⟩) hHeld ?_
              rotate_left 1
              · (intro w hSw; (try dsimp only at hSw); go_simp; (try with_reducible rfl))
              simp only [List.setIfInBounds_toArray, List.set_cons_zero, List.set_cons_succ]
              refine takeD (i := 8) (d := 21) (v := .bool true) rfl rfl (by kernel_rfl) (by kernel_rfl) (by kernel_rfl) (fun _ _ _ h => h) (Or.inl ⟨by rfl, fun W hSw => ?_⟩) hHeld ?_
              · (try dsimp only at hSw)
                skip
                go_simp
                (try simp only [d0])
              simp only [List.setIfInBounds_toArray, List.set_cons_zero, List.set_cons_succ]
              refine takeD (i := 9) (d := 22) (v := ?_) rfl rfl (by kernel_rfl) (by kernel_rfl) (by kernel_rfl) (fun _ _ _ h => h) (Or.inl ⟨by rfl, ?_⟩) hHeld ?_
              rotate_left 1
              · (intro w hSw; (try dsimp only at hSw); go_simp; (try with_reducible rfl))
              simp only [List.setIfInBounds_toArray, List.set_cons_zero, List.set_cons_succ]
              refine takeD (i := 10) (d := 23) (v := ?_) rfl rfl (by kernel_rfl) (by kernel_rfl) (by kernel_rfl) (fun _ _ _ h => h) (Or.inl ⟨by rfl, ?_⟩) hHeld ?_
              rotate_left 1
              · (intro w hSw; (try dsimp only at hSw); go_simp; (try with_reducible rfl))
              simp only [List.setIfInBounds_toArray, List.set_cons_zero, List.set_cons_succ]
              refine takeD (i := 11) (d := 24) (v := ?_) rfl rfl (by kernel_rfl) (by kernel_rfl) (by kernel_rfl) (fun _ _ _ h => h) (Or.inl ⟨by rfl, ?_⟩) hHeld ?_
              rotate_left 1
              · (intro w hSw; (try dsimp only at hSw); go_simp; (try with_reducible rfl))
              simp only [List.setIfInBounds_toArray, List.set_cons_zero, List.set_cons_succ]
              refine takeD (i := 12) (d := 25) (v := ?_) rfl rfl (by kernel_rfl) (by kernel_rfl) (by kernel_rfl) (fun _ _ _ h => h) (Or.inl ⟨by rfl, ?_⟩) hHeld ?_
              rotate_left 1
              · (intro w hSw; (try dsimp only at hSw); go_simp; (try with_reducible rfl))
              simp only [List.setIfInBounds_toArray, List.set_cons_zero, List.set_cons_succ]
              refine takeD (i := 13) (d := 26) (v := ?_) rfl rfl (by kernel_rfl) (by kernel_rfl) (by kernel_rfl) (fun _ _ _ h => h) (Or.inl ⟨by rfl, ?_⟩) hHeld ?_
              rotate_left 1
              · (intro w hSw; (try dsimp only at hSw); go_simp; (try with_reducible rfl))
              simp only [List.setIfInBounds_toArray, List.set_cons_zero, List.set_cons_succ]
              refine takeD (i := 14) (d := 27) (v := .int .u8 S.number) rfl rfl (by kernel_rfl) (by kernel_rfl) (by kernel_rfl) (fun _ _ _ h => h) (Or.inl ⟨by rfl, fun W hSw => ?_⟩) hHeld ?_
              · (try dsimp only at hSw)
                have cst := hSw.cell HN0.out (by simp)
                go_simp
                skip
              simp only [List.setIfInBounds_toArray, List.set_cons_zero, List.set_cons_succ]
              refine takeD (i := 15) (d := 28) (v := ?_) rfl rfl (by kernel_rfl) (by kernel_rfl) (by kernel_rfl) (fun _ _ _ h => h) (Or.inl ⟨by rfl, ?_⟩) hHeld ?_
              rotate_left 1
              · (intro w hSw; (try dsimp only at hSw); go_simp; (try with_reducible rfl))
              simp only [List.setIfInBounds_toArray, List.set_cons_zero, List.set_cons_succ]
              refine takeD (i := 16) (d := 29) (v := ?_) rfl rfl (by kernel_rfl) (by kernel_rfl) (by kernel_rfl) (fun _ _ _ h => h) (Or.inl ⟨by rfl, ?_⟩) hHeld ?_
              rotate_left 1
              · (intro w hSw; (try dsimp only at hSw); go_simp; (try with_reducible rfl))
              simp only [List.setIfInBounds_toArray, List.set_cons_zero, List.set_cons_succ]
              refine takeD (i := 17) (d := 30) (v := .int .i64 ((m:Nat):Int)) rfl rfl (by kernel_rfl) (by kernel_rfl) (by kernel_rfl) (fun _ _ _ h => h) (Or.inl ⟨by rfl, fun W hSw => ?_⟩) hHeld ?_
              · (try dsimp only at hSw)
                have hwr : IntKind.i64.wrap (((m + 1 : Nat) : Int) - 1) = ((m : Nat) : Int) := by rw [IntWalk.i64_in _ (by omega)]; omega
                go_simp
                (first | exact IntWalk.i64_in _ (by omega) | rw [hwr])
              simp only [List.setIfInBounds_toArray, List.set_cons_zero, List.set_cons_succ]
              refine takeD (i := 18) (d := 31) (v := ?_) rfl rfl (by kernel_rfl) (by kernel_rfl) (by kernel_rfl) (fun _ _ _ h => h) (Or.inl ⟨by rfl, ?_⟩) hHeld ?_
              rotate_left 1
              · (intro w hSw; (try dsimp only at hSw); go_simp; (try with_reducible rfl))
              simp only [List.setIfInBounds_toArray, List.set_cons_zero, List.set_cons_succ]
              refine takeD (i := 19) (d := 32) (v := ?_) rfl rfl (by kernel_rfl) (by kernel_rfl) (by kernel_rfl) (fun _ _ _ h => h) (Or.inl ⟨by rfl, ?_⟩) hHeld ?_
              rotate_left 1
              · (intro w hSw; (try dsimp only at hSw); go_simp; (try with_reducible rfl))
              simp only [List.setIfInBounds_toArray, List.set_cons_zero, List.set_cons_succ]
              refine takeD (i := 20) (d := 33) (v := .int .u8 ((pn:Nat):Int)) rfl rfl (by kernel_rfl) (by kernel_rfl) (by kernel_rfl) (fun _ _ _ h => h) (Or.inl ⟨by rfl, fun W hSw => ?_⟩) hHeld ?_
              · (try dsimp only at hSw)
                have cst := HPM.out W hSw
                go_simp
                skip
              simp only [List.setIfInBounds_toArray, List.set_cons_zero, List.set_cons_succ]
              refine takeD (i := 21) (d := 34) (v := .bool (!decide (pn < S.number))) rfl rfl (by kernel_rfl) (by kernel_rfl) (by kernel_rfl) (fun _ _ _ h => h) (Or.inl ⟨by rfl, fun W hSw => ?_⟩) hHeld ?_
              · (try dsimp only at hSw)
                have hle := HLE.out
                go_simp
                (first | done | exact hle | simp only [hle])
              simp only [List.setIfInBounds_toArray, List.set_cons_zero, List.set_cons_succ]
              refine takeD (i := 22) (d := 35) (v := ?_) rfl rfl (by kernel_rfl) (by kernel_rfl) (by kernel_rfl) (fun _ _ _ h => h) (Or.inl ⟨by rfl, ?_⟩) hHeld ?_
              rotate_left 1
              · (intro w hSw; (try dsimp only at hSw); go_simp; (try with_reducible rfl))
              simp only [List.setIfInBounds_toArray, List.set_cons_zero, List.set_cons_succ]
              refine takeD (i := 23) (d := 36) (v := ?_) rfl rfl (by kernel_rfl) (by kernel_rfl) (by kernel_rfl) (fun _ _ _ h => h) (Or.inl ⟨by rfl, ?_⟩) hHeld ?_
              rotate_left 1
              · (intro w hSw; (try dsimp only at hSw); go_simp; (try with_reducible rfl))
              simp only [List.setIfInBounds_toArray, List.set_cons_zero, List.set_cons_succ]
              refine wpAnyH_done (by kernel_rfl) ?_ _
              go_wp2_with fail
              go_meet
              exact ⟨by rw [HGF.out], hHeld⟩
        case rest => as_aux_lemma =>
          obtain ⟨rfl, MC⟩ := hcut
          have HMC := Lib.hid (HM.out.trans MC)
          clear MC
          cases hg : goodS l k with
          | true =>
            have HGT := Lib.hid hg
            go_wp2_with fail
            go_roundw
            case rel => exact ⟨k + 1, by omega, by go_num, HMC.out, Lib.hid (fun j hj => by
              rcases Nat.lt_or_ge j k with h | h
              · exact hG.out j h
              · rw [show j = k by omega]; exact HGT.out)⟩
            case measure => simp [intOf]; omega
          | false =>
            have HR := Lib.hid (HBAD.out hg)
            go_wp2_with fail
            go_ret
            exact ⟨ret_int HR.out.symm, HMC.out⟩
      · have i1 : ¬ (k : Int) < (l.length : Int) := by omega
        have HR := Lib.hid (show chkS l = 0 from by
          unfold chkS
          rw [if_neg HL.out, if_pos (by
            rw [List.all_eq_true]
            exact fun i hi => hG.out i (by have := List.mem_range.1 hi; omega))])
        go_wp2_with fail
        go_ret
        exact ⟨ret_int HR.out.symm, HM.out⟩
end Go.Proofs.YtijjkonephjodaaGreatDoor
