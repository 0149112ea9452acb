/- find, State, Reading, Restore, Rearm of a monitor: contracts. -/
import Derived.Test.YtijjkonephjodaaGreatDoorMoMon
namespace Go.Proofs.YtijjkonephjodaaGreatDoor
open Go.RowKit
set_option linter.unusedVariables false
set_option linter.unusedSimpArgs false
set_option maxRecDepth 100000
section
variable {w : World} {mb fb sb : Nat} {vs va : Value} {l : List SenX} {A : List Asc} {F : List FltX} {st : List Nat}
set_option maxHeartbeats 1000000 in
theorem find_ok (h : MonAt w mb fb sb vs va l A F st) (n : Nat) :
    Calls Tryz.prog 56 #[.pointer (some ⟨mb, 0, none⟩), .int .u8 (n : Nat)] w fun e w' => e = .returned (.int .i64 (findI l n)) ∧ Mods [] w w' := by
  have M0 := Lib.hid ((Mods.refl (S := []) (w := w)).alloc (.cells #[.int .u8 (n : Nat)] 5))
  have c0 := (h.mods0 M0.out).c0
  have HG := Lib.hid ((cell_blk (heap_alloc_new w (.cells #[.int .u8 (n : Nat)] 5)) 0).trans (show _ = some (Value.int .u8 ((n : Nat) : Int)) from rfl))
  have HI := Lib.hid (idxFind_ok _ w.heap.size l n HG.out vs (h.mods0 M0.out).sens.rd)
  clear h
  go_enter Tryz.func56, Tryz.ntmps56
  go_wp2_with fail
  refine HI.out.mono ?_
  rintro e w1 ⟨rfl, M1⟩
  have HM := Lib.hid (M0.out.trans M1)
  clear M1
  go_wp2_with fail
  go_ret
  exact ⟨rfl, HM.out⟩
/-- What State gives. -/
def stateV (l : List SenX) (st : List Nat) (n : Nat) : Nat × Bool := if numIdx l n < l.length then (st.getD (numIdx l n) 0, true) else (0, false)
set_option maxHeartbeats 1000000 in
theorem state_ok (h : MonAt w mb fb sb vs va l A F st) (n : Nat) :
    Calls Tryz.prog 17 #[.pointer (some ⟨mb, 0, none⟩), .int .u8 (n : Nat)] w fun e w' => e = .returned (.tuple #[.int .u16 ((stateV l st n).1 : Nat), .bool (stateV l st n).2]) ∧ Mods [] w w' := by
  have H := Lib.hid h
  have HF := Lib.hid (find_ok h n)
  have HI := Lib.hid (show findI l n = if numIdx l n = l.length then -1 else ((numIdx l n : Nat) : Int) from rfl)
  have hl := numIdx_le l n
  have HV := Lib.hid (show stateV l st n = if numIdx l n < l.length then (st.getD (numIdx l n) 0, true) else (0, false) from rfl)
  generalize stateV l st n = V at HV ⊢
  generalize findI l n = FI at HF HI
  generalize numIdx l n = K at HI HV hl
  clear h
  by_cases hk : K < l.length
  · have hfi : FI = (K : Int) := by rw [HI.out, if_neg (by omega)]
    subst hfi
    rw [if_pos hk] at HV
    have HC := Lib.hid (fun W (M : Mods [] w W) => (H.out.mods0 M).sc hk)
    have k0 : (0 : Int) ≤ (K : Int) := by omega
    have k1 : (K : Int) < (l.length : Int) := by omega
    go_enter Tryz.func17, Tryz.ntmps17
    go_wp2_with fail
    refine HF.out.mono ?_
    rintro e w1 ⟨rfl, M1⟩
    have HM := Lib.hid M1
    have c3 := (H.out.mods0 M1).c3
    have cs := HC.out _ M1
    clear M1
    go_wp2_with fail
    go_ret2
    exact ⟨by rw [HV.out]; rfl, HM.out⟩
  · have hfi : FI = -1 := by rw [HI.out, if_pos (by omega)]
    subst hfi
    rw [if_neg hk] at HV
    go_enter Tryz.func17, Tryz.ntmps17
    go_wp2_with fail
    refine HF.out.mono ?_
    rintro e w1 ⟨rfl, M1⟩
    have HM := Lib.hid M1
    clear M1
    go_wp2_with fail
    go_ret2
    exact ⟨by rw [HV.out]; rfl, HM.out⟩
/-- What Reading gives. -/
noncomputable def readM (l : List SenX) (F : List FltX) (n : Nat) : Int × Bool :=
  if numIdx l n < l.length then (if (l.getD (numIdx l n) default).S.disc then (0, false) else readV (l.getD (numIdx l n) default).S (l.getD (numIdx l n) default).P (F.getD (numIdx l n) default).W (F.getD (numIdx l n) default).n) else (0, false)
set_option maxHeartbeats 4000000 in
theorem reading_ok (h : MonAt w mb fb sb vs va l A F st) (n : Nat) :
    Calls Tryz.prog 19 #[.pointer (some ⟨mb, 0, none⟩), .int .u8 (n : Nat)] w fun e w' => ReadV w (readM l F n) e w' := by
  have H := Lib.hid h
  have HF := Lib.hid (find_ok h n)
  have HI := Lib.hid (show findI l n = if numIdx l n = l.length then -1 else ((numIdx l n : Nat) : Int) from rfl)
  have hl := numIdx_le l n
  have HV := Lib.hid (show readM l F n = if numIdx l n < l.length then (if (l.getD (numIdx l n) default).S.disc then (0, false) else readV (l.getD (numIdx l n) default).S (l.getD (numIdx l n) default).P (F.getD (numIdx l n) default).W (F.getD (numIdx l n) default).n) else (0, false) from rfl)
  generalize readM l F n = V at HV ⊢
  generalize findI l n = FI at HF HI
  generalize numIdx l n = K at HI HV hl
  clear h
  by_cases hk : K < l.length
  · have hfi : FI = (K : Int) := by rw [HI.out, if_neg (by omega)]
    subst hfi
    rw [if_pos hk] at HV
    have HKF := Lib.hid (show K < F.length from by rw [H.out.flen]; exact hk)
    obtain ⟨bb, off, cap, hvs, hc1, hc2⟩ := H.out.sens.at (by omega)
    have HSE := Lib.hid (fun W (M : Mods [] w W) => show RdSens W (.slice (some ⟨bb, off, none⟩) l.length cap) l from hvs ▸ (H.out.mods0 M).sens)
    have HRGS := Lib.hid (fun W (M : Mods [] w W) => (HSE.out W M).range hk)
    have HISS := Lib.hid (fun W (M : Mods [] w W) => (HSE.out W M).is K hk)
    have HFRS := Lib.hid (fun W (M : Mods [] w W) => show W.rangeAt fb (K * 2) [(F.getD K default).win, .int .i64 (F.getD K default).n] from (H.out.mods0 M).fr hk)
    have HIFS := Lib.hid (fun W (M : Mods [] w W) => (H.out.mods0 M).isf K HKF.out)
    have HC0 := Lib.hid (fun W (M : Mods [] w W) => show W.cell? ⟨mb, 0, none⟩ = some (.slice (some ⟨bb, off, none⟩) l.length cap) from hvs ▸ (H.out.mods0 M).c0)
    have HC2 := Lib.hid (fun W (M : Mods [] w W) => (H.out.mods0 M).c2)
    clear hvs
    generalize (F.getD K default) = f at HV HFRS HIFS
    generalize (l.getD K default).P = P at HISS HV
    generalize (l.getD K default).S = S at HRGS HISS HV
    have k0 : (0 : Int) ≤ (K : Int) := by omega
    have k1 : (K : Int) < (l.length : Int) := by omega
    cases hd : S.disc with
    | true =>
      rw [hd, if_pos rfl] at HV
      go_enter Tryz.func19, Tryz.ntmps19
      go_wp2_with fail
      refine HF.out.mono ?_
      rintro e w1 ⟨rfl, M1⟩
      have HM := Lib.hid M1
      have c0 := HC0.out _ M1
      have cd := HRGS.out _ M1 6 (.bool true) (by rw [← hd]; rfl)
      clear M1
      go_wp2_with fail
      go_ret2
      rw [HV.out]
      exact ⟨rfl, ⟨Int.le_refl _, by decide⟩, HM.out⟩
    | false =>
      rw [hd, if_neg (by simp)] at HV
      go_enter Tryz.func19, Tryz.ntmps19
      go_wp2_with fail
      refine HF.out.mono ?_
      rintro e w1 ⟨rfl, M1⟩
      have HM := Lib.hid M1
      have c0 := HC0.out _ M1
      have c2 := HC2.out _ M1
      have cd := HRGS.out _ M1 6 (.bool false) (by rw [← hd]; rfl)
      have HRG := Lib.hid (HRGS.out _ M1)
      have HFR := Lib.hid (HFRS.out _ M1)
      have HRD := Lib.hid (fun W (M : Mods [] w W) => samReading_ok W S P f.win f.W f.n (HISS.out W M) (HIFS.out W M))
      have HBY := Lib.hid (HIFS.out _ M1).byt
      have c0n := Lib.hid c0
      have c2n := Lib.hid c2
      clear M1
      go_upto_region 4 with (fail)
      clear cd c0 c2
      refine heldStart (S := fun W => Mods [] w1 W) 19 rfl (by kernel_rfl) Mods.refl.drew (fun hHeld => ?_)
      refine takeD (i := 0) (d := 22) (v := ?_) rfl rfl (by kernel_rfl) (by kernel_rfl) (by kernel_rfl) (fun _ _ _ h => h) (Or.inl ⟨by rfl, ?_⟩) hHeld ?_
      rotate_left 1
      · (intro w hSw; (try dsimp only at hSw); go_simp; (try with_reducible rfl))
      simp only [List.setIfInBounds_toArray, List.set_cons_zero, List.set_cons_succ]
      refine takeD (i := 1) (d := 23) (v := ?_) rfl rfl (by kernel_rfl) (by kernel_rfl) (by kernel_rfl) (fun _ _ _ h => h) (Or.inl ⟨by rfl, ?_⟩) hHeld ?_
      rotate_left 1
      · (intro w hSw; (try dsimp only at hSw); go_simp; (try with_reducible rfl))
      simp only [List.setIfInBounds_toArray, List.set_cons_zero, List.set_cons_succ]
      refine takeD (i := 2) (d := 24) (v := ?_) rfl rfl (by kernel_rfl) (by kernel_rfl) (by kernel_rfl) (fun _ _ _ h => h) (Or.inl ⟨by rfl, ?_⟩) hHeld ?_
      rotate_left 1
      · (intro w hSw; (try dsimp only at hSw); go_simp; (try with_reducible rfl))
      simp only [List.setIfInBounds_toArray, List.set_cons_zero, List.set_cons_succ]
      refine takeD (i := 3) (d := 25) (v := .slice (some ⟨bb, off, none⟩) l.length cap) rfl rfl (by kernel_rfl) (by kernel_rfl) (by kernel_rfl) (fun _ _ _ h => h) (Or.inl ⟨by rfl, fun W hSw => ?_⟩) hHeld ?_
      · (try dsimp only at hSw)
        have cst := hSw.cell c0n.out (by simp)
        go_simp
        skip
      simp only [List.setIfInBounds_toArray, List.set_cons_zero, List.set_cons_succ]
      refine takeD (i := 4) (d := 26) (v := ?_) rfl rfl (by kernel_rfl) (by kernel_rfl) (by kernel_rfl) (fun _ _ _ h => h) (Or.inl ⟨by rfl, ?_⟩) hHeld ?_
      rotate_left 1
      · (intro w hSw; (try dsimp only at hSw); go_simp; (try with_reducible rfl))
      simp only [List.setIfInBounds_toArray, List.set_cons_zero, List.set_cons_succ]
      refine takeD (i := 5) (d := 27) (v := ?_) rfl rfl (by kernel_rfl) (by kernel_rfl) (by kernel_rfl) (fun _ _ _ h => h) (Or.inl ⟨by rfl, ?_⟩) hHeld ?_
      rotate_left 1
      · (intro w hSw; (try dsimp only at hSw); go_simp; (try with_reducible rfl))
      simp only [List.setIfInBounds_toArray, List.set_cons_zero, List.set_cons_succ]
      refine takeD (i := 6) (d := 28) (v := .agg S.cells.toList.toArray) rfl rfl (by kernel_rfl) (by kernel_rfl) (by kernel_rfl) (fun _ _ _ h => h) (yieldsIf_load_mid (by rfl) 40 (.tmp 27) rfl bb (off+K*28) rfl S.cells.toList _ (fun W h j u hu => h.cell (HRG.out j u hu) (by simp)) Tryz.underlying40 rfl (Sen.infoS S)) hHeld ?_
      simp only [List.setIfInBounds_toArray, List.set_cons_zero, List.set_cons_succ]
      refine takeD (i := 7) (d := 29) (v := ?_) rfl rfl (by kernel_rfl) (by kernel_rfl) (by kernel_rfl) (fun _ _ _ h => h) (Or.inl ⟨by rfl, ?_⟩) hHeld ?_
      rotate_left 1
      · (intro w hSw; (try dsimp only at hSw); go_simp; (try with_reducible rfl))
      simp only [List.setIfInBounds_toArray, List.set_cons_zero, List.set_cons_succ]
      refine takeD (i := 8) (d := 30) (v := ?_) rfl rfl (by kernel_rfl) (by kernel_rfl) (by kernel_rfl) (fun _ _ _ h => h) (Or.inl ⟨by rfl, ?_⟩) hHeld ?_
      rotate_left 1
      · (intro w hSw; (try dsimp only at hSw); go_simp; (try with_reducible rfl))
      simp only [List.setIfInBounds_toArray, List.set_cons_zero, List.set_cons_succ]
      refine takeD (i := 9) (d := 31) (v := ?_) rfl rfl (by kernel_rfl) (by kernel_rfl) (by kernel_rfl) (fun _ _ _ h => h) (Or.inl ⟨by rfl, ?_⟩) hHeld ?_
      rotate_left 1
      · (intro w hSw; (try dsimp only at hSw); go_simp; (try with_reducible rfl))
      simp only [List.setIfInBounds_toArray, List.set_cons_zero, List.set_cons_succ]
      refine takeD (i := 10) (d := 32) (v := .slice (some ⟨fb, 0, none⟩) l.length l.length) rfl rfl (by kernel_rfl) (by kernel_rfl) (by kernel_rfl) (fun _ _ _ h => h) (Or.inl ⟨by rfl, fun W hSw => ?_⟩) hHeld ?_
      · (try dsimp only at hSw)
        have cst := hSw.cell c2n.out (by simp)
        go_simp
        skip
      simp only [List.setIfInBounds_toArray, List.set_cons_zero, List.set_cons_succ]
      refine takeD (i := 11) (d := 33) (v := ?_) rfl rfl (by kernel_rfl) (by kernel_rfl) (by kernel_rfl) (fun _ _ _ h => h) (Or.inl ⟨by rfl, ?_⟩) hHeld ?_
      rotate_left 1
      · (intro w hSw; (try dsimp only at hSw); go_simp; (try with_reducible rfl))
      simp only [List.setIfInBounds_toArray, List.set_cons_zero, List.set_cons_succ]
      refine takeD (i := 12) (d := 34) (v := ?_) rfl rfl (by kernel_rfl) (by kernel_rfl) (by kernel_rfl) (fun _ _ _ h => h) (Or.inl ⟨by rfl, ?_⟩) hHeld ?_
      rotate_left 1
      · (intro w hSw; (try dsimp only at hSw); go_simp; (try with_reducible rfl))
      simp only [List.setIfInBounds_toArray, List.set_cons_zero, List.set_cons_succ]
      refine takeD (i := 13) (d := 35) (v := .agg [f.win, .int .i64 f.n].toArray) rfl rfl (by kernel_rfl) (by kernel_rfl) (by kernel_rfl) (fun _ _ _ h => h) (yieldsIf_load_mid (by rfl) 123 (.tmp 34) rfl fb (K*2) rfl [f.win, .int .i64 f.n] _ (fun W h j u hu => h.cell (HFR.out j u hu) (by simp)) Tryz.underlying123 rfl Tryz.infoFl) hHeld ?_
      simp only [List.setIfInBounds_toArray, List.set_cons_zero, List.set_cons_succ]
      refine wpAnyH_ready (rs := [14]) (by kernel_rfl) (by simp) ?_
      refine AllReadyH.cons rfl (fun K hK => ?_) AllReadyH.nil
      go_simp
      go_wp2_with (go_at_call 57; refine (HRD.out _ (HM.out.trans hHeld)).mono ?_; rintro e w2 hres; obtain ⟨rfl, hb2, M2⟩ := ReadRes.v HBY.out hres)
      refine hK.out _ _ ?_ (fun hHeld => ?_)
      · exact hHeld.trans M2
      clear hK K
      refine takeD (i := 15) (d := 37) (v := ?_) rfl rfl (by kernel_rfl) (by kernel_rfl) (by kernel_rfl) (fun _ _ _ h => h) (Or.inl ⟨by rfl, ?_⟩) hHeld ?_
      rotate_left 1
      · (intro w hSw; (try dsimp only at hSw); go_simp; (try with_reducible rfl))
      simp only [List.setIfInBounds_toArray, List.set_cons_zero, List.set_cons_succ]
      refine takeD (i := 16) (d := 38) (v := ?_) rfl rfl (by kernel_rfl) (by kernel_rfl) (by kernel_rfl) (fun _ _ _ h => h) (Or.inl ⟨by rfl, ?_⟩) hHeld ?_
      rotate_left 1
      · (intro w hSw; (try dsimp only at hSw); go_simp; (try with_reducible rfl))
      simp only [List.setIfInBounds_toArray, List.set_cons_zero, List.set_cons_succ]
      refine takeD (i := 17) (d := 4) (v := ?_) rfl rfl (by kernel_rfl) (by kernel_rfl) (by kernel_rfl) (fun _ _ _ h => h) (Or.inl ⟨by rfl, ?_⟩) hHeld ?_
      rotate_left 1
      · (intro w hSw; (try dsimp only at hSw); go_simp; (try with_reducible rfl))
      simp only [List.setIfInBounds_toArray, List.set_cons_zero, List.set_cons_succ]
      refine takeD (i := 18) (d := 5) (v := ?_) rfl rfl (by kernel_rfl) (by kernel_rfl) (by kernel_rfl) (fun _ _ _ h => h) (Or.inl ⟨by rfl, ?_⟩) hHeld ?_
      rotate_left 1
      · (intro w hSw; (try dsimp only at hSw); go_simp; (try with_reducible rfl))
      simp only [List.setIfInBounds_toArray, List.set_cons_zero, List.set_cons_succ]
      refine wpAnyH_done (by kernel_rfl) ?_ _
      go_wp2_with fail
      go_ret2
      rw [HV.out]
      exact ⟨rfl, hb2, HM.out.trans hHeld⟩
  · have hfi : FI = -1 := by rw [HI.out, if_pos (by omega)]
    subst hfi
    rw [if_neg hk] at HV
    go_enter Tryz.func19, Tryz.ntmps19
    go_wp2_with fail
    refine HF.out.mono ?_
    rintro e w1 ⟨rfl, M1⟩
    have HM := Lib.hid M1
    clear M1
    go_wp2_with fail
    go_ret2
    rw [HV.out]
    exact ⟨rfl, ⟨Int.le_refl _, by decide⟩, HM.out⟩
end
end Go.Proofs.YtijjkonephjodaaGreatDoor
