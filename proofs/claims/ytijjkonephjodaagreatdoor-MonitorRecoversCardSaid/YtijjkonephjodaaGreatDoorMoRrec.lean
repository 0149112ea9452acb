/- The reference's Recover: contract. Printed by genmorrec.py. -/
import Derived.Test.YtijjkonephjodaaGreatDoorMoRec
import Derived.Test.YtijjkonephjodaaGreatDoorMoNum
import Derived.Test.YtijjkonephjodaaGreatDoorMoRix
namespace Go.Proofs.YtijjkonephjodaaGreatDoor
open Go.RowKit
set_option linter.unusedVariables false
set_option linter.unusedSimpArgs false
set_option maxRecDepth 100000
/-- The states when the first i sensors have been seen. -/
def refSt (l : List SenX) (st : List Nat) (e : Evt) (i : Nat) : List Nat :=
  if decide (numIdx l e.sen.val < i) && recAt l e (numIdx l e.sen.val) then st.set (numIdx l e.sen.val) (newV (st.getD (numIdx l e.sen.val) 0) (evIx e).1 e.de) else st
theorem refSt_all {l : List SenX} {st : List Nat} {e : Evt} (h : (evIx e).2.2 = true) : refSt l st e l.length = recStep l st e := by
  unfold refSt recStep recB
  rw [h, Bool.true_and]
theorem recStep_no {l : List SenX} {st : List Nat} {e : Evt} (h : (evIx e).2.2 = false) : recStep l st e = st := by
  unfold recStep recB
  rw [h, Bool.false_and, Bool.false_and, if_neg (by simp)]
set_option maxHeartbeats 8000000 in
theorem refRecover_ok (w : World) (v : Value) (l : List SenX) (hv : RdSens w v l) (ve : Value) (E : List Evt) (he : RdE evE w ve E) :
    Calls Tryz.prog 27 #[v, ve] w fun en w' => RecPost w l E en w' := by
  have HCK := Lib.hid (refChkS_ok w v l hv)
  have HV := Lib.hid hv
  have HE := Lib.hid he
  obtain ⟨ad, cap, rfl⟩ := hv.rd.len
  obtain ⟨ade, cape, rfl⟩ := he.len
  have hcE : E.length ≤ 9223372036854775807 := by obtain ⟨_, _, _, h1, h2, _⟩ := he; exact Nat.le_trans h1 h2
  clear hv he
  cases hck : decide (chkS l = 0) with
  | false =>
    have hc0 : chkS l ≠ 0 := of_decide_eq_false hck
    have HP := Lib.hid (fun (en : Ending) (w' : World) (h : en = .returned (.tuple #[.slice none 0 0, .int .i64 (chkS l)]) ∧ Mods [] w w') => show RecPost w l E en w' from by unfold RecPost; rw [if_neg hc0]; exact h)
    have d0 : (chkS l != 0) = true := by simpa using hc0
    generalize chkS l = c at HCK HP d0
    clear hck hc0
    go_enter Tryz.func27, Tryz.ntmps27
    go_wp2_with fail
    refine HCK.out.mono ?_
    rintro e w1 ⟨rfl, M1⟩
    have HM1 := Lib.hid M1
    clear M1
    go_wp2_with fail
    go_ret2
    exact HP.out _ _ ⟨rfl, HM1.out⟩
  | true =>
    have hc0 : chkS l = 0 := of_decide_eq_true hck
    rw [hc0] at HCK
    have HGD := Lib.hid (chkS_zero hc0)
    have HP := Lib.hid (fun (en : Ending) (w' : World) (g : Nat) (h : en = .returned (.tuple #[.slice (some ⟨g, 0, none⟩) l.length l.length, .int .i64 0]) ∧ w.heap.size ≤ g ∧ Row16 w' g (recAll l E) ∧ Mods [] w w') => show RecPost w l E en w' from by unfold RecPost; rw [if_pos hc0]; exact ⟨g, h⟩)
    have hl32 : l.length ≤ 32 := HGD.out.1
    have hlI : ((l.length : Nat) : Int) ≤ 32 := by omega
    have HMK := Lib.hid (fun W => make16 W l.length (by omega))
    clear hck hc0
    go_enter Tryz.func27, Tryz.ntmps27
    go_wp2_with fail
    refine HCK.out.mono ?_
    rintro e w1 ⟨rfl, M1⟩
    have HM1 := Lib.hid M1
    have hmk := HMK.out w1
    clear M1 HCK HMK
    go_upto_region 5 with (fail)
    have HR0 := Lib.hid (show Row16 (w1.alloc (.cells (w16s (List.replicate l.length 0)).toArray 38)) w1.heap.size (List.replicate l.length 0) from heap_alloc_new w1 _)
    have HMA := Lib.hid (HM1.out.alloc (.cells (w16s (List.replicate l.length 0)).toArray 38))
    have HGG := Lib.hid (show w.heap.size ≤ w1.heap.size from HM1.out.size)
    clear hmk HM1
    generalize w1.alloc (.cells (w16s (List.replicate l.length 0)).toArray 38) = w2 at HR0 HMA ⊢
    generalize w1.heap.size = g at HR0 HGG ⊢
    go_wp2_with fail
    go_loopw [8] (fun i wr => ∃ k : Nat, k ≤ E.length ∧ i = .int .i64 (k : Nat) ∧ Mods [] w wr ∧ Row16 wr g ((E.take k).foldl (recStep l) (List.replicate l.length 0))) (fun i _ => E.length - (intOf i).toNat)
    case atStart => exact ⟨0, Nat.zero_le _, rfl, HMA.out, HR0.out⟩
    case round =>
      obtain ⟨k, hk, rfl, hM, hR⟩ := hrel
      have i0 : (0 : Int) ≤ (k : Int) := by omega
      have HM := Lib.hid hM
      have HR := Lib.hid hR
      clear hM hR HR0 HMA
      by_cases hlt : k < E.length
      · have i1 : (k : Int) < (E.length : Int) := by omega
        have HFO := Lib.hid (recFold_ok l (E.take k) _ (zeros_ok l.length).1 (zeros_ok l.length).2)
        have HSTP := Lib.hid (recFold l E hlt)
        generalize (E.take k).foldl (recStep l) (List.replicate l.length 0) = st at HR HFO HSTP
        have HEK := Lib.hid (HE.out.mods0 evOk HM.out)
        obtain ⟨be, oe, cape', hv2, _, _, _⟩ := HEK.out.at (by omega)
        injection hv2 with hv3 hv5 hv4
        subst hv3 hv4
        clear hv5
        have HRE := Lib.hid (HEK.out.range hlt evOk.len)
        change Hid (wr.rangeAt be (oe + k * 10) (E.getD k evE.dflt).cells) at HRE
        generalize (E.getD k evE.dflt) = e at HRE HSTP
        have HEC := Lib.hid (fun (W : World) (M : Mods [] wr W) => show W.cell? ⟨be, oe + k * 10 + 3, none⟩ = some (.int .u8 ((e.st.val : Nat) : Int)) ∧ W.cell? ⟨be, oe + k * 10 + 4, none⟩ = some (.int .u8 ((e.sen.val : Nat) : Int)) ∧ W.cell? ⟨be, oe + k * 10 + 6, none⟩ = some (.bool e.de) from
          ⟨M.cell (HRE.out 3 _ rfl) (by simp), M.cell (HRE.out 4 _ rfl) (by simp), M.cell (HRE.out 6 _ rfl) (by simp)⟩)
        have HBW := Lib.hid (show be < w.heap.size from HE.out.block_lt evOk (fun h => by rw [h] at hlt; simp at hlt) be rfl)
        have HIX := Lib.hid (fun W => refIndex_ok W e)
        have HIL := Lib.hid (evIx_le e)
        have HRA := Lib.hid (fun i => show recAt l e i = (decide ((l.getD i default).S.type = e.st.val) && ((l.getD i default).S.disc != (evIx e).2.1) && (bitN (l.getD i default).S).testBit (evIx e).1) from rfl)
        have HRT := Lib.hid (fun i => show refSt l st e i = if decide (numIdx l e.sen.val < i) && recAt l e (numIdx l e.sen.val) then st.set (numIdx l e.sen.val) (newV (st.getD (numIdx l e.sen.val) 0) (evIx e).1 e.de) else st from rfl)
        have HYES := Lib.hid (fun h => refSt_all (l := l) (st := st) (e := e) h)
        have HNO := Lib.hid (fun h => recStep_no (l := l) (st := st) (e := e) h)
        have HON := Lib.hid (fun i (hi : i < l.length) => num_only HGD.out.2 (n := e.sen.val) hi)
        unfold IdxRes at HIX
        generalize evIx e = I at HIX HIL HRA HRT HYES HNO
        obtain ⟨ix, an, okb⟩ := I
        simp only at HIX HIL HRA HRT HYES HNO
        go_wp2_with (refine wpList_load_mid rfl 65 (.tmp 32) rfl be (oe + k * 10) (by rfl) e.cells _ HRE.out Tryz.underlying65 rfl Tryz.sizeEv ?_)
        refine (HIX.out _).mono ?_
        rintro en w3 ⟨rfl, M3⟩
        have HM3 := Lib.hid (HM.out.trans M3)
        have HR3 := Lib.hid (HR.out.mods0 M3)
        have HEC := Lib.hid (fun (W : World) (M : Mods [] w3 W) => HEC.out W (M3.trans M))
        clear M3 HM HR HIX HEK HRE
        cases okb with
        | false =>
          have HNX := Lib.hid (show Row16 w3 g ((E.take (k + 1)).foldl (recStep l) (List.replicate l.length 0)) from by rw [HSTP.out, HNO.out rfl]; exact HR3.out)
          go_wp2_with fail
          go_roundw
          case rel => exact ⟨k + 1, by omega, by go_num, HM3.out, HNX.out⟩
          case measure => simp [intOf]; omega
        | true =>
          have HBG := Lib.hid (show be ≠ g from fun h => by have h1 := HBW.out; have h2 := HGG.out; omega)
          have hYES := HYES.out rfl
          have HNX := Lib.hid (fun W (h : Row16 W g (refSt l st e l.length)) => show Row16 W g ((E.take (k + 1)).foldl (recStep l) (List.replicate l.length 0)) from by rw [HSTP.out, ← hYES]; exact h)
          have HR30 := Lib.hid (show Row16 w3 g (refSt l st e 0) from by rw [HRT.out, decide_eq_false (by omega), Bool.false_and, if_neg (by simp)]; exact HR3.out)
          clear HYES HNO hYES HSTP
          generalize refSt l st e = RS at HRT HNX HR30
          generalize e.st.val = stN at HEC HRA
          generalize e.sen.val = snN at HEC HRT HON
          generalize numIdx l snN = K at HRT HON
          generalize e.de = de at HEC HRT
          go_wp2_with fail
          go_loopw [12] (fun i wr => ∃ j : Nat, j ≤ l.length ∧ i = .int .i64 (j : Nat) ∧ Mods [] w wr ∧ Mods [g] w3 wr ∧ Row16 wr g (RS j)) (fun i _ => l.length - (intOf i).toNat)
          case atStart => exact ⟨0, Nat.zero_le _, rfl, HM3.out, Mods.refl, HR30.out⟩
          case round =>
            obtain ⟨j, hj, rfl, hM, hM3, hR⟩ := hrel
            have j0 : (0 : Int) ≤ (j : Int) := by omega
            have HM := Lib.hid hM
            have HMG := Lib.hid hM3
            have HR := Lib.hid hR
            clear hM hR hM3 HR30
            by_cases hjl : j < l.length
            · have j1 : (j : Int) < (l.length : Int) := by omega
              have HK := Lib.hid (HV.out.mods0 HM.out)
              obtain ⟨bb, off, cap', hv2, hc1, hc2⟩ := HK.out.at (by omega)
              injection hv2 with hv3 hv5 hv4
              subst hv3 hv4
              clear hv5
              have HRG := Lib.hid (HK.out.range hjl)
              have HIS := Lib.hid (HK.out.is j hjl)
              have hone := Lib.hid (l.getD j default).one
              have HONJ := Lib.hid (show (l.getD j default).S.number = snN ↔ j = K from HON.out j hjl)
              have HRAJ := Lib.hid (HRA.out j)
              generalize (l.getD j default).P = P at HIS
              generalize (l.getD j default).S = S at HRG HIS hone HONJ HRAJ
              go_upto_region 14 with (first
                | (refine wpList_load_mid rfl 40 (.tmp 48) rfl bb (off + j * 28) (by rfl) S.cells.toList _ HRG.out Tryz.underlying40 rfl (Sen.infoS S) ?_)
                | (refine wpList_store_row (cs := S.cells) rfl 40 (.tmp 13) (.tmp 49) rfl (heap_alloc_new wr _) (by rfl) (by rfl) (by rfl) (Sen.infoS _) (Sen.one _ hone.out) ?_; intro w4 R4 M4; have HF4 := Lib.hid (freshA M4); have HBX := Lib.hid R4; clear R4 M4))
              have HM4 := Lib.hid (HM.out.trans HF4.out)
              have HMG4 := Lib.hid (show Mods [g] w3 w4 from HMG.out.comp0 HF4.out)
              have HR4 := Lib.hid (HR.out.mods0 HF4.out)
              have HIS := Lib.hid (HIS.out.mods0 HF4.out)
              clear HM HMG HR HF4 HK HRG
              generalize wr.heap.size = g13 at HBX ⊢
              (try dsimp only [Act.put])
              have HN0 := Lib.hid ((cell_blk HBX.out 0).trans (show _ = some (Value.int .u8 ((S.number : Nat) : Int)) from rfl))
              have HT1 := Lib.hid ((cell_blk HBX.out 1).trans (show _ = some (Value.int .u8 ((S.type : Nat) : Int)) from rfl))
              have HT6 := Lib.hid ((cell_blk HBX.out 6).trans (show _ = some (Value.bool S.disc) from rfl))
              have HEW := Lib.hid (HEC.out w3 Mods.refl)
              have HE3 := Lib.hid (HMG4.out.cell HEW.out.1 (by simpa using HBG.out))
              have HE4 := Lib.hid (HMG4.out.cell HEW.out.2.1 (by simpa using HBG.out))
              have HE6 := Lib.hid (HMG4.out.cell HEW.out.2.2 (by simpa using HBG.out))
              have HCV := Lib.hid (show (decide (j = K) && recAt l e j) = (decide (S.number = snN) && (decide (S.type = stN) && (S.disc != an) && (bitN S).testBit ix)) from by
                rw [HRAJ.out]
                congr 1
                rw [Bool.eq_iff_iff, decide_eq_true_eq, decide_eq_true_eq]
                exact HONJ.out.symm)
              have HBL := Lib.hid (bitN_lt HIS.out)
              have ke0 : (0 : Int) ≤ (k : Int) := by omega
              have ke1 : (k : Int) < (E.length : Int) := by omega
              have ix0 : (0 : Int) ≤ (ix : Int) := by omega
              have ix1 : (ix : Int) ≤ 14 := by have := HIL.out; omega
              generalize hcv : (decide (j = K) && recAt l e j) = cv at HCV
              have HCQ := Lib.hid hcv
              clear hcv HRAJ HONJ
              go_cut [80] (fun u wx => u = .bool (!cv) ∧ Mods [] w4 wx)
              case first => as_aux_lemma =>
                obtain ⟨bt, hbt⟩ : ∃ bt, bt = (bitN S).testBit ix := ⟨_, rfl⟩
                rw [← hbt] at HCV
                have HBQ := Lib.hid hbt
                clear hbt
                generalize hnbN : S.number = nbN at HN0 HCV
                generalize htyN : S.type = tyN at HT1 HCV
                generalize hdb : S.disc = db at HT6 HCV
                clear hnbN htyN hdb
                by_cases hnb : nbN = snN
                · have HB1 := Lib.hid (decide_eq_true hnb)
                  by_cases htb : tyN = stN
                  · have HB2 := Lib.hid (decide_eq_true htb)
                    cases hde : db != an with
                    | false =>
                      have HDO := Lib.hid hde
                      have hde : db = an := by simpa using hde
                      refine heldStart (S := fun W => Mods [] w4 W) 31 rfl (by kernel_rfl) Mods.refl.drew (fun hHeld => ?_)
                      refine takeD (i := 0) (d := 50) (v := ?_) rfl rfl (by kernel_rfl) (by kernel_rfl) (by kernel_rfl) (fun _ _ _ h => h) (Or.inl ⟨by rfl, ?_⟩) hHeld ?_
                      rotate_left 1
                      · (intro w hSw; (try dsimp only at hSw); go_simp; (try with_reducible rfl))
                      simp only [List.setIfInBounds_toArray, List.set_cons_zero, List.set_cons_succ]
                      refine takeD (i := 1) (d := 51) (v := .int .u8 ((nbN:Nat):Int)) rfl rfl (by kernel_rfl) (by kernel_rfl) (by kernel_rfl) (fun _ _ _ h => h) (Or.inl ⟨by rfl, fun W hSw => ?_⟩) hHeld ?_
                      · (try dsimp only at hSw)
                        have cst := hSw.cell HN0.out (by simp)
                        go_simp
                        skip
                      simp only [List.setIfInBounds_toArray, List.set_cons_zero, List.set_cons_succ]
                      refine takeD (i := 2) (d := 52) (v := ?_) rfl rfl (by kernel_rfl) (by kernel_rfl) (by kernel_rfl) (fun _ _ _ h => h) (Or.inl ⟨by rfl, ?_⟩) hHeld ?_
                      rotate_left 1
                      · (intro w hSw; (try dsimp only at hSw); go_simp; (try with_reducible rfl))
                      simp only [List.setIfInBounds_toArray, List.set_cons_zero, List.set_cons_succ]
                      refine takeD (i := 3) (d := 53) (v := ?_) rfl rfl (by kernel_rfl) (by kernel_rfl) (by kernel_rfl) (fun _ _ _ h => h) (Or.inl ⟨by rfl, ?_⟩) hHeld ?_
                      rotate_left 1
                      · (intro w hSw; (try dsimp only at hSw); go_simp; (try with_reducible rfl))
                      simp only [List.setIfInBounds_toArray, List.set_cons_zero, List.set_cons_succ]
                      refine takeD (i := 4) (d := 54) (v := ?_) rfl rfl (by kernel_rfl) (by kernel_rfl) (by kernel_rfl) (fun _ _ _ h => h) (Or.inl ⟨by rfl, ?_⟩) hHeld ?_
                      rotate_left 1
                      · (intro w hSw; (try dsimp only at hSw); go_simp; (try with_reducible rfl))
                      simp only [List.setIfInBounds_toArray, List.set_cons_zero, List.set_cons_succ]
                      refine takeD (i := 5) (d := 55) (v := ?_) rfl rfl (by kernel_rfl) (by kernel_rfl) (by kernel_rfl) (fun _ _ _ h => h) (Or.inl ⟨by rfl, ?_⟩) hHeld ?_
                      rotate_left 1
                      · (intro w hSw; (try dsimp only at hSw); go_simp; (try with_reducible rfl))
                      simp only [List.setIfInBounds_toArray, List.set_cons_zero, List.set_cons_succ]
                      refine takeD (i := 6) (d := 56) (v := .int .u8 ((snN:Nat):Int)) rfl rfl (by kernel_rfl) (by kernel_rfl) (by kernel_rfl) (fun _ _ _ h => h) (Or.inl ⟨by rfl, fun W hSw => ?_⟩) hHeld ?_
                      · (try dsimp only at hSw)
                        have cst := hSw.cell HE4.out (by simp)
                        go_simp
                        skip
                      simp only [List.setIfInBounds_toArray, List.set_cons_zero, List.set_cons_succ]
                      refine takeD (i := 7) (d := 57) (v := .bool false) rfl rfl (by kernel_rfl) (by kernel_rfl) (by kernel_rfl) (fun _ _ _ h => h) (Or.inl ⟨by rfl, fun W hSw => ?_⟩) hHeld ?_
                      · (try dsimp only at hSw)
                        skip
                        go_simp
                        (first | done | exact hnb | simp [hnb] | omega)
                      simp only [List.setIfInBounds_toArray, List.set_cons_zero, List.set_cons_succ]
                      refine takeD (i := 8) (d := 58) (v := ?_) rfl rfl (by kernel_rfl) (by kernel_rfl) (by kernel_rfl) (fun _ _ _ h => h) (Or.inl ⟨by rfl, ?_⟩) hHeld ?_
                      rotate_left 1
                      · (intro w hSw; (try dsimp only at hSw); go_simp; (try with_reducible rfl))
                      simp only [List.setIfInBounds_toArray, List.set_cons_zero, List.set_cons_succ]
                      refine takeD (i := 9) (d := 59) (v := ?_) rfl rfl (by kernel_rfl) (by kernel_rfl) (by kernel_rfl) (fun _ _ _ h => h) (Or.inl ⟨by rfl, ?_⟩) hHeld ?_
                      rotate_left 1
                      · (intro w hSw; (try dsimp only at hSw); go_simp; (try with_reducible rfl))
                      simp only [List.setIfInBounds_toArray, List.set_cons_zero, List.set_cons_succ]
                      refine takeD (i := 10) (d := 60) (v := .int .u8 ((tyN:Nat):Int)) rfl rfl (by kernel_rfl) (by kernel_rfl) (by kernel_rfl) (fun _ _ _ h => h) (Or.inl ⟨by rfl, fun W hSw => ?_⟩) hHeld ?_
                      · (try dsimp only at hSw)
                        have cst := hSw.cell HT1.out (by simp)
                        go_simp
                        skip
                      simp only [List.setIfInBounds_toArray, List.set_cons_zero, List.set_cons_succ]
                      refine takeD (i := 11) (d := 61) (v := ?_) rfl rfl (by kernel_rfl) (by kernel_rfl) (by kernel_rfl) (fun _ _ _ h => h) (Or.inl ⟨by rfl, ?_⟩) hHeld ?_
                      rotate_left 1
                      · (intro w hSw; (try dsimp only at hSw); go_simp; (try with_reducible rfl))
                      simp only [List.setIfInBounds_toArray, List.set_cons_zero, List.set_cons_succ]
                      refine takeD (i := 12) (d := 62) (v := ?_) rfl rfl (by kernel_rfl) (by kernel_rfl) (by kernel_rfl) (fun _ _ _ h => h) (Or.inl ⟨by rfl, ?_⟩) hHeld ?_
                      rotate_left 1
                      · (intro w hSw; (try dsimp only at hSw); go_simp; (try with_reducible rfl))
                      simp only [List.setIfInBounds_toArray, List.set_cons_zero, List.set_cons_succ]
                      refine takeD (i := 13) (d := 63) (v := ?_) rfl rfl (by kernel_rfl) (by kernel_rfl) (by kernel_rfl) (fun _ _ _ h => h) (Or.inl ⟨by rfl, ?_⟩) hHeld ?_
                      rotate_left 1
                      · (intro w hSw; (try dsimp only at hSw); go_simp; (try with_reducible rfl))
                      simp only [List.setIfInBounds_toArray, List.set_cons_zero, List.set_cons_succ]
                      refine takeD (i := 14) (d := 64) (v := ?_) rfl rfl (by kernel_rfl) (by kernel_rfl) (by kernel_rfl) (fun _ _ _ h => h) (Or.inl ⟨by rfl, ?_⟩) hHeld ?_
                      rotate_left 1
                      · (intro w hSw; (try dsimp only at hSw); go_simp; (try with_reducible rfl))
                      simp only [List.setIfInBounds_toArray, List.set_cons_zero, List.set_cons_succ]
                      refine takeD (i := 15) (d := 65) (v := .int .u8 ((stN:Nat):Int)) rfl rfl (by kernel_rfl) (by kernel_rfl) (by kernel_rfl) (fun _ _ _ h => h) (Or.inl ⟨by rfl, fun W hSw => ?_⟩) hHeld ?_
                      · (try dsimp only at hSw)
                        have cst := hSw.cell HE3.out (by simp)
                        go_simp
                        skip
                      simp only [List.setIfInBounds_toArray, List.set_cons_zero, List.set_cons_succ]
                      refine takeD (i := 16) (d := 66) (v := .bool false) rfl rfl (by kernel_rfl) (by kernel_rfl) (by kernel_rfl) (fun _ _ _ h => h) (Or.inl ⟨by rfl, fun W hSw => ?_⟩) hHeld ?_
                      · (try dsimp only at hSw)
                        skip
                        go_simp
                        (first | done | exact htb | simp [htb] | omega)
                      simp only [List.setIfInBounds_toArray, List.set_cons_zero, List.set_cons_succ]
                      refine takeD (i := 17) (d := 67) (v := ?_) rfl rfl (by kernel_rfl) (by kernel_rfl) (by kernel_rfl) (fun _ _ _ h => h) (Or.inl ⟨by rfl, ?_⟩) hHeld ?_
                      rotate_left 1
                      · (intro w hSw; (try dsimp only at hSw); go_simp; (try with_reducible rfl))
                      simp only [List.setIfInBounds_toArray, List.set_cons_zero, List.set_cons_succ]
                      refine takeD (i := 18) (d := 68) (v := ?_) rfl rfl (by kernel_rfl) (by kernel_rfl) (by kernel_rfl) (fun _ _ _ h => h) (Or.inl ⟨by rfl, ?_⟩) hHeld ?_
                      rotate_left 1
                      · (intro w hSw; (try dsimp only at hSw); go_simp; (try with_reducible rfl))
                      simp only [List.setIfInBounds_toArray, List.set_cons_zero, List.set_cons_succ]
                      refine takeD (i := 19) (d := 69) (v := ?_) rfl rfl (by kernel_rfl) (by kernel_rfl) (by kernel_rfl) (fun _ _ _ h => h) (Or.inl ⟨by rfl, ?_⟩) hHeld ?_
                      rotate_left 1
                      · (intro w hSw; (try dsimp only at hSw); go_simp; (try with_reducible rfl))
                      simp only [List.setIfInBounds_toArray, List.set_cons_zero, List.set_cons_succ]
                      refine takeD (i := 20) (d := 70) (v := .bool db) rfl rfl (by kernel_rfl) (by kernel_rfl) (by kernel_rfl) (fun _ _ _ h => h) (Or.inl ⟨by rfl, fun W hSw => ?_⟩) hHeld ?_
                      · (try dsimp only at hSw)
                        have cst := hSw.cell HT6.out (by simp)
                        go_simp
                        skip
                      simp only [List.setIfInBounds_toArray, List.set_cons_zero, List.set_cons_succ]
                      refine takeD (i := 21) (d := 71) (v := ?_) rfl rfl (by kernel_rfl) (by kernel_rfl) (by kernel_rfl) (fun _ _ _ h => h) (Or.inl ⟨by rfl, ?_⟩) hHeld ?_
                      rotate_left 1
                      · (intro w hSw; (try dsimp only at hSw); go_simp; (try with_reducible rfl))
                      simp only [List.setIfInBounds_toArray, List.set_cons_zero, List.set_cons_succ]
                      refine takeD (i := 22) (d := 72) (v := .bool true) rfl rfl (by kernel_rfl) (by kernel_rfl) (by kernel_rfl) (fun _ _ _ h => h) (Or.inl ⟨by rfl, fun W hSw => ?_⟩) hHeld ?_
                      · (try dsimp only at hSw)
                        skip
                        go_simp
                        (first | done | exact hde | simp [hde])
                      simp only [List.setIfInBounds_toArray, List.set_cons_zero, List.set_cons_succ]
                      refine takeD (i := 23) (d := 73) (v := ?_) rfl rfl (by kernel_rfl) (by kernel_rfl) (by kernel_rfl) (fun _ _ _ h => h) (Or.inl ⟨by rfl, ?_⟩) hHeld ?_
                      rotate_left 1
                      · (intro w hSw; (try dsimp only at hSw); go_simp; (try with_reducible rfl))
                      simp only [List.setIfInBounds_toArray, List.set_cons_zero, List.set_cons_succ]
                      refine takeD (i := 24) (d := 74) (v := ?_) rfl rfl (by kernel_rfl) (by kernel_rfl) (by kernel_rfl) (fun _ _ _ h => h) (Or.inl ⟨by rfl, ?_⟩) hHeld ?_
                      rotate_left 1
                      · (intro w hSw; (try dsimp only at hSw); go_simp; (try with_reducible rfl))
                      simp only [List.setIfInBounds_toArray, List.set_cons_zero, List.set_cons_succ]
                      refine takeD (i := 25) (d := 75) (v := undef) rfl rfl (by kernel_rfl) (by kernel_rfl) (by kernel_rfl) (fun _ _ _ h => h) (Or.inr ⟨by rfl, rfl⟩) hHeld ?_
                      simp only [List.setIfInBounds_toArray, List.set_cons_zero, List.set_cons_succ]
                      refine takeD (i := 26) (d := 76) (v := undef) rfl rfl (by kernel_rfl) (by kernel_rfl) (by kernel_rfl) (fun _ _ _ h => h) (Or.inr ⟨by rfl, rfl⟩) hHeld ?_
                      simp only [List.setIfInBounds_toArray, List.set_cons_zero, List.set_cons_succ]
                      refine takeD (i := 27) (d := 77) (v := undef) rfl rfl (by kernel_rfl) (by kernel_rfl) (by kernel_rfl) (fun _ _ _ h => h) (Or.inr ⟨by rfl, rfl⟩) hHeld ?_
                      simp only [List.setIfInBounds_toArray, List.set_cons_zero, List.set_cons_succ]
                      refine takeD (i := 28) (d := 78) (v := undef) rfl rfl (by kernel_rfl) (by kernel_rfl) (by kernel_rfl) (fun _ _ _ h => h) (Or.inr ⟨by rfl, rfl⟩) hHeld ?_
                      simp only [List.setIfInBounds_toArray, List.set_cons_zero, List.set_cons_succ]
                      refine takeD (i := 29) (d := 79) (v := undef) rfl rfl (by kernel_rfl) (by kernel_rfl) (by kernel_rfl) (fun _ _ _ h => h) (Or.inr ⟨by rfl, rfl⟩) hHeld ?_
                      simp only [List.setIfInBounds_toArray, List.set_cons_zero, List.set_cons_succ]
                      refine takeD (i := 30) (d := 80) (v := ?_) rfl rfl (by kernel_rfl) (by kernel_rfl) (by kernel_rfl) (fun _ _ _ h => h) (Or.inl ⟨by rfl, ?_⟩) hHeld ?_
                      rotate_left 1
                      · (intro w hSw; (try dsimp only at hSw); go_simp; (try with_reducible rfl))
                      simp only [List.setIfInBounds_toArray, List.set_cons_zero, List.set_cons_succ]
                      refine wpAnyH_done (by kernel_rfl) ?_ _
                      go_wp2_with fail
                      go_meet
                      exact ⟨by rw [HCV.out, HB1.out, HB2.out, HDO.out]; rfl, hHeld⟩
                    | true =>
                      have HDO := Lib.hid hde
                      have hde : ¬ db = an := by simpa using hde
                      refine heldStart (S := fun W => Mods [] w4 W) 31 rfl (by kernel_rfl) Mods.refl.drew (fun hHeld => ?_)
                      refine takeD (i := 0) (d := 50) (v := ?_) rfl rfl (by kernel_rfl) (by kernel_rfl) (by kernel_rfl) (fun _ _ _ h => h) (Or.inl ⟨by rfl, ?_⟩) hHeld ?_
                      rotate_left 1
                      · (intro w hSw; (try dsimp only at hSw); go_simp; (try with_reducible rfl))
                      simp only [List.setIfInBounds_toArray, List.set_cons_zero, List.set_cons_succ]
                      refine takeD (i := 1) (d := 51) (v := .int .u8 ((nbN:Nat):Int)) rfl rfl (by kernel_rfl) (by kernel_rfl) (by kernel_rfl) (fun _ _ _ h => h) (Or.inl ⟨by rfl, fun W hSw => ?_⟩) hHeld ?_
                      · (try dsimp only at hSw)
                        have cst := hSw.cell HN0.out (by simp)
                        go_simp
                        skip
                      simp only [List.setIfInBounds_toArray, List.set_cons_zero, List.set_cons_succ]
                      refine takeD (i := 2) (d := 52) (v := ?_) rfl rfl (by kernel_rfl) (by kernel_rfl) (by kernel_rfl) (fun _ _ _ h => h) (Or.inl ⟨by rfl, ?_⟩) hHeld ?_
                      rotate_left 1
                      · (intro w hSw; (try dsimp only at hSw); go_simp; (try with_reducible rfl))
                      simp only [List.setIfInBounds_toArray, List.set_cons_zero, List.set_cons_succ]
                      refine takeD (i := 3) (d := 53) (v := ?_) rfl rfl (by kernel_rfl) (by kernel_rfl) (by kernel_rfl) (fun _ _ _ h => h) (Or.inl ⟨by rfl, ?_⟩) hHeld ?_
                      rotate_left 1
                      · (intro w hSw; (try dsimp only at hSw); go_simp; (try with_reducible rfl))
                      simp only [List.setIfInBounds_toArray, List.set_cons_zero, List.set_cons_succ]
                      refine takeD (i := 4) (d := 54) (v := ?_) rfl rfl (by kernel_rfl) (by kernel_rfl) (by kernel_rfl) (fun _ _ _ h => h) (Or.inl ⟨by rfl, ?_⟩) hHeld ?_
                      rotate_left 1
                      · (intro w hSw; (try dsimp only at hSw); go_simp; (try with_reducible rfl))
                      simp only [List.setIfInBounds_toArray, List.set_cons_zero, List.set_cons_succ]
                      refine takeD (i := 5) (d := 55) (v := ?_) rfl rfl (by kernel_rfl) (by kernel_rfl) (by kernel_rfl) (fun _ _ _ h => h) (Or.inl ⟨by rfl, ?_⟩) hHeld ?_
                      rotate_left 1
                      · (intro w hSw; (try dsimp only at hSw); go_simp; (try with_reducible rfl))
                      simp only [List.setIfInBounds_toArray, List.set_cons_zero, List.set_cons_succ]
                      refine takeD (i := 6) (d := 56) (v := .int .u8 ((snN:Nat):Int)) rfl rfl (by kernel_rfl) (by kernel_rfl) (by kernel_rfl) (fun _ _ _ h => h) (Or.inl ⟨by rfl, fun W hSw => ?_⟩) hHeld ?_
                      · (try dsimp only at hSw)
                        have cst := hSw.cell HE4.out (by simp)
                        go_simp
                        skip
                      simp only [List.setIfInBounds_toArray, List.set_cons_zero, List.set_cons_succ]
                      refine takeD (i := 7) (d := 57) (v := .bool false) rfl rfl (by kernel_rfl) (by kernel_rfl) (by kernel_rfl) (fun _ _ _ h => h) (Or.inl ⟨by rfl, fun W hSw => ?_⟩) hHeld ?_
                      · (try dsimp only at hSw)
                        skip
                        go_simp
                        (first | done | exact hnb | simp [hnb] | omega)
                      simp only [List.setIfInBounds_toArray, List.set_cons_zero, List.set_cons_succ]
                      refine takeD (i := 8) (d := 58) (v := ?_) rfl rfl (by kernel_rfl) (by kernel_rfl) (by kernel_rfl) (fun _ _ _ h => h) (Or.inl ⟨by rfl, ?_⟩) hHeld ?_
                      rotate_left 1
                      · (intro w hSw; (try dsimp only at hSw); go_simp; (try with_reducible rfl))
                      simp only [List.setIfInBounds_toArray, List.set_cons_zero, List.set_cons_succ]
                      refine takeD (i := 9) (d := 59) (v := ?_) rfl rfl (by kernel_rfl) (by kernel_rfl) (by kernel_rfl) (fun _ _ _ h => h) (Or.inl ⟨by rfl, ?_⟩) hHeld ?_
                      rotate_left 1
                      · (intro w hSw; (try dsimp only at hSw); go_simp; (try with_reducible rfl))
                      simp only [List.setIfInBounds_toArray, List.set_cons_zero, List.set_cons_succ]
                      refine takeD (i := 10) (d := 60) (v := .int .u8 ((tyN:Nat):Int)) rfl rfl (by kernel_rfl) (by kernel_rfl) (by kernel_rfl) (fun _ _ _ h => h) (Or.inl ⟨by rfl, fun W hSw => ?_⟩) hHeld ?_
                      · (try dsimp only at hSw)
                        have cst := hSw.cell HT1.out (by simp)
                        go_simp
                        skip
                      simp only [List.setIfInBounds_toArray, List.set_cons_zero, List.set_cons_succ]
                      refine takeD (i := 11) (d := 61) (v := ?_) rfl rfl (by kernel_rfl) (by kernel_rfl) (by kernel_rfl) (fun _ _ _ h => h) (Or.inl ⟨by rfl, ?_⟩) hHeld ?_
                      rotate_left 1
                      · (intro w hSw; (try dsimp only at hSw); go_simp; (try with_reducible rfl))
                      simp only [List.setIfInBounds_toArray, List.set_cons_zero, List.set_cons_succ]
                      refine takeD (i := 12) (d := 62) (v := ?_) rfl rfl (by kernel_rfl) (by kernel_rfl) (by kernel_rfl) (fun _ _ _ h => h) (Or.inl ⟨by rfl, ?_⟩) hHeld ?_
                      rotate_left 1
                      · (intro w hSw; (try dsimp only at hSw); go_simp; (try with_reducible rfl))
                      simp only [List.setIfInBounds_toArray, List.set_cons_zero, List.set_cons_succ]
                      refine takeD (i := 13) (d := 63) (v := ?_) rfl rfl (by kernel_rfl) (by kernel_rfl) (by kernel_rfl) (fun _ _ _ h => h) (Or.inl ⟨by rfl, ?_⟩) hHeld ?_
                      rotate_left 1
                      · (intro w hSw; (try dsimp only at hSw); go_simp; (try with_reducible rfl))
                      simp only [List.setIfInBounds_toArray, List.set_cons_zero, List.set_cons_succ]
                      refine takeD (i := 14) (d := 64) (v := ?_) rfl rfl (by kernel_rfl) (by kernel_rfl) (by kernel_rfl) (fun _ _ _ h => h) (Or.inl ⟨by rfl, ?_⟩) hHeld ?_
                      rotate_left 1
                      · (intro w hSw; (try dsimp only at hSw); go_simp; (try with_reducible rfl))
                      simp only [List.setIfInBounds_toArray, List.set_cons_zero, List.set_cons_succ]
                      refine takeD (i := 15) (d := 65) (v := .int .u8 ((stN:Nat):Int)) rfl rfl (by kernel_rfl) (by kernel_rfl) (by kernel_rfl) (fun _ _ _ h => h) (Or.inl ⟨by rfl, fun W hSw => ?_⟩) hHeld ?_
                      · (try dsimp only at hSw)
                        have cst := hSw.cell HE3.out (by simp)
                        go_simp
                        skip
                      simp only [List.setIfInBounds_toArray, List.set_cons_zero, List.set_cons_succ]
                      refine takeD (i := 16) (d := 66) (v := .bool false) rfl rfl (by kernel_rfl) (by kernel_rfl) (by kernel_rfl) (fun _ _ _ h => h) (Or.inl ⟨by rfl, fun W hSw => ?_⟩) hHeld ?_
                      · (try dsimp only at hSw)
                        skip
                        go_simp
                        (first | done | exact htb | simp [htb] | omega)
                      simp only [List.setIfInBounds_toArray, List.set_cons_zero, List.set_cons_succ]
                      refine takeD (i := 17) (d := 67) (v := ?_) rfl rfl (by kernel_rfl) (by kernel_rfl) (by kernel_rfl) (fun _ _ _ h => h) (Or.inl ⟨by rfl, ?_⟩) hHeld ?_
                      rotate_left 1
                      · (intro w hSw; (try dsimp only at hSw); go_simp; (try with_reducible rfl))
                      simp only [List.setIfInBounds_toArray, List.set_cons_zero, List.set_cons_succ]
                      refine takeD (i := 18) (d := 68) (v := ?_) rfl rfl (by kernel_rfl) (by kernel_rfl) (by kernel_rfl) (fun _ _ _ h => h) (Or.inl ⟨by rfl, ?_⟩) hHeld ?_
                      rotate_left 1
                      · (intro w hSw; (try dsimp only at hSw); go_simp; (try with_reducible rfl))
                      simp only [List.setIfInBounds_toArray, List.set_cons_zero, List.set_cons_succ]
                      refine takeD (i := 19) (d := 69) (v := ?_) rfl rfl (by kernel_rfl) (by kernel_rfl) (by kernel_rfl) (fun _ _ _ h => h) (Or.inl ⟨by rfl, ?_⟩) hHeld ?_
                      rotate_left 1
                      · (intro w hSw; (try dsimp only at hSw); go_simp; (try with_reducible rfl))
                      simp only [List.setIfInBounds_toArray, List.set_cons_zero, List.set_cons_succ]
                      refine takeD (i := 20) (d := 70) (v := .bool db) rfl rfl (by kernel_rfl) (by kernel_rfl) (by kernel_rfl) (fun _ _ _ h => h) (Or.inl ⟨by rfl, fun W hSw => ?_⟩) hHeld ?_
                      · (try dsimp only at hSw)
                        have cst := hSw.cell HT6.out (by simp)
                        go_simp
                        skip
                      simp only [List.setIfInBounds_toArray, List.set_cons_zero, List.set_cons_succ]
                      refine takeD (i := 21) (d := 71) (v := ?_) rfl rfl (by kernel_rfl) (by kernel_rfl) (by kernel_rfl) (fun _ _ _ h => h) (Or.inl ⟨by rfl, ?_⟩) hHeld ?_
                      rotate_left 1
                      · (intro w hSw; (try dsimp only at hSw); go_simp; (try with_reducible rfl))
                      simp only [List.setIfInBounds_toArray, List.set_cons_zero, List.set_cons_succ]
                      refine takeD (i := 22) (d := 72) (v := .bool false) rfl rfl (by kernel_rfl) (by kernel_rfl) (by kernel_rfl) (fun _ _ _ h => h) (Or.inl ⟨by rfl, fun W hSw => ?_⟩) hHeld ?_
                      · (try dsimp only at hSw)
                        skip
                        go_simp
                        (first | done | exact hde | simp [hde])
                      simp only [List.setIfInBounds_toArray, List.set_cons_zero, List.set_cons_succ]
                      refine takeD (i := 23) (d := 73) (v := ?_) rfl rfl (by kernel_rfl) (by kernel_rfl) (by kernel_rfl) (fun _ _ _ h => h) (Or.inl ⟨by rfl, ?_⟩) hHeld ?_
                      rotate_left 1
                      · (intro w hSw; (try dsimp only at hSw); go_simp; (try with_reducible rfl))
                      simp only [List.setIfInBounds_toArray, List.set_cons_zero, List.set_cons_succ]
                      refine takeD (i := 24) (d := 74) (v := ?_) rfl rfl (by kernel_rfl) (by kernel_rfl) (by kernel_rfl) (fun _ _ _ h => h) (Or.inl ⟨by rfl, ?_⟩) hHeld ?_
                      rotate_left 1
                      · (intro w hSw; (try dsimp only at hSw); go_simp; (try with_reducible rfl))
                      simp only [List.setIfInBounds_toArray, List.set_cons_zero, List.set_cons_succ]
                      refine takeD (i := 25) (d := 75) (v := .agg S.cells.toList.toArray) rfl rfl (by kernel_rfl) (by kernel_rfl) (by kernel_rfl) (fun _ _ _ h => h) (yieldsIf_load_mid (by rfl) 40 (.tmp 13) rfl g13 0 rfl S.cells.toList _ (fun W h k u hu => by
                        rw [cell_blk (h.heap HBX.out (by simp)), Nat.zero_add]
                        simpa using hu) Tryz.underlying40 rfl (Sen.infoS S)) hHeld ?_
                      simp only [List.setIfInBounds_toArray, List.set_cons_zero, List.set_cons_succ]
                      refine takeD (i := 27) (d := 77) (v := ?_) rfl rfl (by kernel_rfl) (by kernel_rfl) (by kernel_rfl) (fun _ _ _ h => h) (Or.inl ⟨by rfl, ?_⟩) hHeld ?_
                      rotate_left 1
                      · (intro w hSw; (try dsimp only at hSw); go_simp; (try with_reducible rfl))
                      simp only [List.setIfInBounds_toArray, List.set_cons_zero, List.set_cons_succ]
                      refine wpAnyH_ready (rs := [26]) (by kernel_rfl) (by simp) ?_
                      refine AllReadyH.cons rfl (fun K hK => ?_) AllReadyH.nil
                      go_simp
                      go_wp2_with (go_at_call 70; refine (refBits_ok _ S P (HIS.out.mods0 hHeld)).mono ?_; rintro e w6 ⟨rfl, M6⟩)
                      refine hK.out _ _ ?_ (fun hHeld => ?_)
                      · exact hHeld.trans M6
                      clear hK K
                      refine wpAnyH_ready (rs := [28]) (by kernel_rfl) (by simp) ?_
                      refine AllReadyH.cons rfl (fun K hK => ?_) AllReadyH.nil
                      go_simp
                      go_wp2_with (go_at_call 69; refine (has_ok (bitN S) ix HBL.out (by have := HIL.out; omega) _).mono ?_; rw [← HBQ.out]; rintro e w7 ⟨rfl, rfl⟩)
                      refine hK.out _ _ ?_ (fun hHeld => ?_)
                      · exact hHeld
                      clear hK K
                      refine takeD (i := 29) (d := 79) (v := ?_) rfl rfl (by kernel_rfl) (by kernel_rfl) (by kernel_rfl) (fun _ _ _ h => h) (Or.inl ⟨by rfl, ?_⟩) hHeld ?_
                      rotate_left 1
                      · (intro w hSw; (try dsimp only at hSw); go_simp; (try with_reducible rfl))
                      simp only [List.setIfInBounds_toArray, List.set_cons_zero, List.set_cons_succ]
                      refine takeD (i := 30) (d := 80) (v := ?_) rfl rfl (by kernel_rfl) (by kernel_rfl) (by kernel_rfl) (fun _ _ _ h => h) (Or.inl ⟨by rfl, ?_⟩) hHeld ?_
                      rotate_left 1
                      · (intro w hSw; (try dsimp only at hSw); go_simp; (try with_reducible rfl))
                      simp only [List.setIfInBounds_toArray, List.set_cons_zero, List.set_cons_succ]
                      refine wpAnyH_done (by kernel_rfl) ?_ _
                      cases bt <;> (go_wp2_with fail; go_meet; exact ⟨by rw [HCV.out, HB1.out, HB2.out, HDO.out]; rfl, hHeld⟩)
                  · have HB2 := Lib.hid (decide_eq_false htb)
                    refine heldStart (S := fun W => Mods [] w4 W) 31 rfl (by kernel_rfl) Mods.refl.drew (fun hHeld => ?_)
                    refine takeD (i := 0) (d := 50) (v := ?_) rfl rfl (by kernel_rfl) (by kernel_rfl) (by kernel_rfl) (fun _ _ _ h => h) (Or.inl ⟨by rfl, ?_⟩) hHeld ?_
                    rotate_left 1
                    · (intro w hSw; (try dsimp only at hSw); go_simp; (try with_reducible rfl))
                    simp only [List.setIfInBounds_toArray, List.set_cons_zero, List.set_cons_succ]
                    refine takeD (i := 1) (d := 51) (v := .int .u8 ((nbN:Nat):Int)) rfl rfl (by kernel_rfl) (by kernel_rfl) (by kernel_rfl) (fun _ _ _ h => h) (Or.inl ⟨by rfl, fun W hSw => ?_⟩) hHeld ?_
                    · (try dsimp only at hSw)
                      have cst := hSw.cell HN0.out (by simp)
                      go_simp
                      skip
                    simp only [List.setIfInBounds_toArray, List.set_cons_zero, List.set_cons_succ]
                    refine takeD (i := 2) (d := 52) (v := ?_) rfl rfl (by kernel_rfl) (by kernel_rfl) (by kernel_rfl) (fun _ _ _ h => h) (Or.inl ⟨by rfl, ?_⟩) hHeld ?_
                    rotate_left 1
                    · (intro w hSw; (try dsimp only at hSw); go_simp; (try with_reducible rfl))
                    simp only [List.setIfInBounds_toArray, List.set_cons_zero, List.set_cons_succ]
                    refine takeD (i := 3) (d := 53) (v := ?_) rfl rfl (by kernel_rfl) (by kernel_rfl) (by kernel_rfl) (fun _ _ _ h => h) (Or.inl ⟨by rfl, ?_⟩) hHeld ?_
                    rotate_left 1
                    · (intro w hSw; (try dsimp only at hSw); go_simp; (try with_reducible rfl))
                    simp only [List.setIfInBounds_toArray, List.set_cons_zero, List.set_cons_succ]
                    refine takeD (i := 4) (d := 54) (v := ?_) rfl rfl (by kernel_rfl) (by kernel_rfl) (by kernel_rfl) (fun _ _ _ h => h) (Or.inl ⟨by rfl, ?_⟩) hHeld ?_
                    rotate_left 1
                    · (intro w hSw; (try dsimp only at hSw); go_simp; (try with_reducible rfl))
                    simp only [List.setIfInBounds_toArray, List.set_cons_zero, List.set_cons_succ]
                    refine takeD (i := 5) (d := 55) (v := ?_) rfl rfl (by kernel_rfl) (by kernel_rfl) (by kernel_rfl) (fun _ _ _ h => h) (Or.inl ⟨by rfl, ?_⟩) hHeld ?_
                    rotate_left 1
                    · (intro w hSw; (try dsimp only at hSw); go_simp; (try with_reducible rfl))
                    simp only [List.setIfInBounds_toArray, List.set_cons_zero, List.set_cons_succ]
                    refine takeD (i := 6) (d := 56) (v := .int .u8 ((snN:Nat):Int)) rfl rfl (by kernel_rfl) (by kernel_rfl) (by kernel_rfl) (fun _ _ _ h => h) (Or.inl ⟨by rfl, fun W hSw => ?_⟩) hHeld ?_
                    · (try dsimp only at hSw)
                      have cst := hSw.cell HE4.out (by simp)
                      go_simp
                      skip
                    simp only [List.setIfInBounds_toArray, List.set_cons_zero, List.set_cons_succ]
                    refine takeD (i := 7) (d := 57) (v := .bool false) rfl rfl (by kernel_rfl) (by kernel_rfl) (by kernel_rfl) (fun _ _ _ h => h) (Or.inl ⟨by rfl, fun W hSw => ?_⟩) hHeld ?_
                    · (try dsimp only at hSw)
                      skip
                      go_simp
                      (first | done | exact hnb | simp [hnb] | omega)
                    simp only [List.setIfInBounds_toArray, List.set_cons_zero, List.set_cons_succ]
                    refine takeD (i := 8) (d := 58) (v := ?_) rfl rfl (by kernel_rfl) (by kernel_rfl) (by kernel_rfl) (fun _ _ _ h => h) (Or.inl ⟨by rfl, ?_⟩) hHeld ?_
                    rotate_left 1
                    · (intro w hSw; (try dsimp only at hSw); go_simp; (try with_reducible rfl))
                    simp only [List.setIfInBounds_toArray, List.set_cons_zero, List.set_cons_succ]
                    refine takeD (i := 9) (d := 59) (v := ?_) rfl rfl (by kernel_rfl) (by kernel_rfl) (by kernel_rfl) (fun _ _ _ h => h) (Or.inl ⟨by rfl, ?_⟩) hHeld ?_
                    rotate_left 1
                    · (intro w hSw; (try dsimp only at hSw); go_simp; (try with_reducible rfl))
                    simp only [List.setIfInBounds_toArray, List.set_cons_zero, List.set_cons_succ]
                    refine takeD (i := 10) (d := 60) (v := .int .u8 ((tyN:Nat):Int)) rfl rfl (by kernel_rfl) (by kernel_rfl) (by kernel_rfl) (fun _ _ _ h => h) (Or.inl ⟨by rfl, fun W hSw => ?_⟩) hHeld ?_
                    · (try dsimp only at hSw)
                      have cst := hSw.cell HT1.out (by simp)
                      go_simp
                      skip
                    simp only [List.setIfInBounds_toArray, List.set_cons_zero, List.set_cons_succ]
                    refine takeD (i := 11) (d := 61) (v := ?_) rfl rfl (by kernel_rfl) (by kernel_rfl) (by kernel_rfl) (fun _ _ _ h => h) (Or.inl ⟨by rfl, ?_⟩) hHeld ?_
                    rotate_left 1
                    · (intro w hSw; (try dsimp only at hSw); go_simp; (try with_reducible rfl))
                    simp only [List.setIfInBounds_toArray, List.set_cons_zero, List.set_cons_succ]
                    refine takeD (i := 12) (d := 62) (v := ?_) rfl rfl (by kernel_rfl) (by kernel_rfl) (by kernel_rfl) (fun _ _ _ h => h) (Or.inl ⟨by rfl, ?_⟩) hHeld ?_
                    rotate_left 1
                    · (intro w hSw; (try dsimp only at hSw); go_simp; (try with_reducible rfl))
                    simp only [List.setIfInBounds_toArray, List.set_cons_zero, List.set_cons_succ]
                    refine takeD (i := 13) (d := 63) (v := ?_) rfl rfl (by kernel_rfl) (by kernel_rfl) (by kernel_rfl) (fun _ _ _ h => h) (Or.inl ⟨by rfl, ?_⟩) hHeld ?_
                    rotate_left 1
                    · (intro w hSw; (try dsimp only at hSw); go_simp; (try with_reducible rfl))
                    simp only [List.setIfInBounds_toArray, List.set_cons_zero, List.set_cons_succ]
                    refine takeD (i := 14) (d := 64) (v := ?_) rfl rfl (by kernel_rfl) (by kernel_rfl) (by kernel_rfl) (fun _ _ _ h => h) (Or.inl ⟨by rfl, ?_⟩) hHeld ?_
                    rotate_left 1
                    · (intro w hSw; (try dsimp only at hSw); go_simp; (try with_reducible rfl))
                    simp only [List.setIfInBounds_toArray, List.set_cons_zero, List.set_cons_succ]
                    refine takeD (i := 15) (d := 65) (v := .int .u8 ((stN:Nat):Int)) rfl rfl (by kernel_rfl) (by kernel_rfl) (by kernel_rfl) (fun _ _ _ h => h) (Or.inl ⟨by rfl, fun W hSw => ?_⟩) hHeld ?_
                    · (try dsimp only at hSw)
                      have cst := hSw.cell HE3.out (by simp)
                      go_simp
                      skip
                    simp only [List.setIfInBounds_toArray, List.set_cons_zero, List.set_cons_succ]
                    refine takeD (i := 16) (d := 66) (v := .bool true) rfl rfl (by kernel_rfl) (by kernel_rfl) (by kernel_rfl) (fun _ _ _ h => h) (Or.inl ⟨by rfl, fun W hSw => ?_⟩) hHeld ?_
                    · (try dsimp only at hSw)
                      skip
                      go_simp
                      (first | done | exact htb | simp [htb] | omega)
                    simp only [List.setIfInBounds_toArray, List.set_cons_zero, List.set_cons_succ]
                    refine takeD (i := 17) (d := 67) (v := ?_) rfl rfl (by kernel_rfl) (by kernel_rfl) (by kernel_rfl) (fun _ _ _ h => h) (Or.inl ⟨by rfl, ?_⟩) hHeld ?_
                    rotate_left 1
                    · (intro w hSw; (try dsimp only at hSw); go_simp; (try with_reducible rfl))
                    simp only [List.setIfInBounds_toArray, List.set_cons_zero, List.set_cons_succ]
                    refine takeD (i := 18) (d := 68) (v := ?_) rfl rfl (by kernel_rfl) (by kernel_rfl) (by kernel_rfl) (fun _ _ _ h => h) (Or.inl ⟨by rfl, ?_⟩) hHeld ?_
                    rotate_left 1
                    · (intro w hSw; (try dsimp only at hSw); go_simp; (try with_reducible rfl))
                    simp only [List.setIfInBounds_toArray, List.set_cons_zero, List.set_cons_succ]
                    refine takeD (i := 19) (d := 69) (v := undef) rfl rfl (by kernel_rfl) (by kernel_rfl) (by kernel_rfl) (fun _ _ _ h => h) (Or.inr ⟨by rfl, rfl⟩) hHeld ?_
                    simp only [List.setIfInBounds_toArray, List.set_cons_zero, List.set_cons_succ]
                    refine takeD (i := 20) (d := 70) (v := undef) rfl rfl (by kernel_rfl) (by kernel_rfl) (by kernel_rfl) (fun _ _ _ h => h) (Or.inr ⟨by rfl, rfl⟩) hHeld ?_
                    simp only [List.setIfInBounds_toArray, List.set_cons_zero, List.set_cons_succ]
                    refine takeD (i := 21) (d := 71) (v := undef) rfl rfl (by kernel_rfl) (by kernel_rfl) (by kernel_rfl) (fun _ _ _ h => h) (Or.inr ⟨by rfl, rfl⟩) hHeld ?_
                    simp only [List.setIfInBounds_toArray, List.set_cons_zero, List.set_cons_succ]
                    refine takeD (i := 22) (d := 72) (v := undef) rfl rfl (by kernel_rfl) (by kernel_rfl) (by kernel_rfl) (fun _ _ _ h => h) (Or.inr ⟨by rfl, rfl⟩) hHeld ?_
                    simp only [List.setIfInBounds_toArray, List.set_cons_zero, List.set_cons_succ]
                    refine takeD (i := 23) (d := 73) (v := ?_) rfl rfl (by kernel_rfl) (by kernel_rfl) (by kernel_rfl) (fun _ _ _ h => h) (Or.inl ⟨by rfl, ?_⟩) hHeld ?_
                    rotate_left 1
                    · (intro w hSw; (try dsimp only at hSw); go_simp; (try with_reducible rfl))
                    simp only [List.setIfInBounds_toArray, List.set_cons_zero, List.set_cons_succ]
                    refine takeD (i := 24) (d := 74) (v := ?_) rfl rfl (by kernel_rfl) (by kernel_rfl) (by kernel_rfl) (fun _ _ _ h => h) (Or.inl ⟨by rfl, ?_⟩) hHeld ?_
                    rotate_left 1
                    · (intro w hSw; (try dsimp only at hSw); go_simp; (try with_reducible rfl))
                    simp only [List.setIfInBounds_toArray, List.set_cons_zero, List.set_cons_succ]
                    refine takeD (i := 25) (d := 75) (v := undef) rfl rfl (by kernel_rfl) (by kernel_rfl) (by kernel_rfl) (fun _ _ _ h => h) (Or.inr ⟨by rfl, rfl⟩) hHeld ?_
                    simp only [List.setIfInBounds_toArray, List.set_cons_zero, List.set_cons_succ]
                    refine takeD (i := 26) (d := 76) (v := undef) rfl rfl (by kernel_rfl) (by kernel_rfl) (by kernel_rfl) (fun _ _ _ h => h) (Or.inr ⟨by rfl, rfl⟩) hHeld ?_
                    simp only [List.setIfInBounds_toArray, List.set_cons_zero, List.set_cons_succ]
                    refine takeD (i := 27) (d := 77) (v := undef) rfl rfl (by kernel_rfl) (by kernel_rfl) (by kernel_rfl) (fun _ _ _ h => h) (Or.inr ⟨by rfl, rfl⟩) hHeld ?_
                    simp only [List.setIfInBounds_toArray, List.set_cons_zero, List.set_cons_succ]
                    refine takeD (i := 28) (d := 78) (v := undef) rfl rfl (by kernel_rfl) (by kernel_rfl) (by kernel_rfl) (fun _ _ _ h => h) (Or.inr ⟨by rfl, rfl⟩) hHeld ?_
                    simp only [List.setIfInBounds_toArray, List.set_cons_zero, List.set_cons_succ]
                    refine takeD (i := 29) (d := 79) (v := undef) rfl rfl (by kernel_rfl) (by kernel_rfl) (by kernel_rfl) (fun _ _ _ h => h) (Or.inr ⟨by rfl, rfl⟩) hHeld ?_
                    simp only [List.setIfInBounds_toArray, List.set_cons_zero, List.set_cons_succ]
                    refine takeD (i := 30) (d := 80) (v := ?_) rfl rfl (by kernel_rfl) (by kernel_rfl) (by kernel_rfl) (fun _ _ _ h => h) (Or.inl ⟨by rfl, ?_⟩) hHeld ?_
                    rotate_left 1
                    · (intro w hSw; (try dsimp only at hSw); go_simp; (try with_reducible rfl))
                    simp only [List.setIfInBounds_toArray, List.set_cons_zero, List.set_cons_succ]
                    refine wpAnyH_done (by kernel_rfl) ?_ _
                    go_wp2_with fail
                    go_meet
                    exact ⟨by rw [HCV.out, HB1.out, HB2.out]; rfl, hHeld⟩
                · have HB1 := Lib.hid (decide_eq_false hnb)
                  refine heldStart (S := fun W => Mods [] w4 W) 31 rfl (by kernel_rfl) Mods.refl.drew (fun hHeld => ?_)
                  refine takeD (i := 0) (d := 50) (v := ?_) rfl rfl (by kernel_rfl) (by kernel_rfl) (by kernel_rfl) (fun _ _ _ h => h) (Or.inl ⟨by rfl, ?_⟩) hHeld ?_
                  rotate_left 1
                  · (intro w hSw; (try dsimp only at hSw); go_simp; (try with_reducible rfl))
                  simp only [List.setIfInBounds_toArray, List.set_cons_zero, List.set_cons_succ]
                  refine takeD (i := 1) (d := 51) (v := .int .u8 ((nbN:Nat):Int)) rfl rfl (by kernel_rfl) (by kernel_rfl) (by kernel_rfl) (fun _ _ _ h => h) (Or.inl ⟨by rfl, fun W hSw => ?_⟩) hHeld ?_
                  · (try dsimp only at hSw)
                    have cst := hSw.cell HN0.out (by simp)
                    go_simp
                    skip
                  simp only [List.setIfInBounds_toArray, List.set_cons_zero, List.set_cons_succ]
                  refine takeD (i := 2) (d := 52) (v := ?_) rfl rfl (by kernel_rfl) (by kernel_rfl) (by kernel_rfl) (fun _ _ _ h => h) (Or.inl ⟨by rfl, ?_⟩) hHeld ?_
                  rotate_left 1
                  · (intro w hSw; (try dsimp only at hSw); go_simp; (try with_reducible rfl))
                  simp only [List.setIfInBounds_toArray, List.set_cons_zero, List.set_cons_succ]
                  refine takeD (i := 3) (d := 53) (v := ?_) rfl rfl (by kernel_rfl) (by kernel_rfl) (by kernel_rfl) (fun _ _ _ h => h) (Or.inl ⟨by rfl, ?_⟩) hHeld ?_
                  rotate_left 1
                  · (intro w hSw; (try dsimp only at hSw); go_simp; (try with_reducible rfl))
                  simp only [List.setIfInBounds_toArray, List.set_cons_zero, List.set_cons_succ]
                  refine takeD (i := 4) (d := 54) (v := ?_) rfl rfl (by kernel_rfl) (by kernel_rfl) (by kernel_rfl) (fun _ _ _ h => h) (Or.inl ⟨by rfl, ?_⟩) hHeld ?_
                  rotate_left 1
                  · (intro w hSw; (try dsimp only at hSw); go_simp; (try with_reducible rfl))
                  simp only [List.setIfInBounds_toArray, List.set_cons_zero, List.set_cons_succ]
                  refine takeD (i := 5) (d := 55) (v := ?_) rfl rfl (by kernel_rfl) (by kernel_rfl) (by kernel_rfl) (fun _ _ _ h => h) (Or.inl ⟨by rfl, ?_⟩) hHeld ?_
                  rotate_left 1
                  · (intro w hSw; (try dsimp only at hSw); go_simp; (try with_reducible rfl))
                  simp only [List.setIfInBounds_toArray, List.set_cons_zero, List.set_cons_succ]
                  refine takeD (i := 6) (d := 56) (v := .int .u8 ((snN:Nat):Int)) rfl rfl (by kernel_rfl) (by kernel_rfl) (by kernel_rfl) (fun _ _ _ h => h) (Or.inl ⟨by rfl, fun W hSw => ?_⟩) hHeld ?_
                  · (try dsimp only at hSw)
                    have cst := hSw.cell HE4.out (by simp)
                    go_simp
                    skip
                  simp only [List.setIfInBounds_toArray, List.set_cons_zero, List.set_cons_succ]
                  refine takeD (i := 7) (d := 57) (v := .bool true) rfl rfl (by kernel_rfl) (by kernel_rfl) (by kernel_rfl) (fun _ _ _ h => h) (Or.inl ⟨by rfl, fun W hSw => ?_⟩) hHeld ?_
                  · (try dsimp only at hSw)
                    skip
                    go_simp
                    (first | done | exact hnb | simp [hnb] | omega)
                  simp only [List.setIfInBounds_toArray, List.set_cons_zero, List.set_cons_succ]
                  refine takeD (i := 8) (d := 58) (v := ?_) rfl rfl (by kernel_rfl) (by kernel_rfl) (by kernel_rfl) (fun _ _ _ h => h) (Or.inl ⟨by rfl, ?_⟩) hHeld ?_
                  rotate_left 1
                  · (intro w hSw; (try dsimp only at hSw); go_simp; (try with_reducible rfl))
                  simp only [List.setIfInBounds_toArray, List.set_cons_zero, List.set_cons_succ]
                  refine takeD (i := 9) (d := 59) (v := undef) rfl rfl (by kernel_rfl) (by kernel_rfl) (by kernel_rfl) (fun _ _ _ h => h) (Or.inr ⟨by rfl, rfl⟩) hHeld ?_
                  simp only [List.setIfInBounds_toArray, List.set_cons_zero, List.set_cons_succ]
                  refine takeD (i := 10) (d := 60) (v := undef) rfl rfl (by kernel_rfl) (by kernel_rfl) (by kernel_rfl) (fun _ _ _ h => h) (Or.inr ⟨by rfl, rfl⟩) hHeld ?_
                  simp only [List.setIfInBounds_toArray, List.set_cons_zero, List.set_cons_succ]
                  refine takeD (i := 11) (d := 61) (v := undef) rfl rfl (by kernel_rfl) (by kernel_rfl) (by kernel_rfl) (fun _ _ _ h => h) (Or.inr ⟨by rfl, rfl⟩) hHeld ?_
                  simp only [List.setIfInBounds_toArray, List.set_cons_zero, List.set_cons_succ]
                  refine takeD (i := 12) (d := 62) (v := undef) rfl rfl (by kernel_rfl) (by kernel_rfl) (by kernel_rfl) (fun _ _ _ h => h) (Or.inr ⟨by rfl, rfl⟩) hHeld ?_
                  simp only [List.setIfInBounds_toArray, List.set_cons_zero, List.set_cons_succ]
                  refine takeD (i := 13) (d := 63) (v := undef) rfl rfl (by kernel_rfl) (by kernel_rfl) (by kernel_rfl) (fun _ _ _ h => h) (Or.inr ⟨by rfl, rfl⟩) hHeld ?_
                  simp only [List.setIfInBounds_toArray, List.set_cons_zero, List.set_cons_succ]
                  refine takeD (i := 14) (d := 64) (v := undef) rfl rfl (by kernel_rfl) (by kernel_rfl) (by kernel_rfl) (fun _ _ _ h => h) (Or.inr ⟨by rfl, rfl⟩) hHeld ?_
                  simp only [List.setIfInBounds_toArray, List.set_cons_zero, List.set_cons_succ]
                  refine takeD (i := 15) (d := 65) (v := undef) rfl rfl (by kernel_rfl) (by kernel_rfl) (by kernel_rfl) (fun _ _ _ h => h) (Or.inr ⟨by rfl, rfl⟩) hHeld ?_
                  simp only [List.setIfInBounds_toArray, List.set_cons_zero, List.set_cons_succ]
                  refine takeD (i := 16) (d := 66) (v := undef) rfl rfl (by kernel_rfl) (by kernel_rfl) (by kernel_rfl) (fun _ _ _ h => h) (Or.inr ⟨by rfl, rfl⟩) hHeld ?_
                  simp only [List.setIfInBounds_toArray, List.set_cons_zero, List.set_cons_succ]
                  refine takeD (i := 17) (d := 67) (v := ?_) rfl rfl (by kernel_rfl) (by kernel_rfl) (by kernel_rfl) (fun _ _ _ h => h) (Or.inl ⟨by rfl, ?_⟩) hHeld ?_
                  rotate_left 1
                  · (intro w hSw; (try dsimp only at hSw); go_simp; (try with_reducible rfl))
                  simp only [List.setIfInBounds_toArray, List.set_cons_zero, List.set_cons_succ]
                  refine takeD (i := 18) (d := 68) (v := ?_) rfl rfl (by kernel_rfl) (by kernel_rfl) (by kernel_rfl) (fun _ _ _ h => h) (Or.inl ⟨by rfl, ?_⟩) hHeld ?_
                  rotate_left 1
                  · (intro w hSw; (try dsimp only at hSw); go_simp; (try with_reducible rfl))
                  simp only [List.setIfInBounds_toArray, List.set_cons_zero, List.set_cons_succ]
                  refine takeD (i := 19) (d := 69) (v := undef) rfl rfl (by kernel_rfl) (by kernel_rfl) (by kernel_rfl) (fun _ _ _ h => h) (Or.inr ⟨by rfl, rfl⟩) hHeld ?_
                  simp only [List.setIfInBounds_toArray, List.set_cons_zero, List.set_cons_succ]
                  refine takeD (i := 20) (d := 70) (v := undef) rfl rfl (by kernel_rfl) (by kernel_rfl) (by kernel_rfl) (fun _ _ _ h => h) (Or.inr ⟨by rfl, rfl⟩) hHeld ?_
                  simp only [List.setIfInBounds_toArray, List.set_cons_zero, List.set_cons_succ]
                  refine takeD (i := 21) (d := 71) (v := undef) rfl rfl (by kernel_rfl) (by kernel_rfl) (by kernel_rfl) (fun _ _ _ h => h) (Or.inr ⟨by rfl, rfl⟩) hHeld ?_
                  simp only [List.setIfInBounds_toArray, List.set_cons_zero, List.set_cons_succ]
                  refine takeD (i := 22) (d := 72) (v := undef) rfl rfl (by kernel_rfl) (by kernel_rfl) (by kernel_rfl) (fun _ _ _ h => h) (Or.inr ⟨by rfl, rfl⟩) hHeld ?_
                  simp only [List.setIfInBounds_toArray, List.set_cons_zero, List.set_cons_succ]
                  refine takeD (i := 23) (d := 73) (v := ?_) rfl rfl (by kernel_rfl) (by kernel_rfl) (by kernel_rfl) (fun _ _ _ h => h) (Or.inl ⟨by rfl, ?_⟩) hHeld ?_
                  rotate_left 1
                  · (intro w hSw; (try dsimp only at hSw); go_simp; (try with_reducible rfl))
                  simp only [List.setIfInBounds_toArray, List.set_cons_zero, List.set_cons_succ]
                  refine takeD (i := 24) (d := 74) (v := ?_) rfl rfl (by kernel_rfl) (by kernel_rfl) (by kernel_rfl) (fun _ _ _ h => h) (Or.inl ⟨by rfl, ?_⟩) hHeld ?_
                  rotate_left 1
                  · (intro w hSw; (try dsimp only at hSw); go_simp; (try with_reducible rfl))
                  simp only [List.setIfInBounds_toArray, List.set_cons_zero, List.set_cons_succ]
                  refine takeD (i := 25) (d := 75) (v := undef) rfl rfl (by kernel_rfl) (by kernel_rfl) (by kernel_rfl) (fun _ _ _ h => h) (Or.inr ⟨by rfl, rfl⟩) hHeld ?_
                  simp only [List.setIfInBounds_toArray, List.set_cons_zero, List.set_cons_succ]
                  refine takeD (i := 26) (d := 76) (v := undef) rfl rfl (by kernel_rfl) (by kernel_rfl) (by kernel_rfl) (fun _ _ _ h => h) (Or.inr ⟨by rfl, rfl⟩) hHeld ?_
                  simp only [List.setIfInBounds_toArray, List.set_cons_zero, List.set_cons_succ]
                  refine takeD (i := 27) (d := 77) (v := undef) rfl rfl (by kernel_rfl) (by kernel_rfl) (by kernel_rfl) (fun _ _ _ h => h) (Or.inr ⟨by rfl, rfl⟩) hHeld ?_
                  simp only [List.setIfInBounds_toArray, List.set_cons_zero, List.set_cons_succ]
                  refine takeD (i := 28) (d := 78) (v := undef) rfl rfl (by kernel_rfl) (by kernel_rfl) (by kernel_rfl) (fun _ _ _ h => h) (Or.inr ⟨by rfl, rfl⟩) hHeld ?_
                  simp only [List.setIfInBounds_toArray, List.set_cons_zero, List.set_cons_succ]
                  refine takeD (i := 29) (d := 79) (v := undef) rfl rfl (by kernel_rfl) (by kernel_rfl) (by kernel_rfl) (fun _ _ _ h => h) (Or.inr ⟨by rfl, rfl⟩) hHeld ?_
                  simp only [List.setIfInBounds_toArray, List.set_cons_zero, List.set_cons_succ]
                  refine takeD (i := 30) (d := 80) (v := ?_) rfl rfl (by kernel_rfl) (by kernel_rfl) (by kernel_rfl) (fun _ _ _ h => h) (Or.inl ⟨by rfl, ?_⟩) hHeld ?_
                  rotate_left 1
                  · (intro w hSw; (try dsimp only at hSw); go_simp; (try with_reducible rfl))
                  simp only [List.setIfInBounds_toArray, List.set_cons_zero, List.set_cons_succ]
                  refine wpAnyH_done (by kernel_rfl) ?_ _
                  go_wp2_with fail
                  go_meet
                  exact ⟨by rw [HCV.out, HB1.out]; rfl, hHeld⟩
              case rest => as_aux_lemma =>
                obtain ⟨rfl, MC⟩ := hcut
                have HMC := Lib.hid (HM4.out.trans MC)
                have HMGC := Lib.hid (show Mods [g] w3 wc from HMG4.out.comp0 MC)
                have HRC := Lib.hid (HR4.out.mods0 MC)
                have HE6C := Lib.hid (MC.cell HE6.out (by simp))
                clear MC HM4 HMG4 HR4 HN0 HT1 HT6 HE3 HE4 HE6 HBX HIS HBL HCV
                cases hcq : cv with
                | false =>
                  have HNJ := Lib.hid (show RS (j + 1) = RS j from by
                    rw [HRT.out, HRT.out]
                    by_cases h : j = K
                    · have h2 := HCQ.out
                      rw [hcq, decide_eq_true h, Bool.true_and] at h2
                      rw [← h, h2, Bool.and_false, Bool.and_false]
                    · have : decide (K < j + 1) = decide (K < j) := by rw [Bool.eq_iff_iff, decide_eq_true_eq, decide_eq_true_eq]; omega
                      rw [this])
                  have HRN := Lib.hid (show Row16 wc g (RS (j + 1)) from by rw [HNJ.out]; exact HRC.out)
                  clear hcq
                  go_wp2_with fail
                  go_roundw
                  case rel => exact ⟨j + 1, by omega, by go_num, HMC.out, HMGC.out, HRN.out⟩
                  case measure => simp [intOf]; omega
                | true =>
                  have hjk : j = K := by
                    have h2 := HCQ.out
                    rw [hcq, Bool.and_eq_true] at h2
                    exact of_decide_eq_true h2.1
                  have HRJ := Lib.hid (show RS j = st from by rw [HRT.out, decide_eq_false (by omega), Bool.false_and, if_neg (by simp)])
                  have HRJ1 := Lib.hid (show RS (j + 1) = st.set j (newV (st.getD j 0) ix de) from by
                    have h2 := HCQ.out
                    rw [hcq, Bool.and_eq_true] at h2
                    rw [HRT.out, ← hjk, decide_eq_true (by omega), h2.2]
                    rfl)
                  have HRC2 := Lib.hid (show Row16 wc g st from by rw [← HRJ.out]; exact HRC.out)
                  have hjs : j < st.length := by rw [HFO.out.1]; exact hjl
                  have HX := Lib.hid (HFO.out.2 j)
                  have hc := HRC2.out.c hjs
                  have hfr := HRC2.out.fr j
                  have hpow := pow16 HIL.out
                  have hor := u16_or_nat (st.getD j 0) (2 ^ ix) HX.out (pow16_lt HIL.out)
                  have han := u16_andNot_nat (st.getD j 0) (2 ^ ix) HX.out (pow16_lt HIL.out)
                  have HNV := Lib.hid (show newV (st.getD j 0) ix de = if de then st.getD j 0 &&& (65535 - 2 ^ ix) else st.getD j 0 ||| 2 ^ ix from rfl)
                  have ce := HE6C.out
                  clear hcq hjk HCQ HRJ HRC hjs
                  generalize st.getD j 0 = x at hc hor han HX HNV HRJ1
                  generalize hpx : 2 ^ ix = px at hpow hor han HNV
                  clear hpx
                  cases hde : de with
                  | false =>
                    have HN2 := Lib.hid (fun W (h : Row16 W g (st.set j (x ||| px))) => show Row16 W g (RS (j + 1)) from by rw [HRJ1.out, HNV.out, hde]; exact h)
                    rw [hde] at ce
                    generalize x ||| px = xo at hor HN2
                    go_wp2_with fail
                    go_roundw
                    case rel => exact ⟨j + 1, by omega, by go_num, HMC.out.setCell (.inr HGG.out) _, HMGC.out.setCell (.inl (by simp)) _, HN2.out _ (HRC2.out.set j xo)⟩
                    case measure => simp [intOf]; omega
                  | true =>
                    have HN2 := Lib.hid (fun W (h : Row16 W g (st.set j (x &&& (65535 - px)))) => show Row16 W g (RS (j + 1)) from by rw [HRJ1.out, HNV.out, hde]; exact h)
                    rw [hde] at ce
                    generalize x &&& (65535 - px) = xa at han HN2
                    go_wp2_with fail
                    go_roundw
                    case rel => exact ⟨j + 1, by omega, by go_num, HMC.out.setCell (.inr HGG.out) _, HMGC.out.setCell (.inl (by simp)) _, HN2.out _ (HRC2.out.set j xa)⟩
                    case measure => simp [intOf]; omega
            · have j1 : ¬ (j : Int) < (l.length : Int) := by omega
              have hjl2 : j = l.length := by omega
              have HRN := Lib.hid (HNX.out _ (by rw [← hjl2]; exact HR.out))
              clear hjl2
              go_wp2_with fail
              go_roundw
              case rel => exact ⟨k + 1, by omega, by go_num, HM.out, HRN.out⟩
              case measure => simp [intOf]; omega
      · have i1 : ¬ (k : Int) < (E.length : Int) := by omega
        have hkE : k = E.length := by omega
        have HFN := Lib.hid (show Row16 wr g (recAll l E) from by
          have h := HR.out
          rw [hkE, List.take_length] at h
          exact h)
        clear hkE
        go_wp2_with fail
        go_ret2
        exact HP.out _ _ g ⟨rfl, HGG.out, HFN.out, HM.out⟩
end Go.Proofs.YtijjkonephjodaaGreatDoor
