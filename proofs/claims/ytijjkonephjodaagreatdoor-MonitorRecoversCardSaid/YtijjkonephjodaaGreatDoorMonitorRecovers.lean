/- MonitorRecovers: the walk. Printed by genrecovers.py out of XMonitorRecovers.body. -/
import Derived.Test.YtijjkonephjodaaGreatDoorMoAw
import Derived.Test.YtijjkonephjodaaGreatDoorMoRrec
import Derived.Test.YtijjkonephjodaaGreatDoorMoMade
namespace Go.Proofs.YtijjkonephjodaaGreatDoor
open Go.RowKit
set_option linter.unusedVariables false
set_option linter.unusedSimpArgs false
set_option maxRecDepth 100000
/-- The events while the law makes them. -/
def RcMk (w0 w2 : World) (bd : Nat) (v : Value) (L : List Int) (u : Value) (A : List SenX) (vm : Value) (n k : Nat) (wr : World) : Prop :=
  ∃ E j, OwnE evE wr w2.heap.size vm E ∧ E.length + k ≤ n ∧ IsDice wr bd v L j ∧ RdSens wr u A ∧ Mods [] w0 wr ∧ w2.heap.size ≤ wr.heap.size
theorem recAll_len (l : List SenX) (E : List Evt) : (recAll l E).length = l.length := (recFold_ok l E _ (zeros_ok l.length).1 (zeros_ok l.length).2).1
def evSt (e : Evt) (x : Nat) : Evt := { e with st := f8 x }
set_option maxHeartbeats 16000000 in
theorem monitorRecovers_walk (w : World) (hO : OffAt w) (v : Value) (L : List Int) (hv : Rd w v (i64s L)) (hb : ∀ i, -9223372036854775808 ≤ L.getD i 0 ∧ L.getD i 0 ≤ 9223372036854775807) (vl : Value) (E0 : List Evt) (hvl : RdE evE w vl E0) :
    Calls Tryz.prog 6 #[v, vl] w fun e w' => e = .returned (.bool true) ∧ Mods [] w w' := by
  have HL := Lib.hid (light_ok _ v L hv)
  have HV := Lib.hid hv
  have HVL := Lib.hid hvl
  have HB := Lib.hid hb
  have HO := Lib.hid hO
  have hcap := hvl.bound
  obtain ⟨al, cl, rfl⟩ := hvl.len
  clear hv hb hvl hO
  by_cases hl : L.length ≤ 600
  · have HLL := Lib.hid (decide_eq_true hl)
    by_cases h60 : E0.length ≤ 60
    · have d60 : decide ((E0.length : Int) > 60) = false := decide_eq_false (by omega)
      go_enter Tryz.func6, Tryz.ntmps6
      go_wp2_with fail
      refine HL.out.mono ?_
      rw [HLL.out]
      rintro e w' ⟨rfl, rfl⟩
      go_wp2_with fail
      refine (roll_ok w v L HV.out (by omega) HB.out).mono ?_
      rintro e w1 ⟨rfl, D1, M1, z1⟩
      go_wp2_with fail
      refine (sensors_ok w1 w.heap.size v L 0 D1 5 (by omega)).mono ?_
      rintro e w2 ⟨u, A, j2, rfl, OB, hA5, hG, hP, D2, M2⟩
      obtain ⟨au, cu, rfl⟩ := (OB.rd senOk).len
      have HM2 := Lib.hid (show Mods [] w w2 from M1.comp M2 (fun q hq => by simp at hq; subst hq; exact .inr (Nat.le_refl _)))
      have HRS := Lib.hid (show RdSens w2 (.slice au A.length cu) A from ⟨OB.rd senOk, fun i hi => (hP i hi).is⟩)
      have HUN := Lib.hid (show (∀ q, (Value.slice au A.length cu).ownBlock = some q → w.heap.size < q ∧ q < w2.heap.size) ∧ (∀ i, i < A.length → ∀ q, (A.getD i default).S.conv.pts.ownBlock = some q → w.heap.size < q ∧ q < w2.heap.size) from
        ⟨fun q hq => ⟨Nat.lt_of_lt_of_le z1 (OB.lt q hq).1, (OB.lt q hq).2⟩, fun i hi q hq => ⟨Nat.lt_of_lt_of_le z1 ((hP i hi).pts q hq).1, ((hP i hi).pts q hq).2.1⟩⟩)
      have HA5 := Lib.hid hA5
      have HCK := Lib.hid (chkS_good hG (by omega))
      have n5 : ((A.length : Nat) : Int) ≤ 5 := by omega
      have HD2 := Lib.hid D2
      have HZB := Lib.hid (show w.heap.size < w2.heap.size from D2.lt)
      have HLV := Lib.hid (show L ≠ [] → ∀ q, v.ownBlock = some q → q < w2.heap.size from D2.old)
      have HKS := Lib.hid (show ∀ W1 W2, Mods [w.heap.size] W1 W2 → RdSens W1 (.slice au A.length cu) A → RdSens W2 (.slice au A.length cu) A from fun W1 W2 M h => ⟨h.rd.mods senOk M (fun _ q hq => by have := HUN.out.1 q hq; simp; omega), fun i hi => (h.is i hi).mods M (fun _ q hq => by have := HUN.out.2 i hi q hq; simp; omega)⟩)
      clear D1 M1 z1 OB hA5 hG hP D2 M2
      generalize hbd : w.heap.size = bd at HD2 HZB HKS HUN ⊢
      have HBD := Lib.hid (show w.heap.size ≤ bd from Nat.le_of_eq hbd)
      clear hbd
      go_wp2_with fail
      refine (next_ok w2 bd v L j2 HD2.out 20 (by omega) (by omega)).mono ?_
      rintro e w3 ⟨r0, j3, rfl, ra, rb, D3, M3⟩
      obtain ⟨r0, rfl⟩ := Int.eq_ofNat_of_zero_le ra
      have HR0 := Lib.hid (show r0 ≤ 19 by omega)
      have HST := Lib.hid (show RcMk w w2 bd v L (.slice au A.length cu) A (.slice none 0 0) 19 r0 w3 from ⟨[], j3, OwnE.nil _ _ _, by simp; omega, D3, HKS.out _ _ M3 HRS.out, HM2.out.comp M3 (fun q hq => by simp at hq; subst hq; exact .inr HBD.out), M3.size⟩)
      clear D3 M3 ra rb HD2 HM2 HRS
      go_wp2_with fail
      go_loopw [7, 8] (fun vm i wr => ∃ k : Nat, i = .int .i64 (k : Nat) ∧ Hid (RcMk w w2 bd v L (.slice au A.length cu) A vm 19 k wr)) (fun _ i _ => (intOf i).toNat)
      case atStart => exact ⟨r0, rfl, HST⟩
      clear HST
      case round =>
        obtain ⟨k, rfl, HK⟩ := hrel
        obtain ⟨E, j3, hOE, hEl, hD, hSn, hM, hz⟩ := HK.out
        obtain ⟨ma, mc, rfl⟩ := (hOE.rd evOk).len
        have HOE := Lib.hid hOE
        have HEL := Lib.hid hEl
        have HD := Lib.hid hD
        have HSN := Lib.hid hSn
        have HMW := Lib.hid hM
        have HZ := Lib.hid hz
        clear hOE hEl hD hSn hM hz HK
        by_cases hk : 0 < k
        · have d1 : decide ((k : Int) > 0) = true := decide_eq_true (by omega)
          by_cases hA0 : 0 < A.length
          · have d2 : decide (((A.length : Nat) : Int) > 0) = true := decide_eq_true (by omega)
            have a1 : (0 : Int) < ((A.length : Nat) : Int) := by omega
            obtain ⟨k, rfl⟩ : ∃ m, k = m + 1 := ⟨k - 1, by omega⟩
            have k19 : (k : Int) ≤ 19 := by have := HEL.out; omega
            go_wp2_with fail
            refine (next_ok wr bd v L j3 HD.out ((A.length : Nat) : Int) (by omega) (by omega)).mono ?_
            rintro e wx ⟨qi, j4, rfl, qa, qb, D4, M4⟩
            obtain ⟨qn, rfl⟩ := Int.eq_ofNat_of_zero_le qa
            have hqn : qn < A.length := by omega
            have HOE4 := Lib.hid (HOE.out.mods M4 (fun q hq hm => by simp at hm; subst hm; have h1 := (HOE.out.lt _ hq).1; have h2 := HZB.out; omega))
            have HSN4 := Lib.hid (HKS.out _ _ M4 HSN.out)
            have HMW4 := Lib.hid (HMW.out.comp M4 (fun q hq => by simp at hq; subst hq; exact .inr HBD.out))
            have HZ4 := Lib.hid (Nat.le_trans HZ.out M4.size)
            have HD4 := Lib.hid D4
            obtain ⟨bb, off, cap', hv2, hb1, hb2⟩ := HSN4.out.at (by omega)
            injection hv2 with hv3 hv5 hv4
            subst hv3 hv4
            clear hv5
            have HRG := Lib.hid (show wx.rangeAt bb (off + qn * 28) (A.getD qn default).S.cells.toList from HSN4.out.range hqn)
            have HIS := Lib.hid (HSN4.out.is qn hqn)
            have hone := Lib.hid HIS.out.conv.rd.one
            have HTY := Lib.hid HIS.out.type
            have HNU := Lib.hid HIS.out.number
            clear D4 M4 HOE HSN HMW HZ HD HIS
            generalize (A.getD qn default).S = S at HRG hone HTY HNU
            go_wp2_with (first
              | (refine wpList_load_mid rfl 40 (.tmp 48) rfl bb (off + qn * 28) (by rfl) S.cells.toList _ HRG.out Tryz.underlying40 rfl (Sen.infoS S) ?_)
              | (refine wpList_store_row (cs := S.cells) rfl 40 (.tmp 9) (.tmp 49) rfl (heap_alloc_new wx _) (by rfl) (by rfl) (by rfl) (Sen.infoS _) (Sen.one _ hone.out) ?_; go_loud (intro w3 R3 M3; have HB3 := Lib.hid (SenBox.mk R3); have HM3 := Lib.hid (freshA M3); clear R3 M3)))
            have HG9 := Lib.hid (show wx.heap.size ≠ bd from by have := HD4.out.lt; omega)
            have HD0 := Lib.hid (show IsDice w3.drew bd v L j4 from (HD4.out.mods0 HM3.out).mods0 Mods.refl.drew)
            have HCN := Lib.hid ((HB3.out.c 0).trans (show _ = some (Value.int .u8 ((S.number : Nat) : Int)) from rfl))
            have HCT := Lib.hid ((HB3.out.c 1).trans (show _ = some (Value.int .u8 ((S.type : Nat) : Int)) from rfl))
            generalize wx.heap.size = g9 at HB3 HG9 HCN HCT ⊢
            go_upto_region 10 with (fail)
            (try dsimp only [Act.put])
            go_cut [10, 11] (fun p q wx => q = .int .i64 0 ∧ ∃ g10 ev, p = .pointer (some ⟨g10, 0, none⟩) ∧ wx.heap[g10]? = some (.cells (Evt.cells ev).toArray 65 (0, 0)) ∧ w3.heap.size ≤ g10 ∧ (∃ j, IsDice wx bd v L j) ∧ Mods [bd] w3 wx)
            case first => as_aux_lemma =>
              clear HOE4 HSN4 HMW4 HZ4 HRG HB3 HKS HUN HO HL HV HVL
              refine heldStart (S := fun W => Mods [bd] w3 W) 15 rfl (by kernel_rfl) Mods.refl.drew (fun hHeld => ?_)
              refine takeD (i := 0) (d := 51) (v := ?_) rfl rfl (by kernel_rfl) (by kernel_rfl) (by kernel_rfl) (fun _ _ _ h => h) (Or.inl ⟨by rfl, ?_⟩) hHeld ?_
              rotate_left 1
              · (intro w hSw; (try dsimp only at hSw); go_simp; (try with_reducible rfl))
              simp only [List.setIfInBounds_toArray, List.set_cons_zero, List.set_cons_succ]
              refine takeD (i := 1) (d := 52) (v := .int .u8 ((S.type:Nat):Int)) rfl rfl (by kernel_rfl) (by kernel_rfl) (by kernel_rfl) (fun _ _ _ h => h) (Or.inl ⟨by rfl, fun W hSw => ?_⟩) hHeld ?_
              · (try dsimp only at hSw)
                have cst := hSw.cell HCT.out (by simpa using HG9.out)
                go_simp
                skip
              simp only [List.setIfInBounds_toArray, List.set_cons_zero, List.set_cons_succ]
              refine takeD (i := 2) (d := 53) (v := ?_) rfl rfl (by kernel_rfl) (by kernel_rfl) (by kernel_rfl) (fun _ _ _ h => h) (Or.inl ⟨by rfl, ?_⟩) hHeld ?_
              rotate_left 1
              · (intro w hSw; (try dsimp only at hSw); go_simp; (try with_reducible rfl))
              simp only [List.setIfInBounds_toArray, List.set_cons_zero, List.set_cons_succ]
              refine takeD (i := 3) (d := 54) (v := .int .u8 ((S.number:Nat):Int)) rfl rfl (by kernel_rfl) (by kernel_rfl) (by kernel_rfl) (fun _ _ _ h => h) (Or.inl ⟨by rfl, fun W hSw => ?_⟩) hHeld ?_
              · (try dsimp only at hSw)
                have cst := hSw.cell HCN.out (by simpa using HG9.out)
                go_simp
                skip
              simp only [List.setIfInBounds_toArray, List.set_cons_zero, List.set_cons_succ]
              refine takeD (i := 4) (d := 55) (v := ?_) rfl rfl (by kernel_rfl) (by kernel_rfl) (by kernel_rfl) (fun _ _ _ h => h) (Or.inl ⟨by rfl, ?_⟩) hHeld ?_
              rotate_left 1
              · (intro w hSw; (try dsimp only at hSw); go_simp; (try with_reducible rfl))
              simp only [List.setIfInBounds_toArray, List.set_cons_zero, List.set_cons_succ]
              refine takeD (i := 6) (d := 57) (v := ?_) rfl rfl (by kernel_rfl) (by kernel_rfl) (by kernel_rfl) (fun _ _ _ h => h) (Or.inl ⟨by rfl, ?_⟩) hHeld ?_
              rotate_left 1
              · (intro w hSw; (try dsimp only at hSw); go_simp; (try with_reducible rfl))
              simp only [List.setIfInBounds_toArray, List.set_cons_zero, List.set_cons_succ]
              refine wpAnyH_ready (rs := [5, 12]) (by kernel_rfl) (by simp) ?_
              refine AllReadyH.cons rfl (fun K hK => ?_) (AllReadyH.cons rfl (fun K hK => ?_) AllReadyH.nil)
              · go_simp
                go_wp2_with (go_at_call 24; refine (next_ok _ bd v L j4 HD0.out 6 (by omega) (by omega)).mono ?_; rintro e wa ⟨r6, ja, rfl, ra, rb, Da, Ma⟩)
                refine hK.out _ _ (hHeld.trans Ma) (fun hHeld => ?_)
                clear hK K
                obtain ⟨rn, rfl⟩ := Int.eq_ofNat_of_zero_le ra
                have HR6 := Lib.hid (show rn < 6 from by omega)
                have HDa := Lib.hid Da
                refine wpAnyH_ready (rs := [7, 12]) (by kernel_rfl) (by simp) ?_
                refine AllReadyH.cons rfl (fun K hK => ?_) (AllReadyH.cons rfl (fun K hK => ?_) AllReadyH.nil)
                · go_simp
                  go_wp2_with (go_at_call 29; refine (bool_ok _ bd v L ja HDa.out 2 (by omega) (by omega)).mono ?_; rintro e wb ⟨qb, jb, rfl, Db, Mb⟩)
                  refine hK.out _ _ (hHeld.trans Mb) (fun hHeld => ?_)
                  clear hK K
                  have HDb := Lib.hid Db
                  refine wpAnyH_ready (rs := [8, 12]) (by kernel_rfl) (by simp) ?_
                  refine AllReadyH.cons rfl (fun K hK => ?_) (AllReadyH.cons rfl (fun K hK => ?_) AllReadyH.nil)
                  · go_simp
                    go_wp2_with (go_at_call 28; refine (refThrE_ok _ S.type S.number rn qb 1 2 HTY.out HNU.out HR6.out (by decide) (by decide)).mono ?_; rintro e wd ⟨rfl, Md⟩)
                    refine hK.out _ _ (hHeld.trans Md.nil) (fun hHeld => ?_)
                    clear hK K
                    have HDd := Lib.hid (HDb.out.mods0 Md)
                    refine takeD (i := 9) (d := 50) (v := ?_) rfl rfl (by kernel_rfl) (by kernel_rfl) (by kernel_rfl) (fun _ _ _ h => h) (Or.inl ⟨by rfl, ?_⟩) hHeld ?_
                    rotate_left 1
                    · (intro w hSw; (try dsimp only at hSw); go_simp; (try with_reducible rfl))
                    simp only [List.setIfInBounds_toArray, List.set_cons_zero, List.set_cons_succ]
                    refine takeD (i := 10) (d := 60) (v := ?_) rfl rfl (by kernel_rfl) (by kernel_rfl) (by kernel_rfl) (fun _ _ _ h => h) (Or.inl ⟨by rfl, ?_⟩) hHeld ?_
                    rotate_left 1
                    · (intro w hSw; (try dsimp only at hSw); go_simp; (try with_reducible rfl))
                    simp only [List.setIfInBounds_toArray, List.set_cons_zero, List.set_cons_succ]
                    refine takeD (i := 11) (d := 61) (v := ?_) rfl rfl (by kernel_rfl) (by kernel_rfl) (by kernel_rfl) (fun _ _ _ h => h) (Or.inl ⟨by rfl, ?_⟩) hHeld ?_
                    rotate_left 1
                    · (intro w hSw; (try dsimp only at hSw); go_simp; (try with_reducible rfl))
                    simp only [List.setIfInBounds_toArray, List.set_cons_zero, List.set_cons_succ]
                    refine wpAnyH_ready (rs := [12]) (by kernel_rfl) (by simp) ?_
                    refine AllReadyH.cons rfl (fun K hK => ?_) AllReadyH.nil
                    have HA0 := Lib.hid ((Mods.refl (S := []) (w := wd)).alloc (.cells #[.int .u16 0, .int .u32 0, .int .u16 0, .int .u8 0, .int .u8 0, .int .u8 0, .bool false, .int .u8 0, .int .u8 0, .int .u8 0] 65))
                    have HE := Lib.hid (heap_alloc_new wd (.cells #[.int .u16 0, .int .u32 0, .int .u16 0, .int .u8 0, .int .u8 0, .int .u8 0, .bool false, .int .u8 0, .int .u8 0, .int .u8 0] 65))
                    have HGE := Lib.hid (show wd.heap.size ≠ bd from by have := HDd.out.lt; omega)
                    have HZE := Lib.hid (show w3.heap.size ≤ wd.heap.size from hHeld.size)
                    have HDE := Lib.hid (HDd.out.mods0 HA0.out)
                    go_simp
                    refine hK.out _ _ (hHeld.trans HA0.out.nil) (fun hHeld => ?_)
                    clear hK K
                    clear HA0
                    refine wpAnyH_ready (rs := [13]) (by kernel_rfl) (by simp) ?_
                    refine AllReadyH.cons rfl (fun K hK => ?_) AllReadyH.nil
                    refine exec_store rfl rfl rfl HE.out rfl rfl (by rfl) Tryz.sizeEv (Evt.one (thrE S.type S.number rn qb 1 2)) (fun wz RZ MZ => ?_)
                    refine hK.out _ _ ?_ (fun hHeld => ?_)
                    · exact hHeld.comp MZ (fun q hq => by simp at hq; subst hq; exact .inr HZE.out)
                    clear hK K
                    refine takeD (i := 14) (d := 11) (v := ?_) rfl rfl (by kernel_rfl) (by kernel_rfl) (by kernel_rfl) (fun _ _ _ h => h) (Or.inl ⟨by rfl, ?_⟩) hHeld ?_
                    rotate_left 1
                    · (intro w hSw; (try dsimp only at hSw); go_simp; (try with_reducible rfl))
                    simp only [List.setIfInBounds_toArray, List.set_cons_zero, List.set_cons_succ]
                    refine wpAnyH_done (by kernel_rfl) ?_ _
                    have HDZ := Lib.hid (HDE.out.mods MZ (by simpa using fun h => HGE.out h.symm) (fun hl q hq => by have h1 := HD0.out.old hl q hq; have h2 : q < w3.heap.size := h1; have h3 := HZE.out; simp; omega))
                    go_wp2_with fail
                    go_meet
                    exact ⟨rfl, _, _, rfl, RZ, HZE.out, ⟨_, HDZ.out⟩, hHeld⟩
                  · have HA0 := Lib.hid ((Mods.refl (S := []) (w := wb)).alloc (.cells #[.int .u16 0, .int .u32 0, .int .u16 0, .int .u8 0, .int .u8 0, .int .u8 0, .bool false, .int .u8 0, .int .u8 0, .int .u8 0] 65))
                    have HE := Lib.hid (heap_alloc_new wb (.cells #[.int .u16 0, .int .u32 0, .int .u16 0, .int .u8 0, .int .u8 0, .int .u8 0, .bool false, .int .u8 0, .int .u8 0, .int .u8 0] 65))
                    have HGE := Lib.hid (show wb.heap.size ≠ bd from by have := HDb.out.lt; omega)
                    have HZE := Lib.hid (show w3.heap.size ≤ wb.heap.size from hHeld.size)
                    have HDE := Lib.hid (HDb.out.mods0 HA0.out)
                    go_simp
                    refine hK.out _ _ (hHeld.trans HA0.out.nil) (fun hHeld => ?_)
                    clear hK K
                    clear HA0
                    refine wpAnyH_ready (rs := [8]) (by kernel_rfl) (by simp) ?_
                    refine AllReadyH.cons rfl (fun K hK => ?_) AllReadyH.nil
                    go_simp
                    go_wp2_with (go_at_call 28; refine (refThrE_ok _ S.type S.number rn qb 1 2 HTY.out HNU.out HR6.out (by decide) (by decide)).mono ?_; rintro e wd ⟨rfl, Md⟩)
                    have HE := Lib.hid (Md.heap HE.out (by simp))
                    refine hK.out _ _ (hHeld.trans Md.nil) (fun hHeld => ?_)
                    clear hK K
                    have HDd := Lib.hid (HDE.out.mods0 Md)
                    refine takeD (i := 9) (d := 50) (v := ?_) rfl rfl (by kernel_rfl) (by kernel_rfl) (by kernel_rfl) (fun _ _ _ h => h) (Or.inl ⟨by rfl, ?_⟩) hHeld ?_
                    rotate_left 1
                    · (intro w hSw; (try dsimp only at hSw); go_simp; (try with_reducible rfl))
                    simp only [List.setIfInBounds_toArray, List.set_cons_zero, List.set_cons_succ]
                    refine takeD (i := 10) (d := 60) (v := ?_) rfl rfl (by kernel_rfl) (by kernel_rfl) (by kernel_rfl) (fun _ _ _ h => h) (Or.inl ⟨by rfl, ?_⟩) hHeld ?_
                    rotate_left 1
                    · (intro w hSw; (try dsimp only at hSw); go_simp; (try with_reducible rfl))
                    simp only [List.setIfInBounds_toArray, List.set_cons_zero, List.set_cons_succ]
                    refine takeD (i := 11) (d := 61) (v := ?_) rfl rfl (by kernel_rfl) (by kernel_rfl) (by kernel_rfl) (fun _ _ _ h => h) (Or.inl ⟨by rfl, ?_⟩) hHeld ?_
                    rotate_left 1
                    · (intro w hSw; (try dsimp only at hSw); go_simp; (try with_reducible rfl))
                    simp only [List.setIfInBounds_toArray, List.set_cons_zero, List.set_cons_succ]
                    refine wpAnyH_ready (rs := [13]) (by kernel_rfl) (by simp) ?_
                    refine AllReadyH.cons rfl (fun K hK => ?_) AllReadyH.nil
                    refine exec_store rfl rfl rfl HE.out rfl rfl (by rfl) Tryz.sizeEv (Evt.one (thrE S.type S.number rn qb 1 2)) (fun wz RZ MZ => ?_)
                    refine hK.out _ _ ?_ (fun hHeld => ?_)
                    · exact hHeld.comp MZ (fun q hq => by simp at hq; subst hq; exact .inr HZE.out)
                    clear hK K
                    refine takeD (i := 14) (d := 11) (v := ?_) rfl rfl (by kernel_rfl) (by kernel_rfl) (by kernel_rfl) (fun _ _ _ h => h) (Or.inl ⟨by rfl, ?_⟩) hHeld ?_
                    rotate_left 1
                    · (intro w hSw; (try dsimp only at hSw); go_simp; (try with_reducible rfl))
                    simp only [List.setIfInBounds_toArray, List.set_cons_zero, List.set_cons_succ]
                    refine wpAnyH_done (by kernel_rfl) ?_ _
                    have HDZ := Lib.hid (HDd.out.mods MZ (by simpa using fun h => HGE.out h.symm) (fun hl q hq => by have h1 := HD0.out.old hl q hq; have h2 : q < w3.heap.size := h1; have h3 := HZE.out; simp; omega))
                    go_wp2_with fail
                    go_meet
                    exact ⟨rfl, _, _, rfl, RZ, HZE.out, ⟨_, HDZ.out⟩, hHeld⟩
                · have HA0 := Lib.hid ((Mods.refl (S := []) (w := wa)).alloc (.cells #[.int .u16 0, .int .u32 0, .int .u16 0, .int .u8 0, .int .u8 0, .int .u8 0, .bool false, .int .u8 0, .int .u8 0, .int .u8 0] 65))
                  have HE := Lib.hid (heap_alloc_new wa (.cells #[.int .u16 0, .int .u32 0, .int .u16 0, .int .u8 0, .int .u8 0, .int .u8 0, .bool false, .int .u8 0, .int .u8 0, .int .u8 0] 65))
                  have HGE := Lib.hid (show wa.heap.size ≠ bd from by have := HDa.out.lt; omega)
                  have HZE := Lib.hid (show w3.heap.size ≤ wa.heap.size from hHeld.size)
                  have HDE := Lib.hid (HDa.out.mods0 HA0.out)
                  go_simp
                  refine hK.out _ _ (hHeld.trans HA0.out.nil) (fun hHeld => ?_)
                  clear hK K
                  clear HA0
                  refine wpAnyH_ready (rs := [7]) (by kernel_rfl) (by simp) ?_
                  refine AllReadyH.cons rfl (fun K hK => ?_) AllReadyH.nil
                  go_simp
                  go_wp2_with (go_at_call 29; refine (bool_ok _ bd v L ja HDE.out 2 (by omega) (by omega)).mono ?_; rintro e wb ⟨qb, jb, rfl, Db, Mb⟩)
                  have HE := Lib.hid (Mb.heap HE.out (by simpa using HGE.out))
                  refine hK.out _ _ (hHeld.trans Mb) (fun hHeld => ?_)
                  clear hK K
                  have HDb := Lib.hid Db
                  refine wpAnyH_ready (rs := [8]) (by kernel_rfl) (by simp) ?_
                  refine AllReadyH.cons rfl (fun K hK => ?_) AllReadyH.nil
                  go_simp
                  go_wp2_with (go_at_call 28; refine (refThrE_ok _ S.type S.number rn qb 1 2 HTY.out HNU.out HR6.out (by decide) (by decide)).mono ?_; rintro e wd ⟨rfl, Md⟩)
                  have HE := Lib.hid (Md.heap HE.out (by simp))
                  refine hK.out _ _ (hHeld.trans Md.nil) (fun hHeld => ?_)
                  clear hK K
                  have HDd := Lib.hid (HDb.out.mods0 Md)
                  refine takeD (i := 9) (d := 50) (v := ?_) rfl rfl (by kernel_rfl) (by kernel_rfl) (by kernel_rfl) (fun _ _ _ h => h) (Or.inl ⟨by rfl, ?_⟩) hHeld ?_
                  rotate_left 1
                  · (intro w hSw; (try dsimp only at hSw); go_simp; (try with_reducible rfl))
                  simp only [List.setIfInBounds_toArray, List.set_cons_zero, List.set_cons_succ]
                  refine takeD (i := 10) (d := 60) (v := ?_) rfl rfl (by kernel_rfl) (by kernel_rfl) (by kernel_rfl) (fun _ _ _ h => h) (Or.inl ⟨by rfl, ?_⟩) hHeld ?_
                  rotate_left 1
                  · (intro w hSw; (try dsimp only at hSw); go_simp; (try with_reducible rfl))
                  simp only [List.setIfInBounds_toArray, List.set_cons_zero, List.set_cons_succ]
                  refine takeD (i := 11) (d := 61) (v := ?_) rfl rfl (by kernel_rfl) (by kernel_rfl) (by kernel_rfl) (fun _ _ _ h => h) (Or.inl ⟨by rfl, ?_⟩) hHeld ?_
                  rotate_left 1
                  · (intro w hSw; (try dsimp only at hSw); go_simp; (try with_reducible rfl))
                  simp only [List.setIfInBounds_toArray, List.set_cons_zero, List.set_cons_succ]
                  refine wpAnyH_ready (rs := [13]) (by kernel_rfl) (by simp) ?_
                  refine AllReadyH.cons rfl (fun K hK => ?_) AllReadyH.nil
                  refine exec_store rfl rfl rfl HE.out rfl rfl (by rfl) Tryz.sizeEv (Evt.one (thrE S.type S.number rn qb 1 2)) (fun wz RZ MZ => ?_)
                  refine hK.out _ _ ?_ (fun hHeld => ?_)
                  · exact hHeld.comp MZ (fun q hq => by simp at hq; subst hq; exact .inr HZE.out)
                  clear hK K
                  refine takeD (i := 14) (d := 11) (v := ?_) rfl rfl (by kernel_rfl) (by kernel_rfl) (by kernel_rfl) (fun _ _ _ h => h) (Or.inl ⟨by rfl, ?_⟩) hHeld ?_
                  rotate_left 1
                  · (intro w hSw; (try dsimp only at hSw); go_simp; (try with_reducible rfl))
                  simp only [List.setIfInBounds_toArray, List.set_cons_zero, List.set_cons_succ]
                  refine wpAnyH_done (by kernel_rfl) ?_ _
                  have HDZ := Lib.hid (HDd.out.mods MZ (by simpa using fun h => HGE.out h.symm) (fun hl q hq => by have h1 := HD0.out.old hl q hq; have h2 : q < w3.heap.size := h1; have h3 := HZE.out; simp; omega))
                  go_wp2_with fail
                  go_meet
                  exact ⟨rfl, _, _, rfl, RZ, HZE.out, ⟨_, HDZ.out⟩, hHeld⟩
              · have HA0 := Lib.hid ((Mods.refl (S := []) (w := w3.drew)).alloc (.cells #[.int .u16 0, .int .u32 0, .int .u16 0, .int .u8 0, .int .u8 0, .int .u8 0, .bool false, .int .u8 0, .int .u8 0, .int .u8 0] 65))
                have HE := Lib.hid (heap_alloc_new w3.drew (.cells #[.int .u16 0, .int .u32 0, .int .u16 0, .int .u8 0, .int .u8 0, .int .u8 0, .bool false, .int .u8 0, .int .u8 0, .int .u8 0] 65))
                have HGE := Lib.hid (show w3.drew.heap.size ≠ bd from by have := HD0.out.lt; omega)
                have HZE := Lib.hid (show w3.heap.size ≤ w3.drew.heap.size from hHeld.size)
                have HDE := Lib.hid (HD0.out.mods0 HA0.out)
                go_simp
                refine hK.out _ _ (hHeld.trans HA0.out.nil) (fun hHeld => ?_)
                clear hK K
                clear HA0
                refine wpAnyH_ready (rs := [5]) (by kernel_rfl) (by simp) ?_
                refine AllReadyH.cons rfl (fun K hK => ?_) AllReadyH.nil
                go_simp
                go_wp2_with (go_at_call 24; refine (next_ok _ bd v L j4 HDE.out 6 (by omega) (by omega)).mono ?_; rintro e wa ⟨r6, ja, rfl, ra, rb, Da, Ma⟩)
                have HE := Lib.hid (Ma.heap HE.out (by simpa using HGE.out))
                refine hK.out _ _ (hHeld.trans Ma) (fun hHeld => ?_)
                clear hK K
                obtain ⟨rn, rfl⟩ := Int.eq_ofNat_of_zero_le ra
                have HR6 := Lib.hid (show rn < 6 from by omega)
                have HDa := Lib.hid Da
                refine wpAnyH_ready (rs := [7]) (by kernel_rfl) (by simp) ?_
                refine AllReadyH.cons rfl (fun K hK => ?_) AllReadyH.nil
                go_simp
                go_wp2_with (go_at_call 29; refine (bool_ok _ bd v L ja HDa.out 2 (by omega) (by omega)).mono ?_; rintro e wb ⟨qb, jb, rfl, Db, Mb⟩)
                have HE := Lib.hid (Mb.heap HE.out (by simpa using HGE.out))
                refine hK.out _ _ (hHeld.trans Mb) (fun hHeld => ?_)
                clear hK K
                have HDb := Lib.hid Db
                refine wpAnyH_ready (rs := [8]) (by kernel_rfl) (by simp) ?_
                refine AllReadyH.cons rfl (fun K hK => ?_) AllReadyH.nil
                go_simp
                go_wp2_with (go_at_call 28; refine (refThrE_ok _ S.type S.number rn qb 1 2 HTY.out HNU.out HR6.out (by decide) (by decide)).mono ?_; rintro e wd ⟨rfl, Md⟩)
                have HE := Lib.hid (Md.heap HE.out (by simp))
                refine hK.out _ _ (hHeld.trans Md.nil) (fun hHeld => ?_)
                clear hK K
                have HDd := Lib.hid (HDb.out.mods0 Md)
                refine takeD (i := 9) (d := 50) (v := ?_) rfl rfl (by kernel_rfl) (by kernel_rfl) (by kernel_rfl) (fun _ _ _ h => h) (Or.inl ⟨by rfl, ?_⟩) hHeld ?_
                rotate_left 1
                · (intro w hSw; (try dsimp only at hSw); go_simp; (try with_reducible rfl))
                simp only [List.setIfInBounds_toArray, List.set_cons_zero, List.set_cons_succ]
                refine takeD (i := 10) (d := 60) (v := ?_) rfl rfl (by kernel_rfl) (by kernel_rfl) (by kernel_rfl) (fun _ _ _ h => h) (Or.inl ⟨by rfl, ?_⟩) hHeld ?_
                rotate_left 1
                · (intro w hSw; (try dsimp only at hSw); go_simp; (try with_reducible rfl))
                simp only [List.setIfInBounds_toArray, List.set_cons_zero, List.set_cons_succ]
                refine takeD (i := 11) (d := 61) (v := ?_) rfl rfl (by kernel_rfl) (by kernel_rfl) (by kernel_rfl) (fun _ _ _ h => h) (Or.inl ⟨by rfl, ?_⟩) hHeld ?_
                rotate_left 1
                · (intro w hSw; (try dsimp only at hSw); go_simp; (try with_reducible rfl))
                simp only [List.setIfInBounds_toArray, List.set_cons_zero, List.set_cons_succ]
                refine wpAnyH_ready (rs := [13]) (by kernel_rfl) (by simp) ?_
                refine AllReadyH.cons rfl (fun K hK => ?_) AllReadyH.nil
                refine exec_store rfl rfl rfl HE.out rfl rfl (by rfl) Tryz.sizeEv (Evt.one (thrE S.type S.number rn qb 1 2)) (fun wz RZ MZ => ?_)
                refine hK.out _ _ ?_ (fun hHeld => ?_)
                · exact hHeld.comp MZ (fun q hq => by simp at hq; subst hq; exact .inr HZE.out)
                clear hK K
                refine takeD (i := 14) (d := 11) (v := ?_) rfl rfl (by kernel_rfl) (by kernel_rfl) (by kernel_rfl) (fun _ _ _ h => h) (Or.inl ⟨by rfl, ?_⟩) hHeld ?_
                rotate_left 1
                · (intro w hSw; (try dsimp only at hSw); go_simp; (try with_reducible rfl))
                simp only [List.setIfInBounds_toArray, List.set_cons_zero, List.set_cons_succ]
                refine wpAnyH_done (by kernel_rfl) ?_ _
                have HDZ := Lib.hid (HDd.out.mods MZ (by simpa using fun h => HGE.out h.symm) (fun hl q hq => by have h1 := HD0.out.old hl q hq; have h2 : q < w3.heap.size := h1; have h3 := HZE.out; simp; omega))
                go_wp2_with fail
                go_meet
                exact ⟨rfl, _, _, rfl, RZ, HZE.out, ⟨_, HDZ.out⟩, hHeld⟩
            case rest => as_aux_lemma =>
              obtain ⟨rfl, g10, ev, rfl, hE10, hg10, ⟨j5, D5⟩, M5⟩ := hcut
              obtain ⟨wD, hwD⟩ : ∃ x, x = wc := ⟨_, rfl⟩
              subst hwD
              have HE10 := Lib.hid hE10
              have HG10 := Lib.hid (show w3.heap.size ≤ g10 ∧ g10 ≠ bd from ⟨hg10, by have h1 := HD0.out.lt; have h2 : bd < w3.heap.size := h1; omega⟩)
              have HGO := Lib.hid (show L ≠ [] → ∀ q, v.ownBlock = some q → q < w3.heap.size from fun hl q hq => HD0.out.old hl q hq)
              have HM5 := Lib.hid M5
              clear hE10 hg10 M5
              go_wp2_with fail
              refine (bool_ok wD bd v L j5 D5 2 (by omega) (by omega)).mono ?_
              rintro e w6 ⟨q6, j6, rfl, D6, M6⟩
              have HE6 := Lib.hid (M6.heap HE10.out (by simpa using HG10.out.2))
              have HM6 := Lib.hid (HM5.out.trans M6)
              have HD6 := Lib.hid D6
              clear D5 D6 M6 HE10 HM5
              go_upto_if 63 with (fail)
              go_cut [10] (fun p wx => p = .pointer (some ⟨g10, 0, none⟩) ∧ ∃ ev' : Evt, wx.heap[g10]? = some (.cells (Evt.cells ev').toArray 65 (0, 0)) ∧ (∃ j, IsDice wx bd v L j) ∧ Mods [bd] w3 wx)
              case first => as_aux_lemma =>
                cases q6 with
                | false =>
                  go_wp2_with fail
                  go_meet
                  exact ⟨rfl, ev, HE6.out, ⟨j6, HD6.out⟩, HM6.out⟩
                | true =>
                  have HDD := Lib.hid (HD6.out.mods0 (show Mods [] w6 w6.drew from Mods.refl.drew))
                  have HED := Lib.hid (show w6.drew.heap[g10]? = _ from HE6.out)
                  clear HOE4 HSN4 HMW4 HZ4 HRG HB3 HKS HUN HO HL HV HVL HD0
                  go_upto_region 12 with (fail)
                  (try dsimp only [Act.put])
                  refine heldStart (S := fun W => Mods [bd] w3 W) 13 rfl (by kernel_rfl) HM6.out.drew (fun hHeld => ?_)
                  refine takeD (i := 0) (d := 65) (v := ?_) rfl rfl (by kernel_rfl) (by kernel_rfl) (by kernel_rfl) (fun _ _ _ h => h) (Or.inl ⟨by rfl, ?_⟩) hHeld ?_
                  rotate_left 1
                  · (intro w hSw; (try dsimp only at hSw); go_simp; (try with_reducible rfl))
                  simp only [List.setIfInBounds_toArray, List.set_cons_zero, List.set_cons_succ]
                  refine takeD (i := 1) (d := 66) (v := .int .u8 ((S.type:Nat):Int)) rfl rfl (by kernel_rfl) (by kernel_rfl) (by kernel_rfl) (fun _ _ _ h => h) (Or.inl ⟨by rfl, fun W hSw => ?_⟩) hHeld ?_
                  · (try dsimp only at hSw)
                    have cst := hSw.cell HCT.out (by simpa using HG9.out)
                    go_simp
                    skip
                  simp only [List.setIfInBounds_toArray, List.set_cons_zero, List.set_cons_succ]
                  refine takeD (i := 2) (d := 67) (v := ?_) rfl rfl (by kernel_rfl) (by kernel_rfl) (by kernel_rfl) (fun _ _ _ h => h) (Or.inl ⟨by rfl, ?_⟩) hHeld ?_
                  rotate_left 1
                  · (intro w hSw; (try dsimp only at hSw); go_simp; (try with_reducible rfl))
                  simp only [List.setIfInBounds_toArray, List.set_cons_zero, List.set_cons_succ]
                  refine takeD (i := 3) (d := 68) (v := .int .u8 ((S.number:Nat):Int)) rfl rfl (by kernel_rfl) (by kernel_rfl) (by kernel_rfl) (fun _ _ _ h => h) (Or.inl ⟨by rfl, fun W hSw => ?_⟩) hHeld ?_
                  · (try dsimp only at hSw)
                    have cst := hSw.cell HCN.out (by simpa using HG9.out)
                    go_simp
                    skip
                  simp only [List.setIfInBounds_toArray, List.set_cons_zero, List.set_cons_succ]
                  refine takeD (i := 4) (d := 69) (v := ?_) rfl rfl (by kernel_rfl) (by kernel_rfl) (by kernel_rfl) (fun _ _ _ h => h) (Or.inl ⟨by rfl, ?_⟩) hHeld ?_
                  rotate_left 1
                  · (intro w hSw; (try dsimp only at hSw); go_simp; (try with_reducible rfl))
                  simp only [List.setIfInBounds_toArray, List.set_cons_zero, List.set_cons_succ]
                  refine takeD (i := 6) (d := 71) (v := ?_) rfl rfl (by kernel_rfl) (by kernel_rfl) (by kernel_rfl) (fun _ _ _ h => h) (Or.inl ⟨by rfl, ?_⟩) hHeld ?_
                  rotate_left 1
                  · (intro w hSw; (try dsimp only at hSw); go_simp; (try with_reducible rfl))
                  simp only [List.setIfInBounds_toArray, List.set_cons_zero, List.set_cons_succ]
                  refine wpAnyH_ready (rs := [5]) (by kernel_rfl) (by simp) ?_
                  refine AllReadyH.cons rfl (fun K hK => ?_) AllReadyH.nil
                  go_simp
                  go_wp2_with (go_at_call 24; refine (next_ok _ bd v L j6 HDD.out 15 (by omega) (by omega)).mono ?_; rintro e wa ⟨r6, ja, rfl, ra, rb, Da, Ma⟩)
                  refine hK.out _ _ ?_ (fun hHeld => ?_)
                  · exact hHeld.trans Ma
                  clear hK K
                  obtain ⟨rn, rfl⟩ := Int.eq_ofNat_of_zero_le ra
                  have HRA := Lib.hid (show rn ≤ 14 from by omega)
                  have HEA := Lib.hid (Ma.heap HED.out (by simpa using HG10.out.2))
                  refine wpAnyH_ready (rs := [7]) (by kernel_rfl) (by simp) ?_
                  refine AllReadyH.cons rfl (fun K hK => ?_) AllReadyH.nil
                  go_simp
                  go_wp2_with (go_at_call 29; refine (bool_ok _ bd v L ja Da 2 (by omega) (by omega)).mono ?_; rintro e wb ⟨qb, jb, rfl, Db, Mb⟩)
                  refine hK.out _ _ ?_ (fun hHeld => ?_)
                  · exact hHeld.trans Mb
                  clear hK K
                  have HEB := Lib.hid (Mb.heap HEA.out (by simpa using HG10.out.2))
                  refine wpAnyH_ready (rs := [8]) (by kernel_rfl) (by simp) ?_
                  refine AllReadyH.cons rfl (fun K hK => ?_) AllReadyH.nil
                  go_simp
                  go_wp2_with (go_at_call 30; refine (refStaE_ok _ S.type S.number rn qb HTY.out HNU.out HRA.out).mono ?_; rintro e wd ⟨rfl, Md⟩)
                  refine hK.out _ _ ?_ (fun hHeld => ?_)
                  · exact hHeld.trans Md.nil
                  clear hK K
                  have HEC := Lib.hid (Md.heap HEB.out (by simp))
                  refine takeD (i := 9) (d := 64) (v := ?_) rfl rfl (by kernel_rfl) (by kernel_rfl) (by kernel_rfl) (fun _ _ _ h => h) (Or.inl ⟨by rfl, ?_⟩) hHeld ?_
                  rotate_left 1
                  · (intro w hSw; (try dsimp only at hSw); go_simp; (try with_reducible rfl))
                  simp only [List.setIfInBounds_toArray, List.set_cons_zero, List.set_cons_succ]
                  refine takeD (i := 10) (d := 74) (v := ?_) rfl rfl (by kernel_rfl) (by kernel_rfl) (by kernel_rfl) (fun _ _ _ h => h) (Or.inl ⟨by rfl, ?_⟩) hHeld ?_
                  rotate_left 1
                  · (intro w hSw; (try dsimp only at hSw); go_simp; (try with_reducible rfl))
                  simp only [List.setIfInBounds_toArray, List.set_cons_zero, List.set_cons_succ]
                  refine takeD (i := 11) (d := 75) (v := ?_) rfl rfl (by kernel_rfl) (by kernel_rfl) (by kernel_rfl) (fun _ _ _ h => h) (Or.inl ⟨by rfl, ?_⟩) hHeld ?_
                  rotate_left 1
                  · (intro w hSw; (try dsimp only at hSw); go_simp; (try with_reducible rfl))
                  simp only [List.setIfInBounds_toArray, List.set_cons_zero, List.set_cons_succ]
                  refine wpAnyH_ready (rs := [12]) (by kernel_rfl) (by simp) ?_
                  refine AllReadyH.cons rfl (fun K hK => ?_) AllReadyH.nil
                  refine exec_store rfl rfl rfl HEC.out rfl rfl (by rfl) Tryz.sizeEv (Evt.one (staE S.type S.number rn qb)) (fun wz RZ MZ => ?_)
                  refine hK.out _ _ ?_ (fun hHeld => ?_)
                  · exact hHeld.comp MZ (fun q hq => by simp at hq; subst hq; exact .inr HG10.out.1)
                  clear hK K
                  refine wpAnyH_done (by kernel_rfl) ?_ _
                  go_wp2_with fail
                  go_meet
                  exact ⟨rfl, _, RZ, ⟨jb, (Db.mods0 Md).mods MZ (by simpa using fun h => HG10.out.2 h.symm) (fun hl q hq => by have h2 := HGO.out hl q hq; have h3 := HG10.out.1; simp; omega)⟩, hHeld⟩
              case rest => as_aux_lemma =>
              obtain ⟨rfl, ev6, hE6, ⟨j6b, D6⟩, M6⟩ := hcut
              obtain ⟨wF, hwF⟩ : ∃ x, x = wc := ⟨_, rfl⟩
              subst hwF
              have HE6 := Lib.hid hE6
              have HM6 := Lib.hid M6
              clear hE6 M6 HD6
              go_wp2_with fail
              refine (bool_ok wF bd v L j6b D6 15 (by omega) (by omega)).mono ?_
              rintro e w7 ⟨q7, j7, rfl, D7, M7⟩
              have HE7 := Lib.hid (M7.heap HE6.out (by simpa using HG10.out.2))
              have HM7 := Lib.hid (HM6.out.trans M7)
              have HD7 := Lib.hid D7
              clear D6 D7 M7 HE6 HM6
              go_upto_if 77 with (fail)
              go_cut [10] (fun p wx => p = .pointer (some ⟨g10, 0, none⟩) ∧ ∃ ev' : Evt, wx.heap[g10]? = some (.cells (Evt.cells ev').toArray 65 (0, 0)) ∧ IsDice wx bd v L j7 ∧ Mods [bd] w3 wx)
              case first => as_aux_lemma =>
                cases q7 with
                | false =>
                  go_wp2_with fail
                  go_meet
                  exact ⟨rfl, ev6, HE7.out, HD7.out, HM7.out⟩
                | true =>
                  clear HOE4 HSN4 HMW4 HZ4 HRG HB3 HKS HUN HO HL HV HVL HD0
                  have c3 := (cell_blk HE7.out 3).trans (show _ = some (Value.int .u8 ((ev6.st.val : Nat) : Int)) from rfl)
                  have f3 := froz_blk HE7.out 3
                  have hw : IntKind.u8.wrap (((ev6.st.val : Nat) : Int) + 1) = (((ev6.st.val + 1) % 256 : Nat) : Int) := by rw [IntKind.wrap_u8]; omega
                  have HNW := Lib.hid (show (w7.setCell ⟨g10, 3, none⟩ (.int .u8 (((ev6.st.val + 1) % 256 : Nat) : Int))).heap[g10]? = some (.cells (Evt.cells (evSt ev6 (ev6.st.val + 1))).toArray 65 (0, 0)) from heap_setCell HE7.out)
                  have MW : Mods [g10] w7 (w7.setCell ⟨g10, 3, none⟩ (.int .u8 (((ev6.st.val + 1) % 256 : Nat) : Int))) := (Mods.refl (S := [g10])).setCell (.inl (by simp)) _
                  have HMW8 := Lib.hid (HM7.out.comp MW (fun q hq => by simp at hq; subst hq; exact .inr HG10.out.1))
                  have HD8 := Lib.hid (HD7.out.mods MW (by simpa using fun h => HG10.out.2 h.symm) (fun hl q hq => by have h2 := HGO.out hl q hq; have h3 := HG10.out.1; simp; omega))
                  clear MW
                  generalize (ev6.st.val + 1) % 256 = z at hw HNW HMW8 HD8
                  go_wp2_with fail
                  go_meet
                  exact ⟨rfl, _, HNW.out, HD8.out, HMW8.out⟩
              case rest => as_aux_lemma =>
              obtain ⟨rfl, ev8, hE8, D8, M8⟩ := hcut
              have HE8 := Lib.hid hE8
              have HDZ := Lib.hid D8
              have HM38 := Lib.hid (HM3.out.nil.trans M8)
              have HOE8 := Lib.hid (HOE4.out.mods HM38.out (fun q hq hm => by simp at hm; subst hm; have h1 := (HOE4.out.lt _ hq).1; have h2 := HZB.out; omega))
              have HSN8 := Lib.hid (HKS.out _ _ HM38.out HSN4.out)
              have HMW8 := Lib.hid (HMW4.out.comp HM38.out (fun q hq => by simp at hq; subst hq; exact .inr HBD.out))
              have HZ8 := Lib.hid (Nat.le_trans HZ4.out HM38.out.size)
              have HEN := Lib.hid (show E.length + 1 ≤ 20 from by have := HEL.out; omega)
              have HOL := Lib.hid (show L ≠ [] → ∀ q, v.ownBlock = some q → q < w2.heap.size from HLV.out)
              clear hE8 D8 M8 HOE4 HSN4 HMW4 HZ4 HM38 HD7 HE7 HM7 HGO HD0 HB3 HCN HCT HRG HTY HNU hone
              go_wp2_with (first
                | (refine wpList_load_row rfl 65 (.tmp 10) rfl g10 (by rfl) _ _ _ _ HE8.out Tryz.underlying65 rfl Tryz.sizeEv ?_)
                | (refine wpList_oneE evOk (by decide) (by rfl) (.tmp 83) rfl 84 rfl ev8 (Evt.cells ev8).toArray (by rfl) (by rfl) ?_; go_loud (intro CS hCS; have HMA := Lib.hid ((Mods.refl (S := []) (w := wc)).alloc (.cells CS 65)); have HRE := Lib.hid (RdE.one (E := evE) (a := ev8) (heap_alloc_new wc (.cells CS 65)) hCS); have HOA := Lib.hid (HOE8.out.mods0 HMA.out); clear hCS))
                | (at_builtin; go_loud (refine wpList_appE evOk (by rfl) (.tmp 82) (.tmp 84) rfl (by rfl) HOA.out (by rfl) HRE.out (by rw [List.length_singleton]; have := HEN.out; omega) (Nat.le_trans HZ8.out HMA.out.size) ?_; intro VB WB OB MB; have HOB := Lib.hid OB; have HMB := Lib.hid MB; clear OB MB)))
              have HNX := Lib.hid (show RcMk w w2 bd v L (.slice (some ⟨bb, off, none⟩) A.length cu) A VB 19 k WB from ⟨E ++ [ev8], j7, HOB.out, by rw [List.length_append, List.length_singleton]; have := HEL.out; omega,
                (HDZ.out.mods0 HMA.out).mods HMB.out (fun hm => by have h1 := HOA.out.back hm; have h2 := HZB.out; omega) (fun hl q hq hm => by have h1 := HOA.out.back hm; have h2 := HOL.out hl q hq; omega),
                ⟨(HSN8.out.mods0 HMA.out).rd.mods senOk HMB.out (fun _ q hq hm => by have h1 := HOA.out.back hm; have h2 := HUN.out.1 q hq; omega), fun i hi => ((HSN8.out.mods0 HMA.out).is i hi).mods HMB.out (fun _ q hq hm => by have h1 := HOA.out.back hm; have h2 := HUN.out.2 i hi q hq; omega)⟩,
                (HMW8.out.comp0 HMA.out).comp HMB.out (fun q hq => .inr (by have h1 := HOA.out.back hq; have h2 := HZB.out; have h3 := HBD.out; omega)), Nat.le_trans (Nat.le_trans HZ8.out HMA.out.size) HMB.out.size⟩)
              go_roundw
              case rel => exact ⟨k, by go_num, HNX⟩
              case measure => simp [intOf]
          · have d2 : decide (((A.length : Nat) : Int) > 0) = false := decide_eq_false (by omega)
            obtain ⟨wM, hwM⟩ : ∃ x, x = wr := ⟨_, rfl⟩
            subst hwM
            have HRE := Lib.hid (HOE.out.rd evOk)
            have MA := (Mods.refl (S := []) (w := wM)).alloc (.cells #[.slice al E0.length cl, .slice ma E.length mc] 45)
            have HQ := Lib.hid (heap_alloc_new wM (.cells #[.slice al E0.length cl, .slice ma E.length mc] 45))
            have HMA := Lib.hid MA
            clear MA HOE HEL HD HZ HUN HKS
            go_upto_region 17 with (fail)
            go_wp2_with fail
            generalize wM.alloc (.cells #[.slice al E0.length cl, .slice ma E.length mc] 45) = wQ at HQ HMA ⊢
            generalize wM.heap.size = gQ at HQ ⊢
            have HSQ := Lib.hid (HSN.out.mods0 HMA.out)
            have HMQ := Lib.hid (HMW.out.trans HMA.out)
            have HXS := Lib.hid (fun p (hp : p < 2) => show ∃ xa xn xc X, (#[.slice al E0.length cl, .slice ma E.length mc] : Array Value)[p]? = some (.slice xa xn xc) ∧ RdE evE wQ (.slice xa xn xc) X from by
              match p, hp with
              | 0, _ => exact ⟨al, _, cl, E0, rfl, HVL.out.mods0 evOk HMQ.out⟩
              | 1, _ => exact ⟨ma, _, mc, E, rfl, HRE.out.mods0 evOk HMA.out⟩)
            clear HRE HSN HMW HMA
            go_loopw [90] (fun i wr => ∃ p : Nat, p ≤ 2 ∧ i = .int .i64 (p : Nat) ∧ Hid (Mods [] wQ wr)) (fun i _ => 2 - (intOf i).toNat)
            case atStart => exact ⟨0, by omega, rfl, Lib.hid Mods.refl⟩
            case round =>
              obtain ⟨p, hp, rfl, HMP⟩ := hrel
              have p0 : (0 : Int) ≤ (p : Int) := by omega
              by_cases hlt : p < 2
              · have p1 : (p : Int) < 2 := by omega
                obtain ⟨xa, xn, xc, X, hx1, hx2⟩ := HXS.out p hlt
                have HX := Lib.hid hx2
                have cx := (cell_blk (HMP.out.heap HQ.out (by simp)) p).trans hx1
                have HR1 := Lib.hid (recover_ok wr (HO.out.mods0 (HMQ.out.trans HMP.out)) _ A (HSQ.out.mods0 HMP.out) _ X (HX.out.mods0 evOk HMP.out))
                have HR2 := Lib.hid (fun W (M : Mods [] wr W) => refRecover_ok W _ A ((HSQ.out.mods0 HMP.out).mods0 M) _ X ((HX.out.mods0 evOk HMP.out).mods0 evOk M))
                clear hx1 hx2
                go_wp2_with fail
                clear cx
                refine HR1.out.mono ?_
                rintro e w5 hp5
                unfold RecPost at hp5
                rw [HCK.out, if_pos rfl] at hp5
                obtain ⟨g5, rfl, hg5, hr5, M5⟩ := hp5
                have HM5 := Lib.hid M5
                have HW5 := Lib.hid hr5
                clear M5 hr5 hg5
                go_wp2_with fail
                refine (HR2.out _ HM5.out).mono ?_
                rintro e w6 hp6
                unfold RecPost at hp6
                rw [HCK.out, if_pos rfl] at hp6
                obtain ⟨g6, rfl, hg6, hr6, M6⟩ := hp6
                have HW56 := Lib.hid (HW5.out.mods0 M6)
                have HW6 := Lib.hid hr6
                have HM6 := Lib.hid ((HMP.out.trans HM5.out).trans M6)
                clear M6 hr6 hg6 HW5 HM5 HR1 HR2 HX
                have HRL := Lib.hid (show (recAll A X).length = A.length from recAll_len A X)
                generalize recAll A X = Z at HW56 HW6 HRL
                go_wp2_with fail
                go_loopw [18] (fun i wr => ∃ t : Nat, t ≤ A.length ∧ i = .int .i64 (t : Nat) ∧ Hid (Mods [] w6 wr)) (fun i _ => A.length - (intOf i).toNat)
                case atStart => exact ⟨0, by omega, rfl, Lib.hid Mods.refl⟩
                case round =>
                  obtain ⟨t, ht, rfl, HMT⟩ := hrel
                  have t0 : (0 : Int) ≤ (t : Int) := by omega
                  by_cases htl : t < A.length
                  · have t1 : (t : Int) < ((A.length : Nat) : Int) := by omega
                    have HCA := Lib.hid ((HW56.out.mods0 HMT.out).c (by rw [HRL.out]; exact htl))
                    have HCB := Lib.hid ((HW6.out.mods0 HMT.out).c (by rw [HRL.out]; exact htl))
                    generalize Z.getD t 0 = z at HCA HCB
                    obtain ⟨wT, hwT⟩ : ∃ x, x = wr := ⟨_, rfl⟩
                    subst hwT
                    go_upto_region 26 with (fail)
                    (try dsimp only [Act.put])
                    refine heldStart (S := fun W => Mods [] wT W) 9 rfl (by kernel_rfl) Mods.refl.drew (fun hHeld => ?_)
                    refine takeD (i := 0) (d := 122) (v := ?_) rfl rfl (by kernel_rfl) (by kernel_rfl) (by kernel_rfl) (fun _ _ _ h => h) (Or.inl ⟨by rfl, ?_⟩) hHeld ?_
                    rotate_left 1
                    · (intro w hSw; (try dsimp only at hSw); go_simp; (try with_reducible rfl))
                    simp only [List.setIfInBounds_toArray, List.set_cons_zero, List.set_cons_succ]
                    refine takeD (i := 1) (d := 123) (v := ?_) rfl rfl (by kernel_rfl) (by kernel_rfl) (by kernel_rfl) (fun _ _ _ h => h) (Or.inl ⟨by rfl, ?_⟩) hHeld ?_
                    rotate_left 1
                    · (intro w hSw; (try dsimp only at hSw); go_simp; (try with_reducible rfl))
                    simp only [List.setIfInBounds_toArray, List.set_cons_zero, List.set_cons_succ]
                    refine takeD (i := 2) (d := 124) (v := ?_) rfl rfl (by kernel_rfl) (by kernel_rfl) (by kernel_rfl) (fun _ _ _ h => h) (Or.inl ⟨by rfl, ?_⟩) hHeld ?_
                    rotate_left 1
                    · (intro w hSw; (try dsimp only at hSw); go_simp; (try with_reducible rfl))
                    simp only [List.setIfInBounds_toArray, List.set_cons_zero, List.set_cons_succ]
                    refine takeD (i := 3) (d := 125) (v := .int .u16 ((z:Nat):Int)) rfl rfl (by kernel_rfl) (by kernel_rfl) (by kernel_rfl) (fun _ _ _ h => h) (Or.inl ⟨by rfl, fun W hSw => ?_⟩) hHeld ?_
                    · (try dsimp only at hSw)
                      have cst := hSw.cell HCA.out (by simp)
                      go_simp
                      skip
                    simp only [List.setIfInBounds_toArray, List.set_cons_zero, List.set_cons_succ]
                    refine takeD (i := 4) (d := 126) (v := ?_) rfl rfl (by kernel_rfl) (by kernel_rfl) (by kernel_rfl) (fun _ _ _ h => h) (Or.inl ⟨by rfl, ?_⟩) hHeld ?_
                    rotate_left 1
                    · (intro w hSw; (try dsimp only at hSw); go_simp; (try with_reducible rfl))
                    simp only [List.setIfInBounds_toArray, List.set_cons_zero, List.set_cons_succ]
                    refine takeD (i := 5) (d := 127) (v := ?_) rfl rfl (by kernel_rfl) (by kernel_rfl) (by kernel_rfl) (fun _ _ _ h => h) (Or.inl ⟨by rfl, ?_⟩) hHeld ?_
                    rotate_left 1
                    · (intro w hSw; (try dsimp only at hSw); go_simp; (try with_reducible rfl))
                    simp only [List.setIfInBounds_toArray, List.set_cons_zero, List.set_cons_succ]
                    refine takeD (i := 6) (d := 128) (v := ?_) rfl rfl (by kernel_rfl) (by kernel_rfl) (by kernel_rfl) (fun _ _ _ h => h) (Or.inl ⟨by rfl, ?_⟩) hHeld ?_
                    rotate_left 1
                    · (intro w hSw; (try dsimp only at hSw); go_simp; (try with_reducible rfl))
                    simp only [List.setIfInBounds_toArray, List.set_cons_zero, List.set_cons_succ]
                    refine takeD (i := 7) (d := 129) (v := .int .u16 ((z:Nat):Int)) rfl rfl (by kernel_rfl) (by kernel_rfl) (by kernel_rfl) (fun _ _ _ h => h) (Or.inl ⟨by rfl, fun W hSw => ?_⟩) hHeld ?_
                    · (try dsimp only at hSw)
                      have cst := hSw.cell HCB.out (by simp)
                      go_simp
                      skip
                    simp only [List.setIfInBounds_toArray, List.set_cons_zero, List.set_cons_succ]
                    refine takeD (i := 8) (d := 130) (v := ?_) rfl rfl (by kernel_rfl) (by kernel_rfl) (by kernel_rfl) (fun _ _ _ h => h) (Or.inl ⟨by rfl, ?_⟩) hHeld ?_
                    rotate_left 1
                    · (intro w hSw; (try dsimp only at hSw); go_simp; (try with_reducible rfl))
                    simp only [List.setIfInBounds_toArray, List.set_cons_zero, List.set_cons_succ]
                    refine wpAnyH_done (by kernel_rfl) ?_ _
                    go_wp2_with fail
                    go_roundw
                    case rel => exact ⟨t + 1, by omega, by go_num, Lib.hid (HMT.out.trans hHeld)⟩
                    case measure => simp [intOf]; omega
                  · have t1 : ¬ (t : Int) < ((A.length : Nat) : Int) := by omega
                    go_wp2_with fail
                    go_roundw
                    case rel => exact ⟨p + 1, by omega, by go_num, Lib.hid (HM6.out.trans HMT.out)⟩
                    case measure => simp [intOf]; omega
              · have p1 : ¬ (p : Int) < 2 := by omega
                have HMZ := Lib.hid (HMQ.out.trans HMP.out)
                go_wp2_with fail
                refine (awake16_ok _ (HO.out.mods0 HMZ.out)).mono ?_
                rintro e wz ⟨rfl, MZ⟩
                go_wp2
                go_ret
                exact ⟨rfl, HMZ.out.trans MZ⟩
        · have d1 : decide ((k : Int) > 0) = false := decide_eq_false (by omega)
          obtain ⟨wM, hwM⟩ : ∃ x, x = wr := ⟨_, rfl⟩
          subst hwM
          have HRE := Lib.hid (HOE.out.rd evOk)
          have MA := (Mods.refl (S := []) (w := wM)).alloc (.cells #[.slice al E0.length cl, .slice ma E.length mc] 45)
          have HQ := Lib.hid (heap_alloc_new wM (.cells #[.slice al E0.length cl, .slice ma E.length mc] 45))
          have HMA := Lib.hid MA
          clear MA HOE HEL HD HZ HUN HKS
          go_upto_region 17 with (fail)
          go_wp2_with fail
          generalize wM.alloc (.cells #[.slice al E0.length cl, .slice ma E.length mc] 45) = wQ at HQ HMA ⊢
          generalize wM.heap.size = gQ at HQ ⊢
          have HSQ := Lib.hid (HSN.out.mods0 HMA.out)
          have HMQ := Lib.hid (HMW.out.trans HMA.out)
          have HXS := Lib.hid (fun p (hp : p < 2) => show ∃ xa xn xc X, (#[.slice al E0.length cl, .slice ma E.length mc] : Array Value)[p]? = some (.slice xa xn xc) ∧ RdE evE wQ (.slice xa xn xc) X from by
            match p, hp with
            | 0, _ => exact ⟨al, _, cl, E0, rfl, HVL.out.mods0 evOk HMQ.out⟩
            | 1, _ => exact ⟨ma, _, mc, E, rfl, HRE.out.mods0 evOk HMA.out⟩)
          clear HRE HSN HMW HMA
          go_loopw [90] (fun i wr => ∃ p : Nat, p ≤ 2 ∧ i = .int .i64 (p : Nat) ∧ Hid (Mods [] wQ wr)) (fun i _ => 2 - (intOf i).toNat)
          case atStart => exact ⟨0, by omega, rfl, Lib.hid Mods.refl⟩
          case round =>
            obtain ⟨p, hp, rfl, HMP⟩ := hrel
            have p0 : (0 : Int) ≤ (p : Int) := by omega
            by_cases hlt : p < 2
            · have p1 : (p : Int) < 2 := by omega
              obtain ⟨xa, xn, xc, X, hx1, hx2⟩ := HXS.out p hlt
              have HX := Lib.hid hx2
              have cx := (cell_blk (HMP.out.heap HQ.out (by simp)) p).trans hx1
              have HR1 := Lib.hid (recover_ok wr (HO.out.mods0 (HMQ.out.trans HMP.out)) _ A (HSQ.out.mods0 HMP.out) _ X (HX.out.mods0 evOk HMP.out))
              have HR2 := Lib.hid (fun W (M : Mods [] wr W) => refRecover_ok W _ A ((HSQ.out.mods0 HMP.out).mods0 M) _ X ((HX.out.mods0 evOk HMP.out).mods0 evOk M))
              clear hx1 hx2
              go_wp2_with fail
              clear cx
              refine HR1.out.mono ?_
              rintro e w5 hp5
              unfold RecPost at hp5
              rw [HCK.out, if_pos rfl] at hp5
              obtain ⟨g5, rfl, hg5, hr5, M5⟩ := hp5
              have HM5 := Lib.hid M5
              have HW5 := Lib.hid hr5
              clear M5 hr5 hg5
              go_wp2_with fail
              refine (HR2.out _ HM5.out).mono ?_
              rintro e w6 hp6
              unfold RecPost at hp6
              rw [HCK.out, if_pos rfl] at hp6
              obtain ⟨g6, rfl, hg6, hr6, M6⟩ := hp6
              have HW56 := Lib.hid (HW5.out.mods0 M6)
              have HW6 := Lib.hid hr6
              have HM6 := Lib.hid ((HMP.out.trans HM5.out).trans M6)
              clear M6 hr6 hg6 HW5 HM5 HR1 HR2 HX
              have HRL := Lib.hid (show (recAll A X).length = A.length from recAll_len A X)
              generalize recAll A X = Z at HW56 HW6 HRL
              go_wp2_with fail
              go_loopw [18] (fun i wr => ∃ t : Nat, t ≤ A.length ∧ i = .int .i64 (t : Nat) ∧ Hid (Mods [] w6 wr)) (fun i _ => A.length - (intOf i).toNat)
              case atStart => exact ⟨0, by omega, rfl, Lib.hid Mods.refl⟩
              case round =>
                obtain ⟨t, ht, rfl, HMT⟩ := hrel
                have t0 : (0 : Int) ≤ (t : Int) := by omega
                by_cases htl : t < A.length
                · have t1 : (t : Int) < ((A.length : Nat) : Int) := by omega
                  have HCA := Lib.hid ((HW56.out.mods0 HMT.out).c (by rw [HRL.out]; exact htl))
                  have HCB := Lib.hid ((HW6.out.mods0 HMT.out).c (by rw [HRL.out]; exact htl))
                  generalize Z.getD t 0 = z at HCA HCB
                  obtain ⟨wT, hwT⟩ : ∃ x, x = wr := ⟨_, rfl⟩
                  subst hwT
                  go_upto_region 26 with (fail)
                  (try dsimp only [Act.put])
                  refine heldStart (S := fun W => Mods [] wT W) 9 rfl (by kernel_rfl) Mods.refl.drew (fun hHeld => ?_)
                  refine takeD (i := 0) (d := 122) (v := ?_) rfl rfl (by kernel_rfl) (by kernel_rfl) (by kernel_rfl) (fun _ _ _ h => h) (Or.inl ⟨by rfl, ?_⟩) hHeld ?_
                  rotate_left 1
                  · (intro w hSw; (try dsimp only at hSw); go_simp; (try with_reducible rfl))
                  simp only [List.setIfInBounds_toArray, List.set_cons_zero, List.set_cons_succ]
                  refine takeD (i := 1) (d := 123) (v := ?_) rfl rfl (by kernel_rfl) (by kernel_rfl) (by kernel_rfl) (fun _ _ _ h => h) (Or.inl ⟨by rfl, ?_⟩) hHeld ?_
                  rotate_left 1
                  · (intro w hSw; (try dsimp only at hSw); go_simp; (try with_reducible rfl))
                  simp only [List.setIfInBounds_toArray, List.set_cons_zero, List.set_cons_succ]
                  refine takeD (i := 2) (d := 124) (v := ?_) rfl rfl (by kernel_rfl) (by kernel_rfl) (by kernel_rfl) (fun _ _ _ h => h) (Or.inl ⟨by rfl, ?_⟩) hHeld ?_
                  rotate_left 1
                  · (intro w hSw; (try dsimp only at hSw); go_simp; (try with_reducible rfl))
                  simp only [List.setIfInBounds_toArray, List.set_cons_zero, List.set_cons_succ]
                  refine takeD (i := 3) (d := 125) (v := .int .u16 ((z:Nat):Int)) rfl rfl (by kernel_rfl) (by kernel_rfl) (by kernel_rfl) (fun _ _ _ h => h) (Or.inl ⟨by rfl, fun W hSw => ?_⟩) hHeld ?_
                  · (try dsimp only at hSw)
                    have cst := hSw.cell HCA.out (by simp)
                    go_simp
                    skip
                  simp only [List.setIfInBounds_toArray, List.set_cons_zero, List.set_cons_succ]
                  refine takeD (i := 4) (d := 126) (v := ?_) rfl rfl (by kernel_rfl) (by kernel_rfl) (by kernel_rfl) (fun _ _ _ h => h) (Or.inl ⟨by rfl, ?_⟩) hHeld ?_
                  rotate_left 1
                  · (intro w hSw; (try dsimp only at hSw); go_simp; (try with_reducible rfl))
                  simp only [List.setIfInBounds_toArray, List.set_cons_zero, List.set_cons_succ]
                  refine takeD (i := 5) (d := 127) (v := ?_) rfl rfl (by kernel_rfl) (by kernel_rfl) (by kernel_rfl) (fun _ _ _ h => h) (Or.inl ⟨by rfl, ?_⟩) hHeld ?_
                  rotate_left 1
                  · (intro w hSw; (try dsimp only at hSw); go_simp; (try with_reducible rfl))
                  simp only [List.setIfInBounds_toArray, List.set_cons_zero, List.set_cons_succ]
                  refine takeD (i := 6) (d := 128) (v := ?_) rfl rfl (by kernel_rfl) (by kernel_rfl) (by kernel_rfl) (fun _ _ _ h => h) (Or.inl ⟨by rfl, ?_⟩) hHeld ?_
                  rotate_left 1
                  · (intro w hSw; (try dsimp only at hSw); go_simp; (try with_reducible rfl))
                  simp only [List.setIfInBounds_toArray, List.set_cons_zero, List.set_cons_succ]
                  refine takeD (i := 7) (d := 129) (v := .int .u16 ((z:Nat):Int)) rfl rfl (by kernel_rfl) (by kernel_rfl) (by kernel_rfl) (fun _ _ _ h => h) (Or.inl ⟨by rfl, fun W hSw => ?_⟩) hHeld ?_
                  · (try dsimp only at hSw)
                    have cst := hSw.cell HCB.out (by simp)
                    go_simp
                    skip
                  simp only [List.setIfInBounds_toArray, List.set_cons_zero, List.set_cons_succ]
                  refine takeD (i := 8) (d := 130) (v := ?_) rfl rfl (by kernel_rfl) (by kernel_rfl) (by kernel_rfl) (fun _ _ _ h => h) (Or.inl ⟨by rfl, ?_⟩) hHeld ?_
                  rotate_left 1
                  · (intro w hSw; (try dsimp only at hSw); go_simp; (try with_reducible rfl))
                  simp only [List.setIfInBounds_toArray, List.set_cons_zero, List.set_cons_succ]
                  refine wpAnyH_done (by kernel_rfl) ?_ _
                  go_wp2_with fail
                  go_roundw
                  case rel => exact ⟨t + 1, by omega, by go_num, Lib.hid (HMT.out.trans hHeld)⟩
                  case measure => simp [intOf]; omega
                · have t1 : ¬ (t : Int) < ((A.length : Nat) : Int) := by omega
                  go_wp2_with fail
                  go_roundw
                  case rel => exact ⟨p + 1, by omega, by go_num, Lib.hid (HM6.out.trans HMT.out)⟩
                  case measure => simp [intOf]; omega
            · have p1 : ¬ (p : Int) < 2 := by omega
              have HMZ := Lib.hid (HMQ.out.trans HMP.out)
              go_wp2_with fail
              refine (awake16_ok _ (HO.out.mods0 HMZ.out)).mono ?_
              rintro e wz ⟨rfl, MZ⟩
              go_wp2
              go_ret
              exact ⟨rfl, HMZ.out.trans MZ⟩
    · have d60 : decide ((E0.length : Int) > 60) = true := decide_eq_true (by omega)
      go_enter Tryz.func6, Tryz.ntmps6
      go_wp2_with fail
      refine HL.out.mono ?_
      rw [HLL.out]
      rintro e w' ⟨rfl, rfl⟩
      go_wp2_with fail
      refine (awake16_ok _ (HO.out)).mono ?_
      rintro e w1 ⟨rfl, M1⟩
      go_wp2
      go_ret
      exact ⟨rfl, M1⟩
  · have HLL := Lib.hid (decide_eq_false hl)
    go_enter Tryz.func6, Tryz.ntmps6
    go_wp2_with fail
    refine HL.out.mono ?_
    rw [HLL.out]
    rintro e w' ⟨rfl, rfl⟩
    go_wp2_with fail
    refine (awake16_ok _ (HO.out)).mono ?_
    rintro e w1 ⟨rfl, M1⟩
    go_wp2
    go_ret
    exact ⟨rfl, M1⟩
end Go.Proofs.YtijjkonephjodaaGreatDoor
