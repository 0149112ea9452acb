/- MonitorAlternates: the walk. Printed by genalter.py out of XMonitorAlternates.body. -/
import Derived.Test.YtijjkonephjodaaGreatDoorMoAlQ
import Derived.Test.YtijjkonephjodaaGreatDoorBig
import Derived.Test.YtijjkonephjodaaGreatDoorSeeds
namespace Go.Proofs.YtijjkonephjodaaGreatDoor
open Go.RowKit
set_option linter.unusedVariables false
set_option linter.unusedSimpArgs false
set_option maxRecDepth 100000
/-- Between the scans of the law. -/
structure AlAt (w : World) (gO mb fb sb : Nat) (vs va : Value) (l : List SenX) (u : Value) (A : List SenX) (wr : World) : Prop where
  mon : ∃ F st arr, MonAt wr mb fb sb vs va l [] F st ∧ OnAt wr gO arr ∧ (∀ j, j < l.length → ∀ i, i < 15 → arr (numS l j * 15 + i) = (st.getD j 0).testBit i) ∧ ∀ j q, (F.getD j default).win.ownBlock = some q → gO < q
  sen : RdSens wr u A
  M : Mods [] w wr
/-- What the law's loop takes of a scan. -/
theorem al_scan {w wr : World} {mb fb sb : Nat} {vs va : Value} {l : List SenX} {F : List FltX} {st : List Nat} {X : List Smp} {e : Ending} {on : Nat → Nat → Bool}
    (h : MonAt w mb fb sb vs va l [] F st) (hp : ScanPost w mb fb sb vs va l [] F st [] true X e wr) (hW : ∀ j, j < l.length → Wat (l.getD j default)) (hN : ∀ j, j < l.length → (l.getD j default).S.number < 256) (hon : ∀ j, j < l.length → ∀ i, i < 15 → on (numS l j) i = (st.getD j 0).testBit i) :
    ∃ vo c E F' st', e = .returned (.tuple #[vo, .int .i64 c]) ∧ OwnE evE wr w.heap.size vo E ∧ E.length ≤ 1000 ∧ MonAt wr mb fb sb vs va l [] F' st' ∧ Mods [fb, sb] w wr ∧ (∀ j q, (F'.getD j default).win.ownBlock = some q → w.heap.size ≤ q ∨ (F.getD j default).win.ownBlock = some q) ∧ (0 < E.length → c = 0) ∧
      AltOk on (-1) E ∧ (∀ t, t < l.length → ∀ i, i < 15 → onE on E (numS l t) i = (st'.getD t 0).testBit i) ∧ ∀ e', e' ∈ E → (evIx e').2.1 = true → (readM l F' e'.sen.val).2 = true ∧ e'.d1 = f8 (readM l F' e'.sen.val).1.toNat := by
  unfold ScanPost at hp
  split at hp
  · rename_i h0
    obtain ⟨vo, F', st', he, hS⟩ := hp
    obtain ⟨a1, a2, _⟩ := alt_scan (ab := []) (host := true) h hW hN h0 hon l.length (Nat.le_refl _)
    refine ⟨vo, 0, _, F', st', he, hS.own, ?_, hS.mon, hS.M, hS.win, fun _ => rfl, a1, fun t ht i hi => ?_, scan_reads h hN h0 hS l.length (Nat.le_refl _)⟩
    · have := scanE_len (A := []) (ab := []) (host := true) (X := X) (l := l) (F := F) (st := st) l.length
      have := h.most
      omega
    · rw [a2 t ht i hi, if_pos ht, (hS.lt t ht).2.2]
  · exact ⟨_, _, [], F, st, hp.1, OwnE.nil _ _ _, by simp, h.mods0 hp.2, hp.2.nil, fun j q hq => .inr hq, fun h => by simp at h, trivial, hon, fun e' he' => by simp at he'⟩
set_option maxHeartbeats 16000000 in
theorem monitorAlternates_walk (w : World) (hO : OffAt w) (v : Value) (L : List Int) (hv : Rd w v (i64s L)) (hb : ∀ i, -9223372036854775808 ≤ L.getD i 0 ∧ L.getD i 0 ≤ 9223372036854775807) (v2 : Value) (SD : List SlV) (hsd : RdSeeds w v2 SD) :
    Calls Tryz.prog 4 #[v, v2] w fun e w' => e = .returned (.bool true) ∧ Mods [] w w' := by
  have HL := Lib.hid (light_ok _ v L hv)
  have HV := Lib.hid hv
  have HSD := Lib.hid hsd
  have HB := Lib.hid hb
  have HO := Lib.hid hO
  have hcap := hsd.1.bound
  obtain ⟨a2, c2, rfl⟩ := hsd.1.len
  clear hv hb hsd hO
  by_cases hl : L.length ≤ 600
  · have HLL := Lib.hid (decide_eq_true hl)
    by_cases h25 : SD.length ≤ 25
    · have d25 : decide ((SD.length : Int) > 25) = false := decide_eq_false (by omega)
      go_enter Tryz.func4, Tryz.ntmps4
      go_wp2_with fail
      refine HL.out.mono ?_
      rw [HLL.out]
      rintro e w' ⟨rfl, rfl⟩
      go_wp2_with fail
      refine (roll_ok w v L HV.out (by omega) HB.out).mono ?_
      rintro e w1 ⟨rfl, D1, M1, z1⟩
      go_wp2_with fail
      refine (watched_ok w1 w.heap.size v L 0 D1).mono ?_
      rintro e w2 ⟨u, A, j2, rfl, OB, hB5, hG, hP, hWt, D2, M2⟩
      obtain ⟨au, cu, rfl⟩ := (OB.rd senOk).len
      have HM2 := Lib.hid (show Mods [] w w2 from M1.comp M2 (fun q hq => by simp at hq; subst hq; exact .inr (Nat.le_refl _)))
      have HRS := Lib.hid (show RdSens w2 (.slice au A.length cu) A from ⟨OB.rd senOk, fun i hi => (hP i hi).is⟩)
      have HUL := Lib.hid (show (∀ q, (Value.slice au A.length cu).ownBlock = some q → q < w2.heap.size) ∧ (∀ i, i < A.length → ∀ q, (A.getD i default).S.conv.pts.ownBlock = some q → q < w2.heap.size) from ⟨fun q hq => (OB.lt q hq).2, fun i hi q hq => ((hP i hi).pts q hq).2.1⟩)
      have HCK := Lib.hid (chkS_good hG (by omega))
      have HB5 := Lib.hid hB5
      have HWT := Lib.hid hWt
      have HW2 := Lib.hid (show w.heap.size ≤ w2.heap.size from HM2.out.size)
      clear D1 M1 z1 OB hB5 hG hP hWt D2 M2
      go_wp2_with fail
      refine (new_ok w2 _ A HRS.out _ [] (RdE.nil ascE _) (.inl (by decide))).mono ?_
      rintro e w3 ⟨M3, hp⟩
      rw [HCK.out, if_pos rfl, if_pos (by decide)] at hp
      obtain ⟨mb, fb, sb, vs, va, l, rfl, TW, hM, hLo⟩ := hp
      have HMO := Lib.hid hM
      have HLEN := Lib.hid (show l.length = A.length from TW.1)
      have HWL := Lib.hid (show ∀ j, j < l.length → Wat (l.getD j default) from fun j hj => by
        obtain ⟨_, vq, hvq⟩ := TW.2 j (by rw [← TW.1]; exact hj)
        have h := HWT.out j (by rw [← TW.1]; exact hj)
        unfold Wat at h ⊢
        rw [hvq]
        exact h)
      have HNL := Lib.hid (show ∀ j, j < l.length → (l.getD j default).S.number < 256 from fun j hj => (hM.sens.is j hj).number)
      have HLO := Lib.hid hLo.b
      have HM3 := Lib.hid (HM2.out.trans M3)
      have HRS3 := Lib.hid (HRS.out.mods0 M3)
      have HZ3 := Lib.hid (show w2.heap.size ≤ w3.heap.size from M3.size)
      clear M3 TW hM hLo HCK HWT HRS
      go_upto_region 7 with (fail)
      go_wp2_with (refine wpList_big rfl 8 rfl rfl ?_; go_loud (intro w4 O4 M4 Z4; have HO4 := Lib.hid O4; have HM4 := Lib.hid M4; clear O4 M4 Z4))
      have HAL := Lib.hid (show AlAt w w3.heap.size mb fb sb vs va l (.slice au A.length cu) A w4 from ⟨⟨_, _, _, HMO.out.mods0 HM4.out, HO4.out, fun j hj i hi => by
        rw [List.getD_eq_getElem?_getD, List.getElem?_replicate_of_lt hj]; simp, fun j q hq => (zFlt_win _ _ _ hq).elim⟩, HRS3.out.mods0 HM4.out, HM3.out.trans HM4.out⟩)
      have HF3 := Lib.hid (show fb < w3.heap.size ∧ sb < w3.heap.size from ⟨HMO.out.fbl, lt_of_block HMO.out.sts⟩)
      generalize hgO : w3.heap.size = gO at HAL HF3 HZ3 ⊢
      have HGO := Lib.hid (show w3.heap.size ≤ gO from Nat.le_of_eq hgO)
      clear hgO HO4 HM4 HRS3
      go_loopw [9] (fun i wr => ∃ p : Nat, p ≤ SD.length ∧ i = .int .i64 (p : Nat) ∧ Hid (AlAt w gO mb fb sb vs va l (.slice au A.length cu) A wr)) (fun i _ => SD.length - (intOf i).toNat)
      case atStart => exact ⟨0, by omega, rfl, HAL⟩
      clear HAL
      case round =>
        obtain ⟨p, hp, rfl, HA⟩ := hrel
        have p0 : (0 : Int) ≤ (p : Int) := by omega
        by_cases hlt : p < SD.length
        · have p1 : (p : Int) < ((SD.length : Nat) : Int) := by omega
          obtain ⟨bb, so, cap', hv2, _, _, _⟩ := HSD.out.1.at (by omega)
          injection hv2 with hv3 _ hv4
          subst hv3 hv4
          obtain ⟨L2, hL2, hln, hb2⟩ := (HSD.out.mods0 HA.out.M).2 p hlt
          have HCS := Lib.hid (show wr.cell? ⟨bb, so + p, none⟩ = some (SD.getD p slE.dflt).val from by
            have h2 := (HSD.out.mods0 HA.out.M).1.range (i := p) hlt slOk.len 0 ((SD.getD p slE.dflt).val) rfl
            have h3 : so + p * slE.k + 0 = so + p := by show so + p * 1 + 0 = so + p; omega
            rw [h3] at h2
            exact h2)
          have hvv : (SD.getD p slE.dflt).val = .slice (SD.getD p slE.dflt).ad (SD.getD p slE.dflt).n (SD.getD p slE.dflt).cap := rfl
          rw [hvv] at HCS hL2
          generalize (SD.getD p slE.dflt).ad = ad2 at HCS hL2
          generalize (SD.getD p slE.dflt).cap = cp2 at HCS hL2
          generalize (SD.getD p slE.dflt).n = n2 at HCS hL2 hln
          subst hln
          have HL2 := Lib.hid hL2
          have HB2 := Lib.hid hb2
          clear hL2 hb2 hvv
          have cs := HCS.out
          by_cases h100 : L2.length ≤ 100
          · have d100 : decide ((L2.length : Int) > 100) = false := decide_eq_false (by omega)
            obtain ⟨F, st, arr, hM, hOn, hArr, hWn⟩ := HA.out.mon
            have HM := Lib.hid hM
            have HON := Lib.hid hOn
            have HAR := Lib.hid hArr
            have HWN := Lib.hid hWn
            have HGL := Lib.hid (show gO < wr.heap.size from hOn.lt)
            clear hM hOn hArr hWn
            go_wp2_with fail
            clear cs
            refine (roll_ok wr _ L2 HL2.out (by omega) HB2.out).mono ?_
            rintro e w4 ⟨rfl, D4, M4, z4⟩
            have HSM := Lib.hid (samples_ok w4 wr.heap.size _ L2 0 D4 _ A (HA.out.sen.mods0 M4) ⟨fun q hq => by have h1 := HUL.out.1 q hq; have h2 := HZ3.out; have h3 := HGL.out; omega, fun j hj q hq => by have h1 := HUL.out.2 j hj q hq; have h2 := HZ3.out; have h3 := HGL.out; omega⟩ (by have h1 := HB5.out; omega))
            have HM4 := Lib.hid M4
            clear D4 M4 z4
            go_wp2_with fail
            refine HSM.out.mono ?_
            rintro e w5 ⟨vx, X, j5, rfl, OX, hXl, D5, M5⟩
            have HM5 := Lib.hid (show Mods [] wr w5 from HM4.out.comp M5 (fun q hq => by simp at hq; subst hq; exact .inr (Nat.le_refl _)))
            obtain ⟨xa, xc, rfl⟩ := (OX.rd smpOk).len
            have HFB := Lib.hid (show fb < wr.heap.size ∧ sb < wr.heap.size from ⟨HM.out.fbl, lt_of_block HM.out.sts⟩)
            have HSC := Lib.hid (scan_ok (HM.out.mods0 HM5.out) (HO.out.mods0 (HA.out.M.trans HM5.out)) _ (OX.rd smpOk) (fun q hq => by have h1 := (OX.lt q hq).1; have h2 := HFB.out; have h3 := HM4.out.size; exact ⟨by omega, by omega⟩) (.slice none 0 0) (ab := []) (RdE.nil entE _) (fun q hq => by cases hq) (host := true))
            clear OX hXl D5 M5 HSM
            go_wp2_with fail
            refine HSC.out.mono ?_
            rintro e w6 hp6
            obtain ⟨vo, c, E, F', st', rfl, OE, hEl, hM6, M6, hwin, hc, hAlt, hOn6, hRd⟩ := al_scan (on := fun n i => arr (n * 15 + i)) (HM.out.mods0 HM5.out) hp6 HWL.out HNL.out HAR.out
            obtain ⟨ea, ec, rfl⟩ := (OE.rd evOk).len
            have HNO := Lib.hid (show gO ≠ fb ∧ gO ≠ sb from ⟨by have := HF3.out; omega, by have := HF3.out; omega⟩)
            have HM6 := Lib.hid hM6
            have HON6 := Lib.hid (show OnAt w6 gO arr from (HON.out.mods HM5.out (by simp)).mods M6 (by have := HNO.out; simp; exact this))
            have HG5 := Lib.hid (show gO < w5.heap.size from Nat.lt_of_lt_of_le HGL.out HM5.out.size)
            have HWI := Lib.hid (show ∀ j q, (F'.getD j default).win.ownBlock = some q → gO < q from fun j q hq => by
              rcases hwin j q hq with h1 | h1
              · exact Nat.lt_of_lt_of_le HG5.out h1
              · exact HWN.out j q h1)
            have HEB := Lib.hid (show ∀ q, (Value.slice ea E.length ec).ownBlock = some q → q ≠ gO from fun q hq => by have h1 := (OE.lt q hq).1; have h2 := HG5.out; omega)
            have HRE := Lib.hid (OE.rd evOk)
            have HEL := Lib.hid hEl
            have HCZ := Lib.hid hc
            have HAT := Lib.hid hAlt
            have HOF := Lib.hid hOn6
            have HRD := Lib.hid hRd
            have HUF := Lib.hid (show (∀ q, (Value.slice au A.length cu).ownBlock = some q → q ≠ fb ∧ q ≠ sb ∧ q ≠ gO) ∧ (∀ i, i < A.length → ∀ q, (A.getD i default).S.conv.pts.ownBlock = some q → q ≠ fb ∧ q ≠ sb ∧ q ≠ gO) from
              ⟨fun q hq => by have h1 := HUL.out.1 q hq; have h2 := HLO.out; have h3 := HZ3.out; exact ⟨by omega, by omega, by omega⟩, fun i hi q hq => by have h1 := HUL.out.2 i hi q hq; have h2 := HLO.out; have h3 := HZ3.out; exact ⟨by omega, by omega, by omega⟩⟩)
            have HS6 := Lib.hid (show RdSens w6 (.slice au A.length cu) A from ⟨(HA.out.sen.mods0 HM5.out).rd.mods senOk M6 (fun _ q hq => by have := HUF.out.1 q hq; simp; exact ⟨this.1, this.2.1⟩), fun i hi => ((HA.out.sen.mods0 HM5.out).is i hi).mods M6 (fun _ q hq => by have := HUF.out.2 i hi q hq; simp; exact ⟨this.1, this.2.1⟩)⟩)
            have HMW := Lib.hid ((HA.out.M.trans HM5.out).comp M6 (fun q hq => .inr (by have h1 := HLO.out; have h2 := HW2.out; simp at hq; omega)))
            clear OE hEl hM6 M6 hwin hc hAlt hOn6 hRd hp6 HSC HM HM5 HM4 HWN HON HFB HA HCS HL2 HB2
            have eI : ((E.length : Nat) : Int) ≤ 1000 := by have := HEL.out; omega
            go_wp2_with fail
            go_loopw [12, 13] (fun la i wr => ∃ k : Nat, k ≤ E.length ∧ i = .int .i64 (k : Nat) ∧ la = .int .i64 (lastE (-1) (E.take k)) ∧ Hid (∃ arr', OnAt wr gO arr' ∧ ∀ n i, i < 15 → arr' (n * 15 + i) = onE (fun n i => arr (n * 15 + i)) (E.take k) n i) ∧ Hid (Mods [gO] w6 wr)) (fun _ i _ => E.length - (intOf i).toNat)
            case atStart => exact ⟨0, Nat.zero_le _, rfl, rfl, Lib.hid ⟨arr, HON6.out, fun n i hi => rfl⟩, Lib.hid Mods.refl⟩
            case round =>
              obtain ⟨k, hk, rfl, rfl, HAK, HMK⟩ := hrel
              have i0 : (0 : Int) ≤ (k : Int) := by omega
              have HMM := Lib.hid (fun W (M : Mods [gO] w6 W) => MonAt.outside HMO.out HM6.out M (fun q hq => by simp at hq; subst hq; exact HGO.out) (fun i hi hWn q hq hm => by simp at hm; subst hm; exact Nat.lt_irrefl _ (HWI.out i _ hq)))
              have HMWK := Lib.hid (fun W (M : Mods [gO] w6 W) => show Mods [] w W from HMW.out.comp M (fun q hq => by simp at hq; subst hq; exact .inr (by have h1 := HZ3.out; have h2 := HW2.out; omega)))
              by_cases hkl : k < E.length
              · have i1 : (k : Int) < ((E.length : Nat) : Int) := by omega
                obtain ⟨eb, eo, ec', hv5, _, _, _⟩ := HRE.out.at (by omega)
                injection hv5 with hv6 _ hv7
                subst hv6 hv7
                have HEG := Lib.hid (show eb ≠ gO from HEB.out eb rfl)
                have HRGE := Lib.hid (fun W (M : Mods [gO] w6 W) => show W.rangeAt eb (eo + k * 10) (E.getD k evE.dflt).cells from ((HRE.out.mods evOk M (fun _ q hq => by have := HEB.out q hq; simp; exact this)).range hkl evOk.len))
                have HEV := Lib.hid (HAT.out.get k hkl)
                have HMEM := Lib.hid (show E.getD k evE.dflt ∈ E from by rw [List.getD_eq_getElem?_getD, List.getElem?_eq_getElem hkl]; exact List.getElem_mem hkl)
                have HRDK := Lib.hid (HRD.out _ HMEM.out)
                have HCC := Lib.hid (HCZ.out (by omega))
                have HTK := Lib.hid (show lastE (-1) (E.take (k + 1)) = atE (E.getD k evE.dflt) ∧ ∀ n i, onE (fun n i => arr (n * 15 + i)) (E.take (k + 1)) n i = updO (onE (fun n i => arr (n * 15 + i)) (E.take k)) (E.getD k evE.dflt) n i from by
                  rw [take_snocV E hkl, lastE_append, onE_append]; exact ⟨rfl, fun n i => rfl⟩)
                have HIXO := Lib.hid (fun W (M : Mods [gO] w6 W) => index_ok W (HO.out.mods0 (HMWK.out W M)) (E.getD k evE.dflt))
                clear HMEM
                generalize E.getD k evE.dflt = e at HRGE HEV HRDK HTK HIXO
                have HIX := Lib.hid (fun W (M : Mods [gO] w6 W) => show Calls Tryz.prog 20 #[.agg e.cells.toArray] W fun en w' => en = .returned (.tuple #[.int .i64 ((ixE e : Nat) : Int), .bool (evIx e).2.1, .bool true]) ∧ Mods [] W w' from by
                  have h := HIXO.out W M
                  have h2 := HEV.out.1
                  unfold IdxRes at h
                  rw [h2] at h
                  exact h)
                have x1 : ((ixE e : Nat) : Int) ≤ 14 := by have := evIx_le e; unfold ixE; omega
                have s1 : ((e.sen.val : Nat) : Int) ≤ 255 := by have := e.sen.isLt; omega
                have x0 : (0 : Int) ≤ ((ixE e : Nat) : Int) := by omega
                have s0 : (0 : Int) ≤ ((e.sen.val : Nat) : Int) := by omega
                have s2 : ((e.sen.val : Nat) : Int) < 256 := by omega
                have x2 : ((ixE e : Nat) : Int) < 15 := by omega
                have HSX := Lib.hid (show e.sen.val * 15 + ixE e < 3840 from by have := e.sen.isLt; omega)
                generalize (evIx e).2.1 = an at HIX HRDK
                clear HIXO
                obtain ⟨arr', hO1, hO2⟩ := HAK.out
                have hc0 := HCC.out
                subst hc0
                have HRG0 := Lib.hid (HRGE.out _ HMK.out)
                go_wp2_with (refine wpList_load_mid rfl 65 (.tmp 77) rfl eb (eo + k * 10) (by rfl) e.cells _ HRG0.out Tryz.underlying65 rfl Tryz.sizeEv ?_)
                refine (HIX.out _ HMK.out).mono ?_
                rintro en w7 ⟨rfl, M7⟩
                have HM7 := Lib.hid (show Mods [gO] w6 w7 from HMK.out.comp0 M7)
                have HRG7 := Lib.hid (HRGE.out _ HM7.out)
                have HO7 := Lib.hid (hO1.mods M7 (by simp))
                have HO2 := Lib.hid hO2
                have cs : w7.cell? ⟨eb, eo + k * 10 + 4, none⟩ = some (.int .u8 ((e.sen.val : Nat) : Int)) := HRG7.out 4 _ rfl
                clear M7 HRG0 hO1 hO2 HAK HMK HIX
                go_upto_region 20 with (fail)
                have HCS := Lib.hid cs
                have HCD := Lib.hid (show w7.cell? ⟨eb, eo + k * 10 + 6, none⟩ = some (.bool e.de) from HRG7.out 6 _ rfl)
                have HCI := Lib.hid (show w7.cell? ⟨eb, eo + k * 10, none⟩ = some (.int .u16 0) from by have h := HRG7.out 0 (.int .u16 ((e.id.val : Nat) : Int)) rfl; rw [HEV.out.2.2.2.1] at h; exact h)
                have HCT := Lib.hid (show w7.cell? ⟨eb, eo + k * 10 + 1, none⟩ = some (.int .u32 0) from by have h := HRG7.out 1 (.int .u32 ((e.time.val : Nat) : Int)) rfl; rw [HEV.out.2.2.2.2] at h; exact h)
                have HCO := Lib.hid (show w7.cell? ⟨gO, e.sen.val * 15 + ixE e, none⟩ = some (.bool e.de) from by
                  have h := (HO7.out.c HSX.out).1
                  rw [HO2.out _ _ (by omega), HEV.out.2.2.1] at h
                  exact h)
                have dl : decide (20 * ((e.sen.val : Nat) : Int) + ((ixE e : Nat) : Int) ≤ lastE (-1) (E.take k)) = false := decide_eq_false (by have h := HEV.out.2.1; unfold atE at h; omega)
                have HATE := Lib.hid (show atE e = 20 * ((e.sen.val : Nat) : Int) + ((ixE e : Nat) : Int) from rfl)
                clear cs HEV
                generalize lastE (-1) (E.take k) = la at dl ⊢
                (try dsimp only [Act.put])
                refine heldStart (S := fun W => Mods [] w7 W) 44 rfl (by kernel_rfl) Mods.refl.drew (fun hHeld => ?_)
                refine takeD (i := 0) (d := 92) (v := ?_) rfl rfl (by kernel_rfl) (by kernel_rfl) (by kernel_rfl) (fun _ _ _ h => h) (Or.inl ⟨by rfl, ?_⟩) hHeld ?_
                rotate_left 1
                · (intro w hSw; (try dsimp only at hSw); go_simp; (try with_reducible rfl))
                simp only [List.setIfInBounds_toArray, List.set_cons_zero, List.set_cons_succ]
                refine takeD (i := 1) (d := 93) (v := ?_) rfl rfl (by kernel_rfl) (by kernel_rfl) (by kernel_rfl) (fun _ _ _ h => h) (Or.inl ⟨by rfl, ?_⟩) hHeld ?_
                rotate_left 1
                · (intro w hSw; (try dsimp only at hSw); go_simp; (try with_reducible rfl))
                simp only [List.setIfInBounds_toArray, List.set_cons_zero, List.set_cons_succ]
                refine takeD (i := 2) (d := 94) (v := ?_) rfl rfl (by kernel_rfl) (by kernel_rfl) (by kernel_rfl) (fun _ _ _ h => h) (Or.inl ⟨by rfl, ?_⟩) hHeld ?_
                rotate_left 1
                · (intro w hSw; (try dsimp only at hSw); go_simp; (try with_reducible rfl))
                simp only [List.setIfInBounds_toArray, List.set_cons_zero, List.set_cons_succ]
                refine takeD (i := 3) (d := 95) (v := ?_) rfl rfl (by kernel_rfl) (by kernel_rfl) (by kernel_rfl) (fun _ _ _ h => h) (Or.inl ⟨by rfl, ?_⟩) hHeld ?_
                rotate_left 1
                · (intro w hSw; (try dsimp only at hSw); go_simp; (try with_reducible rfl))
                simp only [List.setIfInBounds_toArray, List.set_cons_zero, List.set_cons_succ]
                refine takeD (i := 4) (d := 96) (v := ?_) rfl rfl (by kernel_rfl) (by kernel_rfl) (by kernel_rfl) (fun _ _ _ h => h) (Or.inl ⟨by rfl, ?_⟩) hHeld ?_
                rotate_left 1
                · (intro w hSw; (try dsimp only at hSw); go_simp; (try with_reducible rfl))
                simp only [List.setIfInBounds_toArray, List.set_cons_zero, List.set_cons_succ]
                refine takeD (i := 5) (d := 97) (v := ?_) rfl rfl (by kernel_rfl) (by kernel_rfl) (by kernel_rfl) (fun _ _ _ h => h) (Or.inl ⟨by rfl, ?_⟩) hHeld ?_
                rotate_left 1
                · (intro w hSw; (try dsimp only at hSw); go_simp; (try with_reducible rfl))
                simp only [List.setIfInBounds_toArray, List.set_cons_zero, List.set_cons_succ]
                refine takeD (i := 6) (d := 98) (v := ?_) rfl rfl (by kernel_rfl) (by kernel_rfl) (by kernel_rfl) (fun _ _ _ h => h) (Or.inl ⟨by rfl, ?_⟩) hHeld ?_
                rotate_left 1
                · (intro w hSw; (try dsimp only at hSw); go_simp; (try with_reducible rfl))
                simp only [List.setIfInBounds_toArray, List.set_cons_zero, List.set_cons_succ]
                refine takeD (i := 7) (d := 99) (v := ?_) rfl rfl (by kernel_rfl) (by kernel_rfl) (by kernel_rfl) (fun _ _ _ h => h) (Or.inl ⟨by rfl, ?_⟩) hHeld ?_
                rotate_left 1
                · (intro w hSw; (try dsimp only at hSw); go_simp; (try with_reducible rfl))
                simp only [List.setIfInBounds_toArray, List.set_cons_zero, List.set_cons_succ]
                refine takeD (i := 8) (d := 100) (v := ?_) rfl rfl (by kernel_rfl) (by kernel_rfl) (by kernel_rfl) (fun _ _ _ h => h) (Or.inl ⟨by rfl, ?_⟩) hHeld ?_
                rotate_left 1
                · (intro w hSw; (try dsimp only at hSw); go_simp; (try with_reducible rfl))
                simp only [List.setIfInBounds_toArray, List.set_cons_zero, List.set_cons_succ]
                refine takeD (i := 9) (d := 101) (v := ?_) rfl rfl (by kernel_rfl) (by kernel_rfl) (by kernel_rfl) (fun _ _ _ h => h) (Or.inl ⟨by rfl, ?_⟩) hHeld ?_
                rotate_left 1
                · (intro w hSw; (try dsimp only at hSw); go_simp; (try with_reducible rfl))
                simp only [List.setIfInBounds_toArray, List.set_cons_zero, List.set_cons_succ]
                refine takeD (i := 10) (d := 102) (v := ?_) rfl rfl (by kernel_rfl) (by kernel_rfl) (by kernel_rfl) (fun _ _ _ h => h) (Or.inl ⟨by rfl, ?_⟩) hHeld ?_
                rotate_left 1
                · (intro w hSw; (try dsimp only at hSw); go_simp; (try with_reducible rfl))
                simp only [List.setIfInBounds_toArray, List.set_cons_zero, List.set_cons_succ]
                refine takeD (i := 11) (d := 103) (v := ?_) rfl rfl (by kernel_rfl) (by kernel_rfl) (by kernel_rfl) (fun _ _ _ h => h) (Or.inl ⟨by rfl, ?_⟩) hHeld ?_
                rotate_left 1
                · (intro w hSw; (try dsimp only at hSw); go_simp; (try with_reducible rfl))
                simp only [List.setIfInBounds_toArray, List.set_cons_zero, List.set_cons_succ]
                refine takeD (i := 12) (d := 104) (v := ?_) rfl rfl (by kernel_rfl) (by kernel_rfl) (by kernel_rfl) (fun _ _ _ h => h) (Or.inl ⟨by rfl, ?_⟩) hHeld ?_
                rotate_left 1
                · (intro w hSw; (try dsimp only at hSw); go_simp; (try with_reducible rfl))
                simp only [List.setIfInBounds_toArray, List.set_cons_zero, List.set_cons_succ]
                refine takeD (i := 13) (d := 105) (v := ?_) rfl rfl (by kernel_rfl) (by kernel_rfl) (by kernel_rfl) (fun _ _ _ h => h) (Or.inl ⟨by rfl, ?_⟩) hHeld ?_
                rotate_left 1
                · (intro w hSw; (try dsimp only at hSw); go_simp; (try with_reducible rfl))
                simp only [List.setIfInBounds_toArray, List.set_cons_zero, List.set_cons_succ]
                refine takeD (i := 14) (d := 106) (v := ?_) rfl rfl (by kernel_rfl) (by kernel_rfl) (by kernel_rfl) (fun _ _ _ h => h) (Or.inl ⟨by rfl, ?_⟩) hHeld ?_
                rotate_left 1
                · (intro w hSw; (try dsimp only at hSw); go_simp; (try with_reducible rfl))
                simp only [List.setIfInBounds_toArray, List.set_cons_zero, List.set_cons_succ]
                refine takeD (i := 15) (d := 107) (v := ?_) rfl rfl (by kernel_rfl) (by kernel_rfl) (by kernel_rfl) (fun _ _ _ h => h) (Or.inl ⟨by rfl, ?_⟩) hHeld ?_
                rotate_left 1
                · (intro w hSw; (try dsimp only at hSw); go_simp; (try with_reducible rfl))
                simp only [List.setIfInBounds_toArray, List.set_cons_zero, List.set_cons_succ]
                refine takeD (i := 16) (d := 108) (v := .int .u8 ((e.sen.val:Nat):Int)) rfl rfl (by kernel_rfl) (by kernel_rfl) (by kernel_rfl) (fun _ _ _ h => h) (Or.inl ⟨by rfl, fun W hSw => ?_⟩) hHeld ?_
                · (try dsimp only at hSw)
                  have cst := hSw.cell HCS.out (by simp)
                  go_simp
                  skip
                simp only [List.setIfInBounds_toArray, List.set_cons_zero, List.set_cons_succ]
                refine takeD (i := 17) (d := 109) (v := ?_) rfl rfl (by kernel_rfl) (by kernel_rfl) (by kernel_rfl) (fun _ _ _ h => h) (Or.inl ⟨by rfl, ?_⟩) hHeld ?_
                rotate_left 1
                · (intro w hSw; (try dsimp only at hSw); go_simp; (try with_reducible rfl))
                simp only [List.setIfInBounds_toArray, List.set_cons_zero, List.set_cons_succ]
                refine takeD (i := 18) (d := 110) (v := ?_) rfl rfl (by kernel_rfl) (by kernel_rfl) (by kernel_rfl) (fun _ _ _ h => h) (Or.inl ⟨by rfl, ?_⟩) hHeld ?_
                rotate_left 1
                · (intro w hSw; (try dsimp only at hSw); go_simp; (try with_reducible rfl))
                simp only [List.setIfInBounds_toArray, List.set_cons_zero, List.set_cons_succ]
                refine takeD (i := 19) (d := 111) (v := ?_) rfl rfl (by kernel_rfl) (by kernel_rfl) (by kernel_rfl) (fun _ _ _ h => h) (Or.inl ⟨by rfl, ?_⟩) hHeld ?_
                rotate_left 1
                · (intro w hSw; (try dsimp only at hSw); go_simp; (try with_reducible rfl))
                simp only [List.setIfInBounds_toArray, List.set_cons_zero, List.set_cons_succ]
                refine takeD (i := 20) (d := 112) (v := .bool e.de) rfl rfl (by kernel_rfl) (by kernel_rfl) (by kernel_rfl) (fun _ _ _ h => h) (Or.inl ⟨by rfl, fun W hSw => ?_⟩) hHeld ?_
                · (try dsimp only at hSw)
                  have cst := hSw.cell HCO.out (by simp)
                  go_simp
                  skip
                simp only [List.setIfInBounds_toArray, List.set_cons_zero, List.set_cons_succ]
                refine takeD (i := 21) (d := 113) (v := ?_) rfl rfl (by kernel_rfl) (by kernel_rfl) (by kernel_rfl) (fun _ _ _ h => h) (Or.inl ⟨by rfl, ?_⟩) hHeld ?_
                rotate_left 1
                · (intro w hSw; (try dsimp only at hSw); go_simp; (try with_reducible rfl))
                simp only [List.setIfInBounds_toArray, List.set_cons_zero, List.set_cons_succ]
                refine takeD (i := 22) (d := 114) (v := ?_) rfl rfl (by kernel_rfl) (by kernel_rfl) (by kernel_rfl) (fun _ _ _ h => h) (Or.inl ⟨by rfl, ?_⟩) hHeld ?_
                rotate_left 1
                · (intro w hSw; (try dsimp only at hSw); go_simp; (try with_reducible rfl))
                simp only [List.setIfInBounds_toArray, List.set_cons_zero, List.set_cons_succ]
                refine takeD (i := 23) (d := 115) (v := ?_) rfl rfl (by kernel_rfl) (by kernel_rfl) (by kernel_rfl) (fun _ _ _ h => h) (Or.inl ⟨by rfl, ?_⟩) hHeld ?_
                rotate_left 1
                · (intro w hSw; (try dsimp only at hSw); go_simp; (try with_reducible rfl))
                simp only [List.setIfInBounds_toArray, List.set_cons_zero, List.set_cons_succ]
                refine takeD (i := 24) (d := 116) (v := ?_) rfl rfl (by kernel_rfl) (by kernel_rfl) (by kernel_rfl) (fun _ _ _ h => h) (Or.inl ⟨by rfl, ?_⟩) hHeld ?_
                rotate_left 1
                · (intro w hSw; (try dsimp only at hSw); go_simp; (try with_reducible rfl))
                simp only [List.setIfInBounds_toArray, List.set_cons_zero, List.set_cons_succ]
                refine takeD (i := 25) (d := 117) (v := .bool e.de) rfl rfl (by kernel_rfl) (by kernel_rfl) (by kernel_rfl) (fun _ _ _ h => h) (Or.inl ⟨by rfl, fun W hSw => ?_⟩) hHeld ?_
                · (try dsimp only at hSw)
                  have cst := hSw.cell HCD.out (by simp)
                  go_simp
                  skip
                simp only [List.setIfInBounds_toArray, List.set_cons_zero, List.set_cons_succ]
                refine takeD (i := 26) (d := 118) (v := ?_) rfl rfl (by kernel_rfl) (by kernel_rfl) (by kernel_rfl) (fun _ _ _ h => h) (Or.inl ⟨by rfl, ?_⟩) hHeld ?_
                rotate_left 1
                · (intro w hSw; (try dsimp only at hSw); go_simp; (try with_reducible rfl))
                simp only [List.setIfInBounds_toArray, List.set_cons_zero, List.set_cons_succ]
                refine takeD (i := 27) (d := 119) (v := ?_) rfl rfl (by kernel_rfl) (by kernel_rfl) (by kernel_rfl) (fun _ _ _ h => h) (Or.inl ⟨by rfl, ?_⟩) hHeld ?_
                rotate_left 1
                · (intro w hSw; (try dsimp only at hSw); go_simp; (try with_reducible rfl))
                simp only [List.setIfInBounds_toArray, List.set_cons_zero, List.set_cons_succ]
                refine takeD (i := 28) (d := 120) (v := ?_) rfl rfl (by kernel_rfl) (by kernel_rfl) (by kernel_rfl) (fun _ _ _ h => h) (Or.inl ⟨by rfl, ?_⟩) hHeld ?_
                rotate_left 1
                · (intro w hSw; (try dsimp only at hSw); go_simp; (try with_reducible rfl))
                simp only [List.setIfInBounds_toArray, List.set_cons_zero, List.set_cons_succ]
                refine takeD (i := 29) (d := 121) (v := ?_) rfl rfl (by kernel_rfl) (by kernel_rfl) (by kernel_rfl) (fun _ _ _ h => h) (Or.inl ⟨by rfl, ?_⟩) hHeld ?_
                rotate_left 1
                · (intro w hSw; (try dsimp only at hSw); go_simp; (try with_reducible rfl))
                simp only [List.setIfInBounds_toArray, List.set_cons_zero, List.set_cons_succ]
                refine takeD (i := 30) (d := 122) (v := ?_) rfl rfl (by kernel_rfl) (by kernel_rfl) (by kernel_rfl) (fun _ _ _ h => h) (Or.inl ⟨by rfl, ?_⟩) hHeld ?_
                rotate_left 1
                · (intro w hSw; (try dsimp only at hSw); go_simp; (try with_reducible rfl))
                simp only [List.setIfInBounds_toArray, List.set_cons_zero, List.set_cons_succ]
                refine takeD (i := 31) (d := 123) (v := ?_) rfl rfl (by kernel_rfl) (by kernel_rfl) (by kernel_rfl) (fun _ _ _ h => h) (Or.inl ⟨by rfl, ?_⟩) hHeld ?_
                rotate_left 1
                · (intro w hSw; (try dsimp only at hSw); go_simp; (try with_reducible rfl))
                simp only [List.setIfInBounds_toArray, List.set_cons_zero, List.set_cons_succ]
                refine takeD (i := 32) (d := 124) (v := ?_) rfl rfl (by kernel_rfl) (by kernel_rfl) (by kernel_rfl) (fun _ _ _ h => h) (Or.inl ⟨by rfl, ?_⟩) hHeld ?_
                rotate_left 1
                · (intro w hSw; (try dsimp only at hSw); go_simp; (try with_reducible rfl))
                simp only [List.setIfInBounds_toArray, List.set_cons_zero, List.set_cons_succ]
                refine takeD (i := 33) (d := 125) (v := .int .u16 0) rfl rfl (by kernel_rfl) (by kernel_rfl) (by kernel_rfl) (fun _ _ _ h => h) (Or.inl ⟨by rfl, fun W hSw => ?_⟩) hHeld ?_
                · (try dsimp only at hSw)
                  have cst := hSw.cell HCI.out (by simp)
                  go_simp
                  skip
                simp only [List.setIfInBounds_toArray, List.set_cons_zero, List.set_cons_succ]
                refine takeD (i := 34) (d := 126) (v := ?_) rfl rfl (by kernel_rfl) (by kernel_rfl) (by kernel_rfl) (fun _ _ _ h => h) (Or.inl ⟨by rfl, ?_⟩) hHeld ?_
                rotate_left 1
                · (intro w hSw; (try dsimp only at hSw); go_simp; (try with_reducible rfl))
                simp only [List.setIfInBounds_toArray, List.set_cons_zero, List.set_cons_succ]
                refine takeD (i := 35) (d := 127) (v := ?_) rfl rfl (by kernel_rfl) (by kernel_rfl) (by kernel_rfl) (fun _ _ _ h => h) (Or.inl ⟨by rfl, ?_⟩) hHeld ?_
                rotate_left 1
                · (intro w hSw; (try dsimp only at hSw); go_simp; (try with_reducible rfl))
                simp only [List.setIfInBounds_toArray, List.set_cons_zero, List.set_cons_succ]
                refine takeD (i := 36) (d := 128) (v := ?_) rfl rfl (by kernel_rfl) (by kernel_rfl) (by kernel_rfl) (fun _ _ _ h => h) (Or.inl ⟨by rfl, ?_⟩) hHeld ?_
                rotate_left 1
                · (intro w hSw; (try dsimp only at hSw); go_simp; (try with_reducible rfl))
                simp only [List.setIfInBounds_toArray, List.set_cons_zero, List.set_cons_succ]
                refine takeD (i := 37) (d := 129) (v := ?_) rfl rfl (by kernel_rfl) (by kernel_rfl) (by kernel_rfl) (fun _ _ _ h => h) (Or.inl ⟨by rfl, ?_⟩) hHeld ?_
                rotate_left 1
                · (intro w hSw; (try dsimp only at hSw); go_simp; (try with_reducible rfl))
                simp only [List.setIfInBounds_toArray, List.set_cons_zero, List.set_cons_succ]
                refine takeD (i := 38) (d := 130) (v := ?_) rfl rfl (by kernel_rfl) (by kernel_rfl) (by kernel_rfl) (fun _ _ _ h => h) (Or.inl ⟨by rfl, ?_⟩) hHeld ?_
                rotate_left 1
                · (intro w hSw; (try dsimp only at hSw); go_simp; (try with_reducible rfl))
                simp only [List.setIfInBounds_toArray, List.set_cons_zero, List.set_cons_succ]
                refine takeD (i := 39) (d := 131) (v := ?_) rfl rfl (by kernel_rfl) (by kernel_rfl) (by kernel_rfl) (fun _ _ _ h => h) (Or.inl ⟨by rfl, ?_⟩) hHeld ?_
                rotate_left 1
                · (intro w hSw; (try dsimp only at hSw); go_simp; (try with_reducible rfl))
                simp only [List.setIfInBounds_toArray, List.set_cons_zero, List.set_cons_succ]
                refine takeD (i := 40) (d := 132) (v := ?_) rfl rfl (by kernel_rfl) (by kernel_rfl) (by kernel_rfl) (fun _ _ _ h => h) (Or.inl ⟨by rfl, ?_⟩) hHeld ?_
                rotate_left 1
                · (intro w hSw; (try dsimp only at hSw); go_simp; (try with_reducible rfl))
                simp only [List.setIfInBounds_toArray, List.set_cons_zero, List.set_cons_succ]
                refine takeD (i := 41) (d := 133) (v := .int .u32 0) rfl rfl (by kernel_rfl) (by kernel_rfl) (by kernel_rfl) (fun _ _ _ h => h) (Or.inl ⟨by rfl, fun W hSw => ?_⟩) hHeld ?_
                · (try dsimp only at hSw)
                  have cst := hSw.cell HCT.out (by simp)
                  go_simp
                  skip
                simp only [List.setIfInBounds_toArray, List.set_cons_zero, List.set_cons_succ]
                refine takeD (i := 42) (d := 134) (v := ?_) rfl rfl (by kernel_rfl) (by kernel_rfl) (by kernel_rfl) (fun _ _ _ h => h) (Or.inl ⟨by rfl, ?_⟩) hHeld ?_
                rotate_left 1
                · (intro w hSw; (try dsimp only at hSw); go_simp; (try with_reducible rfl))
                simp only [List.setIfInBounds_toArray, List.set_cons_zero, List.set_cons_succ]
                refine takeD (i := 43) (d := 135) (v := ?_) rfl rfl (by kernel_rfl) (by kernel_rfl) (by kernel_rfl) (fun _ _ _ h => h) (Or.inl ⟨by rfl, ?_⟩) hHeld ?_
                rotate_left 1
                · (intro w hSw; (try dsimp only at hSw); go_simp; (try with_reducible rfl))
                simp only [List.setIfInBounds_toArray, List.set_cons_zero, List.set_cons_succ]
                refine wpAnyH_done (by kernel_rfl) ?_ _
                have HM8 := Lib.hid (show Mods [] w7 w7.drew from Mods.refl.drew)
                clear hHeld dl
                change Exit.then _ _ Exit.normal _ w7.drew
                generalize w7.drew = w8 at HM8 ⊢
                have HCS8 := Lib.hid (HM8.out.cell HCS.out (by simp))
                have HCD8 := Lib.hid (HM8.out.cell HCD.out (by simp))
                have HO8 := Lib.hid (HO7.out.mods HM8.out (by simp))
                have HM68 := Lib.hid (HM7.out.comp0 HM8.out)
                clear HCS HCD HCI HCT HCO HO7 HM7 HRG7 HM8
                go_upto_region 23 with (fail)
                (try dsimp only [Act.put])
                have hcO := (HO8.out.c HSX.out).1
                have hfO := (HO8.out.c HSX.out).2
                have hcO2 : w8.drew.cell? ⟨gO, e.sen.val * 15 + ixE e, none⟩ = some (.bool (arr' (e.sen.val * 15 + ixE e))) := hcO
                have hfO2 : w8.drew.frozen? ⟨gO, e.sen.val * 15 + ixE e, none⟩ = false := hfO
                refine heldStart (S := fun W => Mods [gO] w8 W) 15 rfl (by kernel_rfl) Mods.refl.drew (fun hHeld => ?_)
                refine takeD (i := 0) (d := 137) (v := ?_) rfl rfl (by kernel_rfl) (by kernel_rfl) (by kernel_rfl) (fun _ _ _ h => h) (Or.inl ⟨by rfl, ?_⟩) hHeld ?_
                rotate_left 1
                · (intro w hSw; (try dsimp only at hSw); go_simp; (try with_reducible rfl))
                simp only [List.setIfInBounds_toArray, List.set_cons_zero, List.set_cons_succ]
                refine takeD (i := 1) (d := 138) (v := ?_) rfl rfl (by kernel_rfl) (by kernel_rfl) (by kernel_rfl) (fun _ _ _ h => h) (Or.inl ⟨by rfl, ?_⟩) hHeld ?_
                rotate_left 1
                · (intro w hSw; (try dsimp only at hSw); go_simp; (try with_reducible rfl))
                simp only [List.setIfInBounds_toArray, List.set_cons_zero, List.set_cons_succ]
                refine takeD (i := 2) (d := 139) (v := ?_) rfl rfl (by kernel_rfl) (by kernel_rfl) (by kernel_rfl) (fun _ _ _ h => h) (Or.inl ⟨by rfl, ?_⟩) hHeld ?_
                rotate_left 1
                · (intro w hSw; (try dsimp only at hSw); go_simp; (try with_reducible rfl))
                simp only [List.setIfInBounds_toArray, List.set_cons_zero, List.set_cons_succ]
                refine takeD (i := 3) (d := 140) (v := ?_) rfl rfl (by kernel_rfl) (by kernel_rfl) (by kernel_rfl) (fun _ _ _ h => h) (Or.inl ⟨by rfl, ?_⟩) hHeld ?_
                rotate_left 1
                · (intro w hSw; (try dsimp only at hSw); go_simp; (try with_reducible rfl))
                simp only [List.setIfInBounds_toArray, List.set_cons_zero, List.set_cons_succ]
                refine takeD (i := 4) (d := 141) (v := .int .u8 ((e.sen.val:Nat):Int)) rfl rfl (by kernel_rfl) (by kernel_rfl) (by kernel_rfl) (fun _ _ _ h => h) (Or.inl ⟨by rfl, fun W hSw => ?_⟩) hHeld ?_
                · (try dsimp only at hSw)
                  have cst := hSw.cell HCS8.out (by simpa using HEG.out)
                  go_simp
                  skip
                simp only [List.setIfInBounds_toArray, List.set_cons_zero, List.set_cons_succ]
                refine takeD (i := 5) (d := 142) (v := ?_) rfl rfl (by kernel_rfl) (by kernel_rfl) (by kernel_rfl) (fun _ _ _ h => h) (Or.inl ⟨by rfl, ?_⟩) hHeld ?_
                rotate_left 1
                · (intro w hSw; (try dsimp only at hSw); go_simp; (try with_reducible rfl))
                simp only [List.setIfInBounds_toArray, List.set_cons_zero, List.set_cons_succ]
                refine takeD (i := 6) (d := 143) (v := ?_) rfl rfl (by kernel_rfl) (by kernel_rfl) (by kernel_rfl) (fun _ _ _ h => h) (Or.inl ⟨by rfl, ?_⟩) hHeld ?_
                rotate_left 1
                · (intro w hSw; (try dsimp only at hSw); go_simp; (try with_reducible rfl))
                simp only [List.setIfInBounds_toArray, List.set_cons_zero, List.set_cons_succ]
                refine takeD (i := 7) (d := 144) (v := ?_) rfl rfl (by kernel_rfl) (by kernel_rfl) (by kernel_rfl) (fun _ _ _ h => h) (Or.inl ⟨by rfl, ?_⟩) hHeld ?_
                rotate_left 1
                · (intro w hSw; (try dsimp only at hSw); go_simp; (try with_reducible rfl))
                simp only [List.setIfInBounds_toArray, List.set_cons_zero, List.set_cons_succ]
                refine takeD (i := 8) (d := 145) (v := ?_) rfl rfl (by kernel_rfl) (by kernel_rfl) (by kernel_rfl) (fun _ _ _ h => h) (Or.inl ⟨by rfl, ?_⟩) hHeld ?_
                rotate_left 1
                · (intro w hSw; (try dsimp only at hSw); go_simp; (try with_reducible rfl))
                simp only [List.setIfInBounds_toArray, List.set_cons_zero, List.set_cons_succ]
                refine takeD (i := 9) (d := 146) (v := ?_) rfl rfl (by kernel_rfl) (by kernel_rfl) (by kernel_rfl) (fun _ _ _ h => h) (Or.inl ⟨by rfl, ?_⟩) hHeld ?_
                rotate_left 1
                · (intro w hSw; (try dsimp only at hSw); go_simp; (try with_reducible rfl))
                simp only [List.setIfInBounds_toArray, List.set_cons_zero, List.set_cons_succ]
                refine takeD (i := 10) (d := 147) (v := .bool e.de) rfl rfl (by kernel_rfl) (by kernel_rfl) (by kernel_rfl) (fun _ _ _ h => h) (Or.inl ⟨by rfl, fun W hSw => ?_⟩) hHeld ?_
                · (try dsimp only at hSw)
                  have cst := hSw.cell HCD8.out (by simpa using HEG.out)
                  go_simp
                  skip
                simp only [List.setIfInBounds_toArray, List.set_cons_zero, List.set_cons_succ]
                refine takeD (i := 11) (d := 148) (v := ?_) rfl rfl (by kernel_rfl) (by kernel_rfl) (by kernel_rfl) (fun _ _ _ h => h) (Or.inl ⟨by rfl, ?_⟩) hHeld ?_
                rotate_left 1
                · (intro w hSw; (try dsimp only at hSw); go_simp; (try with_reducible rfl))
                simp only [List.setIfInBounds_toArray, List.set_cons_zero, List.set_cons_succ]
                refine takeD (i := 12) (d := 149) (v := ?_) rfl rfl (by kernel_rfl) (by kernel_rfl) (by kernel_rfl) (fun _ _ _ h => h) (Or.inl ⟨by rfl, ?_⟩) hHeld ?_
                rotate_left 1
                · (intro w hSw; (try dsimp only at hSw); go_simp; (try with_reducible rfl))
                simp only [List.setIfInBounds_toArray, List.set_cons_zero, List.set_cons_succ]
                refine takeD (i := 13) (d := 150) (v := ?_) rfl rfl (by kernel_rfl) (by kernel_rfl) (by kernel_rfl) (fun _ _ _ h => h) (Or.inl ⟨by rfl, ?_⟩) hHeld ?_
                rotate_left 1
                · (intro w hSw; (try dsimp only at hSw); go_simp; (try with_reducible rfl))
                simp only [List.setIfInBounds_toArray, List.set_cons_zero, List.set_cons_succ]
                refine wpAnyH_ready (rs := [14]) (by kernel_rfl) (by simp) ?_
                refine AllReadyH.cons rfl (fun K hK => ?_) AllReadyH.nil
                go_simp
                refine hK.out _ _ ?_ (fun hHeld => ?_)
                · exact hHeld.setCell (.inl (by simp)) _
                clear hK K
                refine wpAnyH_done (by kernel_rfl) ?_ _
                have HO9 := Lib.hid (show OnAt (w8.drew.setCell ⟨gO, e.sen.val * 15 + ixE e, none⟩ (.bool (!e.de))) gO (fun d => if d = e.sen.val * 15 + ixE e then !e.de else arr' d) from OnAt.set (HO8.out.mods (show Mods [] w8 w8.drew from Mods.refl.drew) (by simp)) HSX.out (!e.de))
                have HM9 := Lib.hid (HM68.out.trans (show Mods [gO] w8 (w8.drew.setCell ⟨gO, e.sen.val * 15 + ixE e, none⟩ (.bool (!e.de))) from hHeld))
                have HUP := Lib.hid (show ∀ n i, i < 15 → (if n * 15 + i = e.sen.val * 15 + ixE e then !e.de else arr' (n * 15 + i)) = onE (fun n i => arr (n * 15 + i)) (E.take (k + 1)) n i from fun n i hi => by
                  rw [HTK.out.2 n i]
                  unfold updO
                  rw [HO2.out n i hi]
                  by_cases h1 : n = e.sen.val ∧ i = ixE e
                  · rw [if_pos (by rw [h1.1, h1.2]), if_pos h1]
                  · rw [if_neg (fun h2 => h1 (by constructor <;> omega)), if_neg h1])
                clear hcO hfO hcO2 hfO2 HCS8 HCD8 HO8 HM68 HO2
                change Exit.then _ _ Exit.normal _ (w8.drew.setCell ⟨gO, e.sen.val * 15 + ixE e, none⟩ (.bool (!e.de)))
                generalize w8.drew.setCell ⟨gO, e.sen.val * 15 + ixE e, none⟩ (.bool (!e.de)) = w9 at HO9 HM9 ⊢
                have cs : w9.cell? ⟨eb, eo + k * 10 + 4, none⟩ = some (.int .u8 ((e.sen.val : Nat) : Int)) := HRGE.out _ HM9.out 4 _ rfl
                have HREA := Lib.hid (reading_ok (HMM.out _ HM9.out) e.sen.val)
                generalize readM l F' e.sen.val = rv at HREA HRDK
                obtain ⟨rd, isv⟩ := rv
                simp only at HRDK
                go_wp2_with fail
                clear cs
                refine HREA.out.mono ?_
                rintro en w10 ⟨rfl, hrb, M10⟩
                have HM10 := Lib.hid (HM9.out.comp0 M10)
                have HO10 := Lib.hid (HO9.out.mods M10 (by simp))
                have HKE := Lib.hid (show Value.int .i64 (20 * ((e.sen.val : Nat) : Int) + ((ixE e : Nat) : Int)) = .int .i64 (lastE (-1) (E.take (k + 1))) from by rw [HTK.out.1, HATE.out])
                simp only at hrb
                simp only
                cases an with
                | false =>
                  go_wp2_with fail
                  go_roundw
                  case rel => exact ⟨k + 1, by omega, by go_num, HKE.out, Lib.hid ⟨_, HO10.out, HUP.out⟩, HM10⟩
                  case measure => simp [intOf]; omega
                | true =>
                  obtain ⟨hr1, hr2⟩ := HRDK.out rfl
                  subst hr1
                  obtain ⟨rn, rfl⟩ := Int.eq_ofNat_of_zero_le hrb.1
                  have cd : w10.cell? ⟨eb, eo + k * 10 + 8, none⟩ = some (.int .u8 ((rn : Nat) : Int)) := by
                    have h := HRGE.out _ HM10.out 8 (.int .u8 ((e.d1.val : Nat) : Int)) rfl
                    rw [hr2, Int.toNat_natCast, f8v (show rn < 256 by omega)] at h
                    exact h
                  clear hr2
                  go_wp2_with fail
                  go_roundw
                  case rel => exact ⟨k + 1, by omega, by go_num, HKE.out, Lib.hid ⟨_, HO10.out, HUP.out⟩, HM10⟩
                  case measure => simp [intOf]; omega
              · have i1 : ¬ (k : Int) < ((E.length : Nat) : Int) := by omega
                have hkE : k = E.length := by omega
                obtain ⟨arr', hO1, hO2⟩ := HAK.out
                have HNX := Lib.hid (show AlAt w gO mb fb sb vs va l (.slice au A.length cu) A wr from ⟨⟨F', st', arr', HMM.out _ HMK.out, hO1, fun j hj i hi => by
                    rw [hO2 _ i hi, hkE, List.take_length]; exact HOF.out j hj i hi, HWI.out⟩,
                  ⟨HS6.out.rd.mods senOk HMK.out (fun _ q hq => by have := HUF.out.1 q hq; simp; exact this.2.2), fun i hi => (HS6.out.is i hi).mods HMK.out (fun _ q hq => by have := HUF.out.2 i hi q hq; simp; exact this.2.2)⟩, HMWK.out _ HMK.out⟩)
                clear hO1 hO2
                go_wp2_with fail
                go_roundw
                case rel => exact ⟨p + 1, by omega, by go_num, HNX⟩
                case measure => simp [intOf]; omega
          · have d100 : decide ((L2.length : Int) > 100) = true := decide_eq_true (by omega)
            go_wp2_with fail
            refine (awake16_ok _ (HO.out.mods0 HA.out.M)).mono ?_
            rintro e wz ⟨rfl, MZ⟩
            go_wp2
            go_ret
            exact ⟨rfl, HA.out.M.trans MZ⟩
        · have p1 : ¬ (p : Int) < ((SD.length : Nat) : Int) := by omega
          go_wp2_with fail
          refine (awake16_ok _ (HO.out.mods0 HA.out.M)).mono ?_
          rintro e wz ⟨rfl, MZ⟩
          go_wp2
          go_ret
          exact ⟨rfl, HA.out.M.trans MZ⟩
    · have d25 : decide ((SD.length : Int) > 25) = true := decide_eq_true (by omega)
      go_enter Tryz.func4, Tryz.ntmps4
      go_wp2_with fail
      refine HL.out.mono ?_
      rw [HLL.out]
      rintro e w' ⟨rfl, rfl⟩
      go_wp2_with fail
      refine (awake16_ok _ (HO.out)).mono ?_
      rintro e w1 ⟨rfl, M1⟩
      go_wp2
      go_ret
      exact ⟨rfl, M1⟩
  · have HLL := Lib.hid (decide_eq_false hl)
    go_enter Tryz.func4, Tryz.ntmps4
    go_wp2_with fail
    refine HL.out.mono ?_
    rw [HLL.out]
    rintro e w' ⟨rfl, rfl⟩
    go_wp2_with fail
    refine (awake16_ok _ (HO.out)).mono ?_
    rintro e w1 ⟨rfl, M1⟩
    go_wp2
    go_ret
    exact ⟨rfl, M1⟩
end Go.Proofs.YtijjkonephjodaaGreatDoor
