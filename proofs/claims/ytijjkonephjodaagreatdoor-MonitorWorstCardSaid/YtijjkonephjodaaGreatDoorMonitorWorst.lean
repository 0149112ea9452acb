/- MonitorWorst: the walk. -/
import Derived.Test.YtijjkonephjodaaGreatDoorMoLaw
import Derived.Test.YtijjkonephjodaaGreatDoorMoWoP
namespace Go.Proofs.YtijjkonephjodaaGreatDoor
open Go.RowKit
set_option linter.unusedVariables false
set_option linter.unusedSimpArgs false
set_option maxRecDepth 100000
/-- Between the scans of a law: the monitor, its dice, the sensors, an entity. -/
structure WorAt (w0 w3 : World) (g5 be bd : Nat) (v2 : Value) (L2 : List Int) (v : Value) (L : List Int) (u : Value) (B : List SenX) (e : Ent) (mb fb sb : Nat) (vs va : Value) (l : List SenX) (wr : World) : Prop where
  mon : ∃ F st, MonAt wr mb fb sb vs va l [] F st ∧ ∀ j q, (F.getD j default).win.ownBlock = some q → be < q
  d1 : ∃ j, IsDice wr bd v L j
  d2 : ∃ j, IsDice wr be v2 L2 j
  sen : RdSens wr u B
  ent : wr.heap[g5]? = some (.cells e.cells.toArray 31 (0, 0))
  M : Mods [] w0 wr
/-- The entity of a sensor against another one. -/
theorem entS_eq {w : World} {S : Sen} {P : List Pt} (h : IsSen w S P) (e : Ent) (W : World) : (binOp .eql 31 (.agg #[.int .u8 ((S.eid : Nat) : Int), .int .u8 ((S.einst : Nat) : Int)]) (.agg e.cells.toArray)).run Tryz.prog W = .ok (.bool (decide (entS S = e))) W := by
  have h1 := ent_eq' (entS S) e W
  have e1 : ((entS S).id.val : Int) = ((S.eid : Nat) : Int) := f8v h.eid
  have e2 : ((entS S).inst.val : Int) = ((S.einst : Nat) : Int) := f8v h.einst
  rw [e1, e2] at h1
  exact h1
set_option maxHeartbeats 16000000 in
theorem monitorWorst_walk (w : World) (hO : OffAt w) (v : Value) (L : List Int) (hv : Rd w v (i64s L)) (hb : ∀ i, -9223372036854775808 ≤ L.getD i 0 ∧ L.getD i 0 ≤ 9223372036854775807) (v2 : Value) (L2 : List Int) (hv2 : Rd w v2 (i64s L2)) (hb2 : ∀ i, -9223372036854775808 ≤ L2.getD i 0 ∧ L2.getD i 0 ≤ 9223372036854775807) (ea : Ent) :
    Calls Tryz.prog 8 #[v, v2, .agg ea.cells.toArray] w fun e w' => e = .returned (.bool true) ∧ Mods [] w w' := by
  have MA := (Mods.refl (S := []) (w := w)).alloc (.cells ea.cells.toArray 31)
  have HM0 := Lib.hid MA
  have HL := Lib.hid (light_ok _ v L (hv.mods0 MA))
  have HV := Lib.hid (hv.mods0 MA)
  have HV2 := Lib.hid (hv2.mods0 MA)
  have HB := Lib.hid hb
  have HB2 := Lib.hid hb2
  have HO := Lib.hid (hO.mods0 MA)
  have HOW := Lib.hid hO
  have HE0 := Lib.hid (heap_alloc_new w (.cells ea.cells.toArray 31))
  obtain ⟨a2, c2, rfl⟩ := hv2.len
  rw [i64s_length] at HV2 ⊢
  clear hv hb MA hv2 hb2 hO
  by_cases hl : L.length ≤ 600
  · have HLL := Lib.hid (decide_eq_true hl)
    by_cases h100 : L2.length ≤ 100
    · have d100 : decide ((L2.length : Int) > 100) = false := decide_eq_false (by omega)
      go_enter Tryz.func8, Tryz.ntmps8
      go_wp2_with fail
      generalize (w.alloc (.cells ea.cells.toArray 31)) = w0 at HM0 HL HV HV2 HO HE0 ⊢
      have HG5 := Lib.hid (lt_of_block HE0.out)
      generalize hg5 : w.heap.size = g5 at HE0 HG5 ⊢
      have HGW := Lib.hid (show w.heap.size ≤ g5 from Nat.le_of_eq hg5)
      clear hg5
      refine HL.out.mono ?_
      rw [HLL.out]
      rintro e w' ⟨rfl, rfl⟩
      go_wp2_with fail
      refine (roll_ok w0 v L HV.out (by omega) HB.out).mono ?_
      rintro e w1 ⟨rfl, D1, M1, z1⟩
      go_wp2_with fail
      refine (sensors_ok w1 w0.heap.size v L 0 D1 6 (by omega)).mono ?_
      rintro e w2 ⟨u, B, j2, rfl, OB, hB6, hG, hP, D2, M2⟩
      have HM2 := Lib.hid (show Mods [] w0 w2 from M1.comp M2 (fun q hq => by simp at hq; subst hq; exact .inr (Nat.le_refl _)))
      have HD2 := Lib.hid D2
      have HRS := Lib.hid (show RdSens w2 u B from ⟨OB.rd senOk, fun i hi => (hP i hi).is⟩)
      have HUL := Lib.hid (show (∀ k, u.ownBlock = some k → k < w2.heap.size) ∧ (∀ i, i < B.length → ∀ k, (B.getD i default).S.conv.pts.ownBlock = some k → k < w2.heap.size) from ⟨fun k hk => (OB.lt k hk).2, fun i hi k hk => ((hP i hi).pts k hk).2.1⟩)
      have HOU := Lib.hid (show (∀ k, u.ownBlock = some k → w0.heap.size < k) ∧ (∀ i, i < B.length → ∀ k, (B.getD i default).S.conv.pts.ownBlock = some k → w0.heap.size < k) from ⟨fun k hk => Nat.lt_of_lt_of_le z1 (OB.lt k hk).1, fun i hi k hk => Nat.lt_of_lt_of_le z1 ((hP i hi).pts k hk).1⟩)
      have HCK := Lib.hid (chkS_good hG (by omega))
      have HGD := Lib.hid hG
      have HOL1 := Lib.hid (show L ≠ [] → ∀ k, v.ownBlock = some k → k < w0.heap.size from fun hl k hk => HV.out.block_lt (fun e => hl (List.eq_nil_of_length_eq_zero (by rw [← i64s_length, e]; rfl))) k hk)
      have HOL2 := Lib.hid (show L2 ≠ [] → ∀ k, (Value.slice a2 L2.length c2).ownBlock = some k → k < w0.heap.size from fun hl k hk => HV2.out.block_lt (fun e => hl (List.eq_nil_of_length_eq_zero (by rw [← i64s_length, e]; rfl))) k hk)
      have HB6 := Lib.hid hB6
      have hz2 : w0.heap.size < w2.heap.size := Nat.lt_of_lt_of_le z1 M2.size
      have HZ2 := Lib.hid hz2
      clear D1 M1 z1 OB hB6 hG hP D2 M2 hz2
      go_wp2_with fail
      refine (new_ok w2 u B HRS.out _ [] (RdE.nil ascE _) (.inl (by decide))).mono ?_
      rintro e w3 ⟨M3, hp⟩
      rw [HCK.out, if_pos rfl, chkE_nil, if_pos rfl] at hp
      obtain ⟨mb, fb, sb, vs, va, l, rfl, TW, hM, hLo⟩ := hp
      have HMO := Lib.hid hM
      have HTW := Lib.hid TW
      have HLO := Lib.hid hLo
      have HM3 := Lib.hid (HM2.out.trans M3)
      have HM23 := Lib.hid M3
      clear M3 TW hM hLo HCK
      go_wp2_with fail
      refine (roll_ok w3 _ L2 (HV2.out.mods0 HM3.out) (by omega) HB2.out).mono ?_
      rintro e w4 ⟨rfl, D4, M4, z4⟩
      have HWA := Lib.hid (show WorAt w0 w3 g5 w3.heap.size w0.heap.size _ L2 v L u B ea mb fb sb vs va l w4 from
        ⟨⟨_, _, HMO.out.mods0 M4, fun j q hq => by
          exact (zFlt_win _ _ _ hq).elim⟩, ⟨j2, HD2.out.mods0 (HM23.out.trans M4)⟩, ⟨0, D4⟩, HRS.out.mods0 (HM23.out.trans M4), (HM3.out.trans M4).heap HE0.out (by simp), HM3.out.trans M4⟩)
      have HBE := Lib.hid (show w2.heap.size ≤ w3.heap.size from HM23.out.size)
      have HFS := Lib.hid (show fb < w3.heap.size ∧ sb < w3.heap.size from ⟨HMO.out.fbl, HMO.out.sbl⟩)
      have HM34 := Lib.hid (M4)
      clear D4 M4 z4 HD2 HM23
      generalize hbe : w3.heap.size = be at HWA HBE HFS ⊢
      have HBE3 := Lib.hid (show w3.heap.size ≤ be from Nat.le_of_eq hbe)
      clear hbe
      go_wp2_with fail
      go_loopw [12] (fun i wr => ∃ k : Nat, k ≤ 3 ∧ i = .int .i64 (k : Nat) ∧ Hid (WorAt w0 w3 g5 be w0.heap.size (.slice a2 L2.length c2) L2 v L u B ea mb fb sb vs va l wr)) (fun i _ => 3 - (intOf i).toNat)
      case atStart => exact ⟨0, by omega, rfl, HWA⟩
      case round =>
        obtain ⟨k, hk, rfl, HW⟩ := hrel
        clear HWA
        have i0 : (0 : Int) ≤ (k : Int) := by omega
        by_cases hlt : k < 3
        · have i1 : (k : Int) < 3 := by omega
          obtain ⟨F, st, hM, hWN⟩ := HW.out.mon
          obtain ⟨jb, D2⟩ := HW.out.d2
          have HMR := Lib.hid hM
          have HWN := Lib.hid hWN
          have HSM := Lib.hid (samples_ok wr be _ L2 jb D2 u B HW.out.sen ⟨fun q hq => by have h1 := HUL.out.1 q hq; have h2 := HBE.out; omega, fun i hi q hq => by have h1 := HUL.out.2 i hi q hq; have h2 := HBE.out; omega⟩ (by have := HB6.out; omega))
          clear hM hWN D2
          go_wp2_with fail
          refine HSM.out.mono ?_
          rintro e w5 ⟨vx, X, j5, rfl, OX, hXl, D5, M5⟩
          have HM5 := Lib.hid (MonAt.outside HMO.out HMR.out M5 (fun q hq => by simp at hq; subst hq; exact HBE3.out) (fun i hi hWn q hq hm => by simp at hm; subst hm; exact Nat.lt_irrefl _ (HWN.out i _ hq)))
          have HFB := Lib.hid (show fb < wr.heap.size ∧ sb < wr.heap.size from ⟨HMR.out.fbl, HMR.out.sbl⟩)
          have HNE := Lib.hid (show w0.heap.size ≠ fb ∧ w0.heap.size ≠ sb ∧ be ≠ fb ∧ be ≠ sb ∧ g5 ≠ fb ∧ g5 ≠ sb ∧ g5 ≠ be ∧ be ≠ w0.heap.size from by
            have h1 := HLO.out.b; have h2 := HZ2.out; have h3 := HFS.out; have h4 := HG5.out; have h5 := HBE.out; omega)
          obtain ⟨xa, xc, rfl⟩ := (OX.rd smpOk).len
          have HSC := Lib.hid (scan_ok HM5.out (HO.out.mods0 (HW.out.M.comp M5 (fun q hq => by simp at hq; subst hq; exact .inr (by have h2 := HZ2.out; have h3 := HBE.out; omega)))) _ (OX.rd smpOk) (fun q hq => by have h1 := (OX.lt q hq).1; have h2 := HFB.out; exact ⟨by omega, by omega⟩) (.slice none 0 0) (ab := []) (RdE.nil entE _) (fun q hq => by cases hq) (host := true))
          have HWM := Lib.hid M5
          have HD5 := Lib.hid D5
          have HZ5 := Lib.hid (show be < w5.heap.size from D5.lt)
          clear D5 M5 OX hXl HSM
          go_wp2_with fail
          refine HSC.out.mono ?_
          rintro e w6 hp
          obtain ⟨vo, c, F', st', rfl, hM6, M6, hw6⟩ := hp.any HM5.out
          have HW6 := Lib.hid (show WorAt w0 w3 g5 be w0.heap.size (.slice a2 L2.length c2) L2 v L u B ea mb fb sb vs va l w6 from by
            obtain ⟨jd, D1⟩ := HW.out.d1
            have hne := HNE.out
            refine ⟨⟨F', st', hM6, fun j q hq => ?_⟩, ⟨jd, ?_⟩, ⟨j5, ?_⟩, ⟨?_, ?_⟩, ?_, ?_⟩
            · rcases hw6 j q hq with h1 | h1
              · exact Nat.lt_of_lt_of_le HZ5.out h1
              · exact HWN.out j q h1
            · exact (D1.mods HWM.out (by simp; omega) (fun hl q hq => by have h1 := HZ2.out; have h3 := HBE.out; have h2 : q < w0.heap.size := HOL1.out hl q hq; simp; omega)).mods M6 (by simp; omega) (fun hl q hq => by have h2 : q < w0.heap.size := HOL1.out hl q hq; have h3 := HLO.out.b; have h4 := HZ2.out; simp; omega)
            · exact HD5.out.mods M6 (by simp; omega) (fun hl q hq => by have h2 : q < w0.heap.size := HOL2.out hl q hq; have h3 := HLO.out.b; have h4 := HZ2.out; simp; omega)
            · exact (HW.out.sen.rd.mods senOk HWM.out (fun _ q hq => by have h1 := HUL.out.1 q hq; have h2 := HBE.out; simp; omega)).mods senOk M6 (fun _ q hq => by have h1 := HUL.out.1 q hq; have h3 := HLO.out.b; simp; omega)
            · exact fun i hi => ((HW.out.sen.is i hi).mods HWM.out (fun _ q hq => by have h1 := HUL.out.2 i hi q hq; have h2 := HBE.out; simp; omega)).mods M6 (fun _ q hq => by have h1 := HUL.out.2 i hi q hq; have h3 := HLO.out.b; simp; omega)
            · exact M6.heap (HWM.out.heap HW.out.ent (by simp; omega)) (by simp; omega)
            · exact (HW.out.M.comp HWM.out (fun q hq => by simp at hq; subst hq; exact .inr (by have h2 := HZ2.out; have h3 := HBE.out; omega))).comp M6 (fun q hq => .inr (by have h3 := HLO.out.b; have h4 := HZ2.out; simp at hq; omega)))
          clear hM6 M6 hw6 hp HSC HM5 HWM HD5 HMR HWN
          go_wp2_with fail
          go_roundw
          case rel => exact ⟨k + 1, by omega, by go_num, HW6⟩
          case measure => simp [intOf]; omega
        · have i1 : ¬ (k : Int) < 3 := by omega
          obtain ⟨jd, D1⟩ := HW.out.d1
          go_wp2_with fail
          refine (bool_ok wr w0.heap.size v L jd D1 2 (by omega) (by omega)).mono ?_
          rintro e w5 ⟨q, j5, rfl, D5, M5⟩
          obtain ⟨F, st, hM, hWN⟩ := HW.out.mon
          have HNE := Lib.hid (show w0.heap.size ≠ g5 from by have := HG5.out; omega)
          have HKEEP := Lib.hid (fun W1 W2 (M : Mods [w0.heap.size] W1 W2) (h : MonAt W1 mb fb sb vs va l [] F st) => show MonAt W2 mb fb sb vs va l [] F st from h.mods M (by have h1 := HLO.out.b; have h2 := HZ2.out; simp; omega) (by have h1 := HLO.out.b; have h2 := HZ2.out; simp; omega) (by have h1 := HLO.out.b; have h2 := HZ2.out; simp; omega) (fun q hq => by have h1 := HLO.out.s q hq; have h2 := HZ2.out; simp; omega) (fun q hq => by have h1 := HLO.out.a q hq; have h2 := HZ2.out; simp; omega) (fun i hi q hq => by have h1 := HLO.out.p i hi q hq; have h2 := HZ2.out; simp; omega) (fun i hi q hq => by have h1 := hWN i q hq; have h2 := HZ2.out; have h3 := HBE.out; simp; omega))
          have HKS := Lib.hid (fun W1 W2 (M : Mods [w0.heap.size] W1 W2) (h : RdSens W1 u B) => show RdSens W2 u B from ⟨h.rd.mods senOk M (fun _ q hq => by have h1 := (HOU.out.1 q hq); simp; omega), fun i hi => (h.is i hi).mods M (fun _ q hq => by have h1 := HOU.out.2 i hi q hq; simp; omega)⟩)
          have HM5 := Lib.hid (HKEEP.out _ _ M5 hM)
          have HS5 := Lib.hid (HKS.out _ _ M5 HW.out.sen)
          have HE5 := Lib.hid (M5.heap HW.out.ent (by simp; exact fun h => HNE.out h.symm))
          have HMW5 := Lib.hid (HW.out.M.comp M5 (fun q hq => by simp at hq; subst hq; exact .inr (Nat.le_refl _)))
          have HD5 := Lib.hid D5
          have HWN2 := Lib.hid hWN
          clear hM hWN D1 D5 M5 HW
          go_upto_if 59 with (fail)
          go_cut [5] (fun x wx => x = .pointer (some ⟨g5, 0, none⟩) ∧ ∃ e' : Ent, MonAt wx mb fb sb vs va l [] F st ∧ RdSens wx u B ∧ wx.heap[g5]? = some (.cells e'.cells.toArray 31 (0, 0)) ∧ Mods [] w wx)
          case first => as_aux_lemma =>
            cases q with
            | false =>
              go_wp2_with fail
              go_meet
              exact ⟨rfl, ea, HM5.out, HS5.out, HE5.out, HM0.out.trans HMW5.out⟩
            | true =>
              go_wp2_with fail
              refine (entity_ok w5 w0.heap.size v L j5 HD5.out).mono ?_
              rintro e w6 ⟨x0, y0, j6, rfl, hx, hy, D6, M6⟩
              have HE6 := Lib.hid (M6.heap HE5.out (by simp; exact fun h => HNE.out h.symm))
              have HM6 := Lib.hid (HKEEP.out _ _ M6 HM5.out)
              have HS6 := Lib.hid (HKS.out _ _ M6 HS5.out)
              have HMW6 := Lib.hid (HMW5.out.comp M6 (fun q hq => by simp at hq; subst hq; exact .inr (Nat.le_refl _)))
              have HXY := Lib.hid (And.intro hx hy)
              clear D6 M6 hx hy
              go_wp2_with (refine wpList_store_row (cs := #[.int .u8 (x0 : Int), .int .u8 (y0 : Int)]) rfl 31 (.tmp 5) (.tmp 61) rfl HE6.out (by rfl) (by rfl) (by rfl) Tryz.sizeEnt (by simp [Value.oneCell']) ?_; go_loud (intro w7 R7 M7; have HR7 := Lib.hid R7; have HM7 := Lib.hid M7; clear R7 M7))
              go_meet
              refine ⟨rfl, ⟨⟨x0, HXY.out.1⟩, ⟨y0, HXY.out.2⟩⟩, ?_, ?_, HR7.out, ?_⟩
              · exact HM6.out.mods HM7.out (by have h1 := HLO.out.b; have h2 := HZ2.out; have h3 := HG5.out; simp; omega) (by have h1 := HLO.out.b; have h2 := HZ2.out; have h3 := HG5.out; simp; omega) (by have h1 := HLO.out.b; have h2 := HZ2.out; have h3 := HG5.out; simp; omega) (fun q hq => by have h1 := HLO.out.s q hq; have h2 := HZ2.out; have h3 := HG5.out; simp; omega) (fun q hq => by have h1 := HLO.out.a q hq; have h2 := HZ2.out; have h3 := HG5.out; simp; omega) (fun i hi q hq => by have h1 := HLO.out.p i hi q hq; have h2 := HZ2.out; have h3 := HG5.out; simp; omega) (fun i hi q hq => by have h1 := HWN2.out i q hq; have h2 := HZ2.out; have h3 := HG5.out; have h4 := HBE.out; simp; omega)
              · exact ⟨HS6.out.rd.mods senOk HM7.out (fun _ q hq => by have h1 := (HOU.out.1 q hq); have h3 := HG5.out; simp; omega), fun i hi => (HS6.out.is i hi).mods HM7.out (fun _ q hq => by have h1 := HOU.out.2 i hi q hq; have h3 := HG5.out; simp; omega)⟩
              · exact (HM0.out.trans HMW6.out).comp HM7.out (fun q hq => by simp at hq; subst hq; exact .inr HGW.out)
          case rest => as_aux_lemma =>
            obtain ⟨rfl, e, hM, hS, hE, hMW⟩ := hcut
            have HM := Lib.hid hM
            have HS := Lib.hid hS
            have HE := Lib.hid hE
            have HMW := Lib.hid hMW
            clear hM hS hE hMW HM5 HS5 HE5 HMW5 HD5 HKEEP HKS
            have HLEN := Lib.hid (show l.length = B.length from HTW.out.1)
            obtain ⟨ua, uc, rfl⟩ := HRS.out.rd.len
            go_wp2_with fail
            go_loopw [13, 14] (fun wo i wr => ∃ k : Nat, k ≤ B.length ∧ i = .int .i64 (k : Nat) ∧ wo = .int .i64 (worstK l F st e k) ∧ Hid (Mods [] wc wr)) (fun _ i _ => B.length - (intOf i).toNat)
            case atStart => exact ⟨0, Nat.zero_le _, rfl, rfl, Lib.hid Mods.refl⟩
            case round =>
              obtain ⟨k, hk, rfl, rfl, HMR⟩ := hrel
              have i0 : (0 : Int) ≤ (k : Int) := by omega
              by_cases hlt : k < B.length
              · have i1 : (k : Int) < (B.length : Int) := by omega
                have HMK := Lib.hid (HM.out.mods0 HMR.out)
                obtain ⟨bb, off, cap', hv3, hb1, hb2⟩ := (HS.out.mods0 HMR.out).at (by omega)
                injection hv3 with hv4 _ hv5
                subst hv4 hv5
                have HRG := Lib.hid (fun W (M : Mods [] wc W) => show W.rangeAt bb (off + k * 28) (B.getD k default).S.cells.toList from (HS.out.mods0 M).range hlt)
                have HIS := Lib.hid (HS.out.is k hlt)
                have HER := Lib.hid (fun W (M : Mods [] wc W) => M.heap HE.out (by simp))
                have hkl : k < l.length := by rw [HLEN.out]; exact hlt
                obtain ⟨_, vw, hvw⟩ := HTW.out.2 k hlt
                have HSV := Lib.hid (show stateV l st (B.getD k default).S.number = (st.getD k 0, true) from by have h := state_self (st := st) HM.out.good hkl; rw [hvw] at h; exact h)
                have HDI := Lib.hid (fun (h : (readM l F (B.getD k default).S.number).2 = true) => show (B.getD k default).S.disc = false from by have h2 := read_disc (F := F) HM.out.good hkl (by rw [hvw]; exact h); rw [hvw] at h2; exact h2)
                have HWK := Lib.hid (show worstK l F st e (k + 1) = if ((readM l F (B.getD k default).S.number).2 && decide (entS (B.getD k default).S = e)) = true then max (worstK l F st e k) (sevI (st.getD k 0 % 256)) else worstK l F st e k from by rw [worstK_succ, hvw]; rfl)
                have HSTA := Lib.hid (fun W (M : Mods [] wc W) => state_ok (HM.out.mods0 M) (B.getD k default).S.number)
                have HREA := Lib.hid (fun W (M : Mods [] wc W) => reading_ok (HM.out.mods0 M) (B.getD k default).S.number)
                have HWR := Lib.hid (worstK_rng (l := l) (F := F) (st := st) (e := e) k)
                have HSL := Lib.hid (HM.out.slt hkl)
                rw [HSV.out] at HSTA
                have HEQ := Lib.hid (entS_eq HIS.out e)
                generalize readM l F (B.getD k default).S.number = rv at HDI HWK HREA
                generalize (B.getD k default).P = P at HIS
                generalize (B.getD k default).S = S at HRG HIS HDI HWK HREA HSTA HEQ
                generalize worstK l F st e k = wk at HWK HWR ⊢
                generalize st.getD k 0 = s0 at HSTA HWK HSL
                clear hvw HSV HMK hkl
                obtain ⟨rd, okr⟩ := rv
                simp only at HDI HWK HREA
                have cn := range_num (HRG.out _ HMR.out)
                go_wp2_with fail
                clear cn
                refine (HSTA.out _ HMR.out).mono ?_
                rintro en w7 ⟨rfl, M7⟩
                have HM7 := Lib.hid (HMR.out.trans M7)
                have cn := range_num (HRG.out _ HM7.out)
                clear M7
                go_wp2_with fail
                clear cn
                refine (HREA.out _ HM7.out).mono ?_
                rintro en w8 ⟨rfl, hrb, M8⟩
                have HM8 := Lib.hid (HM7.out.trans M8)
                have HRG8 := Lib.hid (HRG.out _ HM8.out)
                have HE8 := Lib.hid (HER.out _ HM8.out)
                clear M8 hrb HM7 HMR
                simp only
                cases okr with
                | false =>
                  have HWQ := Lib.hid (show worstK l F st e (k + 1) = wk from by rw [HWK.out]; simp)
                  go_upto_region 23 with (fail)
                  (try dsimp only [Act.put])
                  refine heldStart (S := fun W => Mods [] w8 W) 10 rfl (by kernel_rfl) Mods.refl.drew (fun hHeld => ?_)
                  refine takeD (i := 0) (d := 100) (v := ?_) rfl rfl (by kernel_rfl) (by kernel_rfl) (by kernel_rfl) (fun _ _ _ h => h) (Or.inl ⟨by rfl, ?_⟩) hHeld ?_
                  rotate_left 1
                  · (intro w hSw; (try dsimp only at hSw); go_simp; (try with_reducible rfl))
                  simp only [List.setIfInBounds_toArray, List.set_cons_zero, List.set_cons_succ]
                  refine takeD (i := 1) (d := 101) (v := ?_) rfl rfl (by kernel_rfl) (by kernel_rfl) (by kernel_rfl) (fun _ _ _ h => h) (Or.inl ⟨by rfl, ?_⟩) hHeld ?_
                  rotate_left 1
                  · (intro w hSw; (try dsimp only at hSw); go_simp; (try with_reducible rfl))
                  simp only [List.setIfInBounds_toArray, List.set_cons_zero, List.set_cons_succ]
                  refine takeD (i := 2) (d := 102) (v := undef) rfl rfl (by kernel_rfl) (by kernel_rfl) (by kernel_rfl) (fun _ _ _ h => h) (Or.inr ⟨by rfl, rfl⟩) hHeld ?_
                  simp only [List.setIfInBounds_toArray, List.set_cons_zero, List.set_cons_succ]
                  refine takeD (i := 3) (d := 103) (v := undef) rfl rfl (by kernel_rfl) (by kernel_rfl) (by kernel_rfl) (fun _ _ _ h => h) (Or.inr ⟨by rfl, rfl⟩) hHeld ?_
                  simp only [List.setIfInBounds_toArray, List.set_cons_zero, List.set_cons_succ]
                  refine takeD (i := 4) (d := 104) (v := undef) rfl rfl (by kernel_rfl) (by kernel_rfl) (by kernel_rfl) (fun _ _ _ h => h) (Or.inr ⟨by rfl, rfl⟩) hHeld ?_
                  simp only [List.setIfInBounds_toArray, List.set_cons_zero, List.set_cons_succ]
                  refine takeD (i := 5) (d := 105) (v := undef) rfl rfl (by kernel_rfl) (by kernel_rfl) (by kernel_rfl) (fun _ _ _ h => h) (Or.inr ⟨by rfl, rfl⟩) hHeld ?_
                  simp only [List.setIfInBounds_toArray, List.set_cons_zero, List.set_cons_succ]
                  refine takeD (i := 6) (d := 106) (v := undef) rfl rfl (by kernel_rfl) (by kernel_rfl) (by kernel_rfl) (fun _ _ _ h => h) (Or.inr ⟨by rfl, rfl⟩) hHeld ?_
                  simp only [List.setIfInBounds_toArray, List.set_cons_zero, List.set_cons_succ]
                  refine takeD (i := 7) (d := 107) (v := undef) rfl rfl (by kernel_rfl) (by kernel_rfl) (by kernel_rfl) (fun _ _ _ h => h) (Or.inr ⟨by rfl, rfl⟩) hHeld ?_
                  simp only [List.setIfInBounds_toArray, List.set_cons_zero, List.set_cons_succ]
                  refine takeD (i := 8) (d := 108) (v := undef) rfl rfl (by kernel_rfl) (by kernel_rfl) (by kernel_rfl) (fun _ _ _ h => h) (Or.inr ⟨by rfl, rfl⟩) hHeld ?_
                  simp only [List.setIfInBounds_toArray, List.set_cons_zero, List.set_cons_succ]
                  refine takeD (i := 9) (d := 109) (v := ?_) rfl rfl (by kernel_rfl) (by kernel_rfl) (by kernel_rfl) (fun _ _ _ h => h) (Or.inl ⟨by rfl, ?_⟩) hHeld ?_
                  rotate_left 1
                  · (intro w hSw; (try dsimp only at hSw); go_simp; (try with_reducible rfl))
                  simp only [List.setIfInBounds_toArray, List.set_cons_zero, List.set_cons_succ]
                  refine wpAnyH_done (by kernel_rfl) ?_ _
                  go_wp2_with fail
                  go_roundw
                  case rel => exact ⟨k + 1, by omega, by go_num, by rw [HWQ.out], Lib.hid (HM8.out.trans hHeld)⟩
                  case measure => simp [intOf]; omega
                | true =>
                  have cd := HRG8.out 6 (.bool false) (by rw [← HDI.out rfl]; rfl)
                  go_upto_region 23 with (fail)
                  clear cd
                  have HRGE := Lib.hid (show w8.rangeAt bb (off + k * 28 + 4) [.int .u8 ((S.eid : Nat) : Int), .int .u8 ((S.einst : Nat) : Int)] from fun j x hx => by
                    match j, hx with
                    | 0, hx => exact HRG8.out 4 x hx
                    | 1, hx => have h := HRG8.out 5 x hx; rwa [show off + k * 28 + 4 + 1 = off + k * 28 + 5 by omega])
                  generalize decide (entS S = e) = bq at HEQ HWK
                  (try dsimp only [Act.put])
                  refine heldStart (S := fun W => Mods [] w8 W) 10 rfl (by kernel_rfl) Mods.refl.drew (fun hHeld => ?_)
                  refine takeD (i := 0) (d := 100) (v := ?_) rfl rfl (by kernel_rfl) (by kernel_rfl) (by kernel_rfl) (fun _ _ _ h => h) (Or.inl ⟨by rfl, ?_⟩) hHeld ?_
                  rotate_left 1
                  · (intro w hSw; (try dsimp only at hSw); go_simp; (try with_reducible rfl))
                  simp only [List.setIfInBounds_toArray, List.set_cons_zero, List.set_cons_succ]
                  refine takeD (i := 1) (d := 101) (v := ?_) rfl rfl (by kernel_rfl) (by kernel_rfl) (by kernel_rfl) (fun _ _ _ h => h) (Or.inl ⟨by rfl, ?_⟩) hHeld ?_
                  rotate_left 1
                  · (intro w hSw; (try dsimp only at hSw); go_simp; (try with_reducible rfl))
                  simp only [List.setIfInBounds_toArray, List.set_cons_zero, List.set_cons_succ]
                  refine takeD (i := 2) (d := 102) (v := ?_) rfl rfl (by kernel_rfl) (by kernel_rfl) (by kernel_rfl) (fun _ _ _ h => h) (Or.inl ⟨by rfl, ?_⟩) hHeld ?_
                  rotate_left 1
                  · (intro w hSw; (try dsimp only at hSw); go_simp; (try with_reducible rfl))
                  simp only [List.setIfInBounds_toArray, List.set_cons_zero, List.set_cons_succ]
                  refine takeD (i := 3) (d := 103) (v := ?_) rfl rfl (by kernel_rfl) (by kernel_rfl) (by kernel_rfl) (fun _ _ _ h => h) (Or.inl ⟨by rfl, ?_⟩) hHeld ?_
                  rotate_left 1
                  · (intro w hSw; (try dsimp only at hSw); go_simp; (try with_reducible rfl))
                  simp only [List.setIfInBounds_toArray, List.set_cons_zero, List.set_cons_succ]
                  refine takeD (i := 4) (d := 104) (v := ?_) rfl rfl (by kernel_rfl) (by kernel_rfl) (by kernel_rfl) (fun _ _ _ h => h) (Or.inl ⟨by rfl, ?_⟩) hHeld ?_
                  rotate_left 1
                  · (intro w hSw; (try dsimp only at hSw); go_simp; (try with_reducible rfl))
                  simp only [List.setIfInBounds_toArray, List.set_cons_zero, List.set_cons_succ]
                  refine takeD (i := 5) (d := 105) (v := ?_) rfl rfl (by kernel_rfl) (by kernel_rfl) (by kernel_rfl) (fun _ _ _ h => h) (Or.inl ⟨by rfl, ?_⟩) hHeld ?_
                  rotate_left 1
                  · (intro w hSw; (try dsimp only at hSw); go_simp; (try with_reducible rfl))
                  simp only [List.setIfInBounds_toArray, List.set_cons_zero, List.set_cons_succ]
                  refine takeD (i := 6) (d := 106) (v := .agg #[.int .u8 ((S.eid : Nat) : Int), .int .u8 ((S.einst : Nat) : Int)]) rfl rfl (by kernel_rfl) (by kernel_rfl) (by kernel_rfl) (fun _ _ _ h => h) (yieldsIf_load_mid (by rfl) 31 (.tmp 105) rfl bb (off + k * 28 + 4) rfl [.int .u8 ((S.eid : Nat) : Int), .int .u8 ((S.einst : Nat) : Int)] _ (fun W h j u hu => h.cell (HRGE.out j u hu) (by simp)) Tryz.underlying31 rfl Tryz.sizeEnt) hHeld ?_
                  simp only [List.setIfInBounds_toArray, List.set_cons_zero, List.set_cons_succ]
                  refine takeD (i := 7) (d := 107) (v := .agg e.cells.toArray) rfl rfl (by kernel_rfl) (by kernel_rfl) (by kernel_rfl) (fun _ _ _ h => h) (yieldsIf_load_mid (by rfl) 31 (.tmp 5) rfl g5 0 rfl e.cells _ (fun W h k u hu => by
                    rw [cell_blk (h.heap HE8.out (by simp)), Nat.zero_add]
                    simpa using hu) Tryz.underlying31 rfl Tryz.sizeEnt) hHeld ?_
                  simp only [List.setIfInBounds_toArray, List.set_cons_zero, List.set_cons_succ]
                  refine takeD (i := 8) (d := 108) (v := .bool bq) rfl rfl (by kernel_rfl) (by kernel_rfl) (by kernel_rfl) (fun _ _ _ h => h) (Or.inl ⟨by rfl, fun W hSw => ?_⟩) hHeld ?_
                  · (try dsimp only at hSw)
                    have hq := HEQ.out
                    go_simp
                    skip
                  simp only [List.setIfInBounds_toArray, List.set_cons_zero, List.set_cons_succ]
                  refine takeD (i := 9) (d := 109) (v := ?_) rfl rfl (by kernel_rfl) (by kernel_rfl) (by kernel_rfl) (fun _ _ _ h => h) (Or.inl ⟨by rfl, ?_⟩) hHeld ?_
                  rotate_left 1
                  · (intro w hSw; (try dsimp only at hSw); go_simp; (try with_reducible rfl))
                  simp only [List.setIfInBounds_toArray, List.set_cons_zero, List.set_cons_succ]
                  refine wpAnyH_done (by kernel_rfl) ?_ _
                  cases bq with
                  | false =>
                    have HWQ := Lib.hid (show worstK l F st e (k + 1) = wk from by rw [HWK.out]; simp)
                    go_wp2_with fail
                    go_roundw
                    case rel => exact ⟨k + 1, by omega, by go_num, by rw [HWQ.out], Lib.hid (HM8.out.trans hHeld)⟩
                    case measure => simp [intOf]; omega
                  | true =>
                    have HWQ := Lib.hid (show worstK l F st e (k + 1) = max wk (sevI (s0 % 256)) from by rw [HWK.out]; rfl)
                    have hw8 : IntKind.u8.wrap ((s0 : Nat) : Int) = ((s0 % 256 : Nat) : Int) := by rw [IntKind.wrap_u8]; omega
                    have HSEV := Lib.hid (fun W => severity_ok (s0 % 256) (Nat.mod_lt _ (by decide)) W)
                    generalize s0 % 256 = s1 at hw8 HSEV HWQ
                    generalize sevI s1 = sv at HSEV HWQ
                    go_wp2_with fail
                    refine (HSEV.out _).mono ?_
                    rintro en w9 ⟨rfl, M9⟩
                    have HM9 := Lib.hid ((HM8.out.trans hHeld).trans M9)
                    clear M9
                    go_wp2_with fail
                    go_roundw
                    case rel => exact ⟨k + 1, by omega, by go_num, by rw [HWQ.out], Lib.hid HM9.out⟩
                    case measure => simp [intOf]; omega
              · have i1 : ¬ (k : Int) < (B.length : Int) := by omega
                have hkl : k = B.length := by omega
                subst hkl
                have HHE := Lib.hid (fun W (M : Mods [] wc W) => healthM_ok (HM.out.mods0 M) (.slice none 0 0) [] (RdE.nil entE _) e)
                have HHN := Lib.hid (fun W (M : Mods [] wc W) (vq : Value) (hq : RdE entE W vq [e]) => healthM_ok (HM.out.mods0 M) vq [e] hq e)
                have HHW := Lib.hid (health_worst l F st e l.length)
                have HH0 := Lib.hid (health_none l F st e l.length)
                have HER := Lib.hid (fun W (M : Mods [] wc W) => M.heap HE.out (by simp))
                have HER0 := Lib.hid (HER.out _ HMR.out)
                rw [HLEN.out] at HHW HH0 HHE HHN
                unfold HealthE at HHE HHN
                rw [HHW.out] at HHE
                rw [HH0.out] at HHN
                generalize worstK l F st e B.length = wk at HHE ⊢
                go_wp2_with (refine wpList_load_row rfl 31 (.tmp 5) rfl g5 (by rfl) _ _ _ _ HER0.out Tryz.underlying31 rfl Tryz.sizeEnt ?_)
                refine (HHE.out _ HMR.out).mono ?_
                rintro en w7 ⟨rfl, M7⟩
                have HM7 := Lib.hid (HMR.out.trans M7)
                have HER7 := Lib.hid (HER.out _ HM7.out)
                have HER8 := Lib.hid (fun CS => HER.out _ (HM7.out.alloc (.cells CS 31)))
                clear M7
                go_wp2_with (first
                  | (refine wpList_oneE entOk (by decide) (by rfl) (.tmp 123) rfl 124 rfl e e.cells.toArray (by rfl) (by rfl) ?_; go_loud (intro CS hCS; have HMA := Lib.hid (HM7.out.alloc (.cells CS 31)); have HRE := Lib.hid (RdE.one (E := entE) (a := e) (heap_alloc_new w7 (.cells CS 31)) hCS); have HER9 := Lib.hid (HER8.out CS); clear hCS))
                  | (refine wpList_load_row rfl 31 (.tmp 5) rfl g5 (by rfl) _ _ _ _ HER7.out Tryz.underlying31 rfl Tryz.sizeEnt ?_)
                  | (refine wpList_load_row rfl 31 (.tmp 5) rfl g5 (by rfl) _ _ _ _ HER9.out Tryz.underlying31 rfl Tryz.sizeEnt ?_))
                refine (HHN.out _ HMA.out _ HRE.out).mono ?_
                rintro en w9 ⟨rfl, M9⟩
                have HM9 := Lib.hid (HMW.out.trans (HMA.out.trans M9))
                clear M9
                go_wp2_with fail
                refine (awake16_ok _ (HOW.out.mods0 HM9.out)).mono ?_
                rintro en wz ⟨rfl, MZ⟩
                go_wp2_with fail
                go_ret
                exact ⟨rfl, HM9.out.trans MZ⟩
    · have d100 : decide ((L2.length : Int) > 100) = true := decide_eq_true (by omega)
      go_enter Tryz.func8, Tryz.ntmps8
      go_wp2_with fail
      refine HL.out.mono ?_
      rw [HLL.out]
      rintro e w' ⟨rfl, rfl⟩
      go_wp2_with fail
      refine (awake16_ok _ (HO.out)).mono ?_
      rintro e w1 ⟨rfl, M1⟩
      go_wp2
      go_ret
      exact ⟨rfl, HM0.out.trans M1⟩
  · have HLL := Lib.hid (decide_eq_false hl)
    go_enter Tryz.func8, Tryz.ntmps8
    go_wp2_with fail
    refine HL.out.mono ?_
    rw [HLL.out]
    rintro e w' ⟨rfl, rfl⟩
    go_wp2_with fail
    refine (awake16_ok _ (HO.out)).mono ?_
    rintro e w1 ⟨rfl, M1⟩
    go_wp2
    go_ret
    exact ⟨rfl, HM0.out.trans M1⟩
end Go.Proofs.YtijjkonephjodaaGreatDoor
