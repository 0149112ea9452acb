/- Samples in memory; what is wrong with samples. -/
import Derived.Test.YtijjkonephjodaaGreatDoorMoRst
namespace Go.Proofs.YtijjkonephjodaaGreatDoor
open Go.RowKit
set_option linter.unusedVariables false
set_option linter.unusedSimpArgs false
structure Smp where
  num : Fin 256
  ok : Bool
  raw : Fin 256
  sts : Fin 65536
def zSmp : Smp := ⟨f8 0, false, f8 0, f16 0⟩
instance : Inhabited Smp := ⟨zSmp⟩
def Smp.cells (x : Smp) : List Value := [.int .u8 ((x.num.val : Nat) : Int), .bool x.ok, .int .u8 ((x.raw.val : Nat) : Int), .int .u16 ((x.sts.val : Nat) : Int)]
def smpE : Elt Smp := ⟨103, 48, 4, Smp.cells, default⟩
theorem Tryz.infoSm : (Tryz.prog.info? 103).map (fun i => (i.zero, i.size, i.bytes)) = some (some (.agg #[.int .u8 0, .bool false, .int .u8 0, .int .u16 0]), 4, 6) := by kernel_rfl
theorem Tryz.sizeSm : (Tryz.prog.info? 103).map (·.size) = some 4 := by kernel_rfl
theorem smpOk : smpE.Ok Tryz.prog := by
  refine ⟨fun _ => rfl, fun a v hv => ?_, by decide, Tryz.underlying48, ?_⟩
  · simp [smpE, Smp.cells] at hv
    rcases hv with rfl | rfl | rfl | rfl <;> rfl
  · obtain ⟨i0, hi, hz0, hz1, hz2⟩ := info_parts Tryz.infoSm
    exact ⟨i0, _, hi, hz0, hz1, by rw [hz2]; decide, rfl⟩
theorem Smp.one (x : Smp) : x.cells.toArray.all (·.oneCell') = true := by simp [Smp.cells, Value.oneCell']
def numX (X : List Smp) (i : Nat) : Nat := (X.getD i default).num.val
/-- A sample whose form is wrong. -/
def bad0 (X : List Smp) (i : Nat) : Bool := (decide (0 < i) && decide (numX X i ≤ numX X (i - 1))) || (!(X.getD i default).ok && (decide ((X.getD i default).raw.val ≠ 0) || decide ((X.getD i default).sts.val ≠ 0)))
def bad1 (S : Sen) (x : Smp) : Bool := (!S.disc && decide (x.sts.val ≠ 0)) || (S.disc && decide (x.raw.val ≠ 0))
/-- What is wrong with the sample at a place. -/
def chkAt (l : List SenX) (X : List Smp) (i : Nat) : Int :=
  if bad0 X i then 1 else if numIdx l (numX X i) < l.length then (if bad1 (l.getD (numIdx l (numX X i)) default).S (X.getD i default) then 1 else if (X.getD i default).sts.val &&& (65535 - (l.getD (numIdx l (numX X i)) default).S.states) = 0 then 0 else 2) else 8
/-- What is wrong with samples. -/
def chkM (l : List SenX) (X : List Smp) : Int := (((List.range X.length).map (chkAt l X)).find? fun c => c != 0).getD 0
theorem chkM_zero {l : List SenX} {X : List Smp} (h : ∀ i, i < X.length → chkAt l X i = 0) : chkM l X = 0 := by
  unfold chkM
  rw [List.find?_eq_none.2]
  · rfl
  · intro c hc
    obtain ⟨i, hi, rfl⟩ := List.mem_map.1 hc
    rw [h i (List.mem_range.1 hi)]
    simp
theorem find_first {f : Nat → Int} : ∀ (n k : Nat), k < n → (∀ j, j < k → f j = 0) → f k ≠ 0 → (((List.range n).map f).find? fun c => c != 0).getD 0 = f k
  | 0, _, h, _, _ => by omega
  | n + 1, k, h, h0, hk => by
    rw [List.range_succ, List.map_append, List.find?_append]
    rcases Nat.lt_or_ge k n with h1 | h1
    · have := find_first n k h1 h0 hk
      cases hf : ((List.range n).map f).find? fun c => c != 0 with
      | none =>
        rw [List.find?_eq_none] at hf
        have := hf (f k) (List.mem_map.2 ⟨k, List.mem_range.2 h1, rfl⟩)
        simp at this
        exact absurd this hk
      | some c => rw [hf] at this; simpa using this
    · have hkn : k = n := by omega
      subst hkn
      rw [List.find?_eq_none.2]
      · simp [hk]
      · intro c hc
        obtain ⟨i, hi, rfl⟩ := List.mem_map.1 hc
        rw [h0 i (List.mem_range.1 hi)]
        simp
theorem chkM_first {l : List SenX} {X : List Smp} {k : Nat} (hk : k < X.length) (h0 : ∀ j, j < k → chkAt l X j = 0) (h : chkAt l X k ≠ 0) : chkM l X = chkAt l X k := find_first X.length k hk h0 h
set_option maxRecDepth 100000
section
variable {w : World} {mb fb sb : Nat} {vs va : Value} {l : List SenX} {A : List Asc} {F : List FltX} {st : List Nat}
set_option maxHeartbeats 8000000 in
theorem chkM_ok (h : MonAt w mb fb sb vs va l A F st) (v : Value) (X : List Smp) (hv : RdE smpE w v X) :
    Calls Tryz.prog 48 #[.pointer (some ⟨mb, 0, none⟩), v] w fun e w' => e = .returned (.int .i64 (chkM l X)) ∧ Mods [] w w' := by
  have H := Lib.hid h
  have HX := Lib.hid hv
  obtain ⟨ad, cap, rfl⟩ := hv.len
  have hcap : X.length ≤ 9223372036854775807 := by obtain ⟨_, _, _, h1, h2, _⟩ := hv; exact Nat.le_trans h1 h2
  clear hv h
  go_enter Tryz.func48, Tryz.ntmps48
  go_wp2_with fail
  go_loopw [11] (fun i wr => ∃ k : Nat, k ≤ X.length ∧ i = .int .i64 (k : Nat) ∧ Mods [] w wr ∧ Hid (∀ j, j < k → chkAt l X j = 0)) (fun i _ => X.length - (intOf i).toNat)
  case atStart => exact ⟨0, Nat.zero_le _, rfl, Mods.refl, Lib.hid (fun j hj => by omega)⟩
  case round =>
    obtain ⟨k, hk, rfl, hM, hG⟩ := hrel
    have i0 : (0 : Int) ≤ (k : Int) := by omega
    have HM := Lib.hid hM
    clear hM
    by_cases hlt : k < X.length
    · have i1 : (k : Int) < (X.length : Int) := by omega
      have HK := Lib.hid (HX.out.mods0 smpOk HM.out)
      obtain ⟨bb, off, cap', hv2, hc1, hc2, _⟩ := HK.out.at (by omega)
      injection hv2 with hv3 hv5 hv4
      subst hv3 hv4
      clear hv5
      have HRG := Lib.hid (HK.out.range hlt smpOk.len)
      have HPV := Lib.hid (fun (W : World) (M : Mods [] wr W) (h0 : 0 < k) => show W.cell? ⟨bb, off + (k - 1) * 4, none⟩ = some (.int .u8 (numX X (k - 1) : Nat)) from by
        have := (HK.out.mods0 smpOk M).range (show k - 1 < X.length by omega) smpOk.len 0 _ rfl
        rwa [Nat.add_zero] at this)
      have HB0 := Lib.hid (show bad0 X k = ((decide (0 < k) && decide (numX X k ≤ numX X (k - 1))) || (!(X.getD k default).ok && (decide ((X.getD k default).raw.val ≠ 0) || decide ((X.getD k default).sts.val ≠ 0)))) from rfl)
      have HNX := Lib.hid (show numX X k = (X.getD k default).num.val from rfl)
      have HAT := Lib.hid (show chkAt l X k = if bad0 X k then 1 else if numIdx l (numX X k) < l.length then (if bad1 (l.getD (numIdx l (numX X k)) default).S (X.getD k default) then 1 else if (X.getD k default).sts.val &&& (65535 - (l.getD (numIdx l (numX X k)) default).S.states) = 0 then 0 else 2) else 8 from rfl)
      have HFST := Lib.hid (fun hne => chkM_first hlt hG.out hne)
      change Hid (wr.rangeAt bb (off + k * 4) (X.getD k default).cells) at HRG
      generalize X.getD k default = x at HRG HB0 HNX HAT
      go_upto_region 4 with (first
        | (refine wpList_load_mid rfl 103 (.tmp 14) rfl bb (off + k * 4) (by rfl) x.cells _ HRG.out Tryz.underlying103 rfl Tryz.sizeSm ?_)
        | (refine wpList_store_row (cs := x.cells.toArray) rfl 103 (.tmp 6) (.tmp 15) rfl (heap_alloc_new wr _) (by rfl) (by rfl) (by rfl) Tryz.sizeSm x.one ?_; intro w1 R1 M1; have HF1 := Lib.hid (freshA M1); have HR1 := Lib.hid R1; clear R1 M1))
      have HM1 := Lib.hid (HM.out.trans HF1.out)
      have HPW := Lib.hid (fun (m : Nat) (h : k = m + 1) => show w1.cell? ⟨bb, off + m * 4, none⟩ = some (.int .u8 (numX X m : Nat)) from by
        have := HPV.out w1 HF1.out (by omega)
        rwa [h, Nat.add_sub_cancel] at this)
      clear HM HF1 HK HRG HPV
      generalize wr.heap.size = g6 at HR1 ⊢
      (try dsimp only [Act.put])
      obtain ⟨⟨nk, hnk⟩, okb, ⟨rk, hrk⟩, ⟨sk, hsk⟩⟩ := x
      simp only at HB0 HNX HAT
      have HC := Lib.hid (fun (W : World) (M : Mods [] w1 W) => show W.cell? ⟨g6, 0, none⟩ = some (.int .u8 ((nk : Nat) : Int)) ∧ W.cell? ⟨g6, 1, none⟩ = some (.bool okb) ∧ W.cell? ⟨g6, 2, none⟩ = some (.int .u8 ((rk : Nat) : Int)) ∧ W.cell? ⟨g6, 3, none⟩ = some (.int .u16 ((sk : Nat) : Int)) from by
        have h := M.heap HR1.out (by simp)
        exact ⟨(cell_blk h 0).trans rfl, (cell_blk h 1).trans rfl, (cell_blk h 2).trans rfl, (cell_blk h 3).trans rfl⟩)
      rw [HNX.out] at HAT
      generalize hb0 : bad0 X k = b0 at HB0 HAT
      generalize hca : chkAt l X k = ca at HAT HFST
      have HCA := Lib.hid hca
      clear hb0 hca HR1
      go_cut [43] (fun u wx => u = .bool b0 ∧ Mods [] w1 wx)
      case first => as_aux_lemma =>
        obtain ⟨c0, c1, c2, c3⟩ := HC.out w1 Mods.refl
        by_cases h0 : k = 0
        · subst h0
          have HFI := Lib.hid (show (decide (0 < 0) && decide (numX X 0 ≤ numX X (0 - 1))) = false from by simp)
          cases okb with
          | true =>
            go_quiet (fail)
            go_wp2_with fail
            go_meet
            exact ⟨by rw [HB0.out, HFI.out]; simp [Bool.false_or], Mods.refl.drewN _⟩
          | false =>
            by_cases hr : rk = 0
            · have dr : (((rk : Nat) : Int) != 0) = false := by simp; omega
              by_cases hs : sk = 0
              · have ds : (((sk : Nat) : Int) != 0) = false := by simp; omega
                go_quiet (fail)
                go_wp2_with fail
                go_meet
                exact ⟨by rw [HB0.out, HFI.out]; simp [hr, hs], Mods.refl.drewN _⟩
              · have ds : (((sk : Nat) : Int) != 0) = true := by simp; omega
                go_quiet (fail)
                go_wp2_with fail
                go_meet
                exact ⟨by rw [HB0.out, HFI.out]; simp [hr, hs], Mods.refl.drewN _⟩
            · have dr : (((rk : Nat) : Int) != 0) = true := by simp; omega
              go_quiet (fail)
              go_wp2_with fail
              go_meet
              exact ⟨by rw [HB0.out, HFI.out]; simp [hr], Mods.refl.drewN _⟩
        · obtain ⟨m, rfl⟩ : ∃ m, k = m + 1 := ⟨k - 1, by omega⟩
          have cp := HPW.out m rfl
          have HNM := Lib.hid (show (decide (0 < m + 1) && decide (numX X (m + 1) ≤ numX X (m + 1 - 1))) = decide (nk ≤ numX X m) from by
            rw [decide_eq_true (show 0 < m + 1 by omega), Bool.true_and, HNX.out, Nat.add_sub_cancel])
          rw [HNM.out] at HB0
          generalize numX X m = pn at cp HB0
          have m0 : (0 : Int) ≤ ((m : Nat) : Int) := by omega
          have m1 : ((m : Nat) : Int) < ((X.length : Nat) : Int) := by omega
          have kp : (0 : Int) < ((m + 1 : Nat) : Int) := by omega
          have q0 : (0 : Int) ≤ ((m : Nat) : Int) + 1 := by omega
          have d0 : decide ((0 : Int) < ((m + 1 : Nat) : Int)) = true := decide_eq_true kp
          have hwm : IntKind.i64.wrap ((m : Nat) : Int) = ((m : Nat) : Int) := IntWalk.i64_in _ (by omega)
          by_cases hle : nk ≤ pn
          · have HFI := Lib.hid (decide_eq_true hle)
            have dle : decide (((nk : Nat) : Int) ≤ ((pn : Nat) : Int)) = true := decide_eq_true (by omega)
            go_quiet (fail)
            go_wp2_with fail
            go_meet
            exact ⟨by rw [HB0.out, HFI.out]; simp [Bool.true_or], Mods.refl.drewN _⟩
          · have HFI := Lib.hid (decide_eq_false hle)
            have dle : decide (((nk : Nat) : Int) ≤ ((pn : Nat) : Int)) = false := decide_eq_false (by omega)
            cases okb with
            | true =>
              go_quiet (fail)
              go_wp2_with fail
              go_meet
              exact ⟨by rw [HB0.out, HFI.out]; simp [Bool.false_or], Mods.refl.drewN _⟩
            | false =>
              by_cases hr : rk = 0
              · have dr : (((rk : Nat) : Int) != 0) = false := by simp; omega
                by_cases hs : sk = 0
                · have ds : (((sk : Nat) : Int) != 0) = false := by simp; omega
                  go_quiet (fail)
                  go_wp2_with fail
                  go_meet
                  exact ⟨by rw [HB0.out, HFI.out]; simp [hr, hs], Mods.refl.drewN _⟩
                · have ds : (((sk : Nat) : Int) != 0) = true := by simp; omega
                  go_quiet (fail)
                  go_wp2_with fail
                  go_meet
                  exact ⟨by rw [HB0.out, HFI.out]; simp [hr, hs], Mods.refl.drewN _⟩
              · have dr : (((rk : Nat) : Int) != 0) = true := by simp; omega
                go_quiet (fail)
                go_wp2_with fail
                go_meet
                exact ⟨by rw [HB0.out, HFI.out]; simp [hr], Mods.refl.drewN _⟩
      case rest => as_aux_lemma =>
        obtain ⟨rfl, MC⟩ := hcut
        have HMC := Lib.hid (HM1.out.trans MC)
        have HCC := Lib.hid (HC.out wc MC)
        clear MC HM1 HC HB0 HPW
        obtain ⟨c0, c1, c2, c3⟩ := HCC.out
        cases hb : b0 with
        | true =>
          rw [hb, if_pos rfl] at HAT
          have HR := Lib.hid (show chkM l X = 1 from by rw [HFST.out (by rw [HAT.out]; decide), HAT.out])
          clear hb
          go_wp2_with fail
          go_ret
          exact ⟨ret_int HR.out.symm, HMC.out⟩
        | false =>
          rw [hb, if_neg (by simp)] at HAT
          have HW := Lib.hid (H.out.mods0 HMC.out)
          have HFN := Lib.hid (find_ok HW.out nk)
          have HI := Lib.hid (show findI l nk = if numIdx l nk = l.length then -1 else ((numIdx l nk : Nat) : Int) from rfl)
          have hl := numIdx_le l nk
          generalize findI l nk = FI at HFN HI
          generalize numIdx l nk = K at HI hl HAT
          clear hb
          by_cases hK : K < l.length
          · have hfi : FI = (K : Int) := by rw [HI.out, if_neg (by omega)]
            subst hfi
            rw [if_pos hK] at HAT
            obtain ⟨bs, os, caps, hvs, hc1', hc2'⟩ := HW.out.sens.at (by omega)
            have HSE := Lib.hid (fun W (M : Mods [] wc W) => show RdSens W (.slice (some ⟨bs, os, none⟩) l.length caps) l from hvs ▸ (HW.out.mods0 M).sens)
            have HRGS := Lib.hid (fun W (M : Mods [] wc W) => (HSE.out W M).range hK)
            have HISS := Lib.hid ((HSE.out wc Mods.refl).is K hK)
            have HC0 := Lib.hid (fun W (M : Mods [] wc W) => show W.cell? ⟨mb, 0, none⟩ = some (.slice (some ⟨bs, os, none⟩) l.length caps) from hvs ▸ (HW.out.mods0 M).c0)
            have hone := Lib.hid (l.getD K default).one
            clear hvs HW
            generalize (l.getD K default).P = P at HISS
            generalize (l.getD K default).S = S at HRGS HISS HAT hone
            have HAN := Lib.hid (u16_andNot_nat sk S.states hsk HISS.out.states)
            have k0 : (0 : Int) ≤ (K : Int) := by omega
            have k1 : (K : Int) < (l.length : Int) := by omega
            go_wp2_with fail
            refine HFN.out.mono ?_
            rintro e w2 ⟨rfl, M2⟩
            have HM2 := Lib.hid (HMC.out.trans M2)
            have c0m := HC0.out _ M2
            have HRG := Lib.hid (HRGS.out _ M2)
            have c0 := M2.cell c0 (by simp)
            have c1 := M2.cell c1 (by simp)
            have c2 := M2.cell c2 (by simp)
            have c3 := M2.cell c3 (by simp)
            clear M2 HC0 HRGS HSE
            go_upto_region 10 with (first
              | (refine wpList_load_mid rfl 40 (.tmp 55) rfl bs (os + K * 28) (by rfl) S.cells.toList _ HRG.out Tryz.underlying40 rfl (Sen.infoS S) ?_)
              | (refine wpList_store_row (cs := S.cells) rfl 40 (.tmp 8) (.tmp 56) rfl (heap_alloc_new w2 _) (by rfl) (by rfl) (by rfl) (Sen.infoS _) (Sen.one _ hone.out) ?_; intro w3 R3 M3; have HF3 := Lib.hid (freshA M3); have HR3 := Lib.hid R3; clear R3 M3))
            (try dsimp only [Act.put])
            have HM3 := Lib.hid (HM2.out.trans HF3.out)
            have c0 := HF3.out.cell c0 (by simp)
            have c1 := HF3.out.cell c1 (by simp)
            have c2 := HF3.out.cell c2 (by simp)
            have c3 := HF3.out.cell c3 (by simp)
            clear HF3 HM2 HRG c0m
            generalize w2.heap.size = g8 at HR3 ⊢
            have HS3 := Lib.hid (show SenBox w3 g8 S from ⟨HR3.out⟩)
            have cd := HS3.out.head.2.2.2.2.2.2
            have cst := HS3.out.rest.2.2.1
            have han := HAN.out
            clear HS3 HR3 HAN HISS
            cases hd : S.disc with
            | false =>
              rw [hd] at cd
              by_cases hs : sk = 0
              · have ds : (((sk : Nat) : Int) != 0) = false := by simp; omega
                have HB1 := Lib.hid (show bad1 S ⟨⟨nk, hnk⟩, okb, ⟨rk, hrk⟩, ⟨sk, hsk⟩⟩ = false from by unfold bad1; simp [hd, hs])
                clear hs
                rw [HB1.out, if_neg (by simp)] at HAT
                by_cases hz : sk &&& (65535 - S.states) = 0
                · rw [if_pos hz] at HAT
                  rw [hz] at han
                  have HGN := Lib.hid (show ∀ j, j < k + 1 → chkAt l X j = 0 from fun j hj => by
                    rcases Nat.lt_or_ge j k with h | h
                    · exact hG.out j h
                    · rw [show j = k by omega, HCA.out, HAT.out])
                  clear hz
                  go_wp2_with fail
                  go_roundw
                  case rel => exact ⟨k + 1, by omega, by go_num, HM3.out, HGN⟩
                  case measure => simp [intOf]; omega
                · rw [if_neg hz] at HAT
                  have hzd : ((((sk &&& (65535 - S.states) : Nat)) : Int) != 0) = true := by simp only [bne_iff_ne, ne_eq]; omega
                  have HR := Lib.hid (show chkM l X = 2 from by rw [HFST.out (by rw [HAT.out]; decide), HAT.out])
                  generalize sk &&& (65535 - S.states) = za at han hzd
                  clear hz
                  go_wp2_with fail
                  go_ret
                  exact ⟨ret_int HR.out.symm, HM3.out⟩
              · have ds : (((sk : Nat) : Int) != 0) = true := by simp; omega
                have HB1 := Lib.hid (show bad1 S ⟨⟨nk, hnk⟩, okb, ⟨rk, hrk⟩, ⟨sk, hsk⟩⟩ = true from by unfold bad1; simp [hd, hs])
                clear hs
                rw [HB1.out, if_pos rfl] at HAT
                have HR := Lib.hid (show chkM l X = 1 from by rw [HFST.out (by rw [HAT.out]; decide), HAT.out])
                go_wp2_with fail
                go_ret
                exact ⟨ret_int HR.out.symm, HM3.out⟩
            | true =>
              rw [hd] at cd
              by_cases hr : rk = 0
              · have dr : (((rk : Nat) : Int) != 0) = false := by simp; omega
                have HB1 := Lib.hid (show bad1 S ⟨⟨nk, hnk⟩, okb, ⟨rk, hrk⟩, ⟨sk, hsk⟩⟩ = false from by unfold bad1; simp [hd, hr])
                clear hr
                rw [HB1.out, if_neg (by simp)] at HAT
                by_cases hz : sk &&& (65535 - S.states) = 0
                · rw [if_pos hz] at HAT
                  rw [hz] at han
                  have HGN := Lib.hid (show ∀ j, j < k + 1 → chkAt l X j = 0 from fun j hj => by
                    rcases Nat.lt_or_ge j k with h | h
                    · exact hG.out j h
                    · rw [show j = k by omega, HCA.out, HAT.out])
                  clear hz
                  go_wp2_with fail
                  go_roundw
                  case rel => exact ⟨k + 1, by omega, by go_num, HM3.out, HGN⟩
                  case measure => simp [intOf]; omega
                · rw [if_neg hz] at HAT
                  have hzd : ((((sk &&& (65535 - S.states) : Nat)) : Int) != 0) = true := by simp only [bne_iff_ne, ne_eq]; omega
                  have HR := Lib.hid (show chkM l X = 2 from by rw [HFST.out (by rw [HAT.out]; decide), HAT.out])
                  generalize sk &&& (65535 - S.states) = za at han hzd
                  clear hz
                  go_wp2_with fail
                  go_ret
                  exact ⟨ret_int HR.out.symm, HM3.out⟩
              · have dr : (((rk : Nat) : Int) != 0) = true := by simp; omega
                have HB1 := Lib.hid (show bad1 S ⟨⟨nk, hnk⟩, okb, ⟨rk, hrk⟩, ⟨sk, hsk⟩⟩ = true from by unfold bad1; simp [hd, hr])
                clear hr
                rw [HB1.out, if_pos rfl] at HAT
                have HR := Lib.hid (show chkM l X = 1 from by rw [HFST.out (by rw [HAT.out]; decide), HAT.out])
                go_wp2_with fail
                go_ret
                exact ⟨ret_int HR.out.symm, HM3.out⟩
          · have hfi : FI = -1 := by rw [HI.out, if_pos (by omega)]
            subst hfi
            rw [if_neg hK] at HAT
            have HR := Lib.hid (show chkM l X = 8 from by rw [HFST.out (by rw [HAT.out]; decide), HAT.out])
            go_wp2_with fail
            refine HFN.out.mono ?_
            rintro e w2 ⟨rfl, M2⟩
            have HM2 := Lib.hid (HMC.out.trans M2)
            clear M2
            go_wp2_with fail
            go_ret
            exact ⟨ret_int HR.out.symm, HM2.out⟩
    · have i1 : ¬ (k : Int) < (X.length : Int) := by omega
      have HR := Lib.hid (show chkM l X = 0 from chkM_zero (fun i hi => hG.out i (by omega)))
      go_wp2_with fail
      go_ret
      exact ⟨ret_int HR.out.symm, HM.out⟩
end
end Go.Proofs.YtijjkonephjodaaGreatDoor
