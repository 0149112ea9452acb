/- EventlogPlays: the walk of the law. -/
import Derived.Test.YtkdadnlleepkfaaRfZ
import Derived.Test.YtkdadnlleepkfaaReJ
import Derived.Deep.CutBlock
import Derived.Test.YtkdadnlleepkfaaDoJ
namespace Go.Proofs.Ytkdadnlleepkfaa
open Go.RowKit
set_option linter.unusedVariables false
set_option linter.unusedSimpArgs false
/-- The three cells of the loop that turn, and what lies behind them. -/
def PlayS (w wx : World) (p : DevAt) (G : Geo) (pr : DevAt) (k : Int) (u v h : Value) : Prop :=
  ∃ (qb : Nat) (vq : Value) (B : Nat) (D : Dev) (L : LogP) (R : RLog) (rb hd : Nat), u = .pointer (some ⟨qb, 0, none⟩) ∧ v = .pointer (some ⟨rb, 0, none⟩) ∧ h = .int .u16 (hd : Nat) ∧ hd ≤ 65535 ∧ Pair w wx ⟨qb, vq⟩ B p G D L k rb pr R
theorem Mods.sub {S T : List Nat} {w w' : World} (h : Mods S w w') (hs : ∀ x ∈ S, x ∈ T) : Mods T w w' := h.mono (fun y hy => .inl (hs y hy))
set_option maxRecDepth 100000 in
set_option maxHeartbeats 8000000 in
theorem eventlogPlays_walk (w : World) (s : Int) (hs : I64 s) (z : Int) (hz : I64 z) (ov : Bool) (v : Value) (l : List DoL) (hv : RdDos w v l) :
    Calls Try.prog 10 #[.int .i64 s, .int .i64 z, .bool ov, v] w fun e w' => e = .returned (.bool true) ∧ Mods [] w w' := by
  have LO := Lib.hid (lightDo_ok w v l hv)
  have HAW := Lib.hid awake_ok
  obtain ⟨N, hN⟩ := Int.eq_ofNat_of_zero_le (show 0 ≤ 2 + s % 3 by omega)
  obtain ⟨Z, hZ⟩ := Int.eq_ofNat_of_zero_le (show 0 ≤ 64 + z % 40 by omega)
  have HNR := Lib.hid (show 2 ≤ N ∧ N ≤ 4 by omega)
  have HZR := Lib.hid (show 64 ≤ Z ∧ Z ≤ 103 by omega)
  have HGM := Lib.hid (geometry_ok w s z hs hz)
  rw [hN, hZ] at HGM
  clear hs hz hN hZ
  cases hlb : lightB l with
  | false =>
    have HLB := Lib.hid hlb
    clear hv hlb
    go_enter Try.func10, Try.ntmps10
    go_wp2_with fail
    refine LO.out.mono ?_
    rw [HLB.out]
    rintro e w' ⟨rfl, rfl⟩
    go_wp2_with fail
    refine (HAW.out _).mono ?_
    rintro e w' ⟨rfl, hm⟩
    go_wp2
    go_ret
    exact ⟨rfl, hm⟩
  | true =>
  have HLB := Lib.hid hlb
  have hll := lightB_len hlb
  obtain ⟨hr, hi⟩ := hv
  obtain ⟨ad, cap, rfl⟩ := hr.len
  have HR := Lib.hid hr
  have HI := Lib.hid hi
  clear hlb hr hi
  have HNW := Lib.hid (new_ok N Z (by have := HNR.out; omega) (by have := HNR.out; omega) HZR.out.1 (by have := HZR.out.2; omega) w)
  have HRN := Lib.hid (fun W => refNew_ok N Z (by have := HNR.out; omega) (by have := HNR.out; omega) HZR.out.1 (by have := HZR.out.2; omega) W)
  go_enter Try.func10, Try.ntmps10
  go_wp2_with fail
  refine LO.out.mono ?_
  rw [HLB.out]
  rintro e w' ⟨rfl, rfl⟩
  go_wp2_with fail
  refine HGM.out.mono ?_
  rintro e w' ⟨rfl, rfl⟩
  go_wp2_with fail
  refine HNW.out.mono ?_
  rintro e w1 ⟨p, rfl, hd, hm, hp⟩
  have HD1 := Lib.hid hd
  have HM1 := Lib.hid hm
  have HP1 := Lib.hid hp
  clear hd hm hp LO HGM HNW
  go_wp2_with fail
  refine (HRN.out _).mono ?_
  rintro e w2 ⟨pr, rfl, hd, hm, hp⟩
  have HE2 := Lib.hid hd
  have HD2 := Lib.hid (HD1.out.mods0 hm)
  have HM2 := Lib.hid (HM1.out.trans hm)
  have HAPP := Lib.hid (show ∀ x ∈ pr.foot, x ∉ p.foot from fun x hx hm => by
    have h1 := hp x hx
    have h2 := HD1.out.lt x hm
    omega)
  have HPW := Lib.hid (show ∀ x ∈ pr.foot, w.heap.size ≤ x from fun x hx => by
    have h1 := hp x hx
    have h3 := HM1.out.size
    omega)
  clear hd hm hp HRN HD1 HM1
  obtain ⟨G, hG⟩ : ∃ G : Geo, G = ⟨0, N, Z⟩ := ⟨_, rfl⟩
  have HGE := Lib.hid hG
  have HFT := Lib.hid (show Fits G (Dev.fresh N Z) by rw [hG]; exact fresh_fits HNR.out.1 (by have := HNR.out; omega) HZR.out.1 (by have := HZR.out.2; omega) HNR.out.1 (by omega))
  have HOPW := Lib.hid (show ∀ (W : World) (D : Dev) (k : Int), IsDev W p D → Fits G D → D.down = false → Few D k → Mods [] w W → Calls Try.prog 13 #[.pointer (some ⟨p.b, 0, none⟩), .int .i64 0, .int .i64 (N : Nat), .bool ov] W fun e w' => ∃ q : LogAt, e = .returned (.tuple #[.pointer (some ⟨q.b, 0, none⟩), .int .i64 0]) ∧ Lw w w' q (W.heap.size + 1) p G D (mkL ov (openS (byt D) G)) k ∧ Mods [] W w' ∧ ∀ x ∈ q.foot, W.heap.size ≤ x from fun W D k hd F hu hf hm => by
    have h := Lw.open2 hd F hu hf hm HP1.out ov
    subst hG
    exact h)
  have HROW := Lib.hid (show ∀ (W : World) (D : Dev), IsDev W pr D → Fits G D → D.down = false → Calls Try.prog 34 #[.pointer (some ⟨pr.b, 0, none⟩), .int .i64 0, .int .i64 (N : Nat), .bool ov] W fun e w' => ∃ rb, e = .returned (.tuple #[.pointer (some ⟨rb, 0, none⟩), .int .i64 0]) ∧ RefAt w' rb pr G D (newR ov) ∧ W.heap.size ≤ rb ∧ Mods [] W w' from fun W D hd F hu => by
    have h := rOpen_ok W pr D G hd F hu ov
    subst hG
    exact h)
  clear hG
  have HOP := Lib.hid (HOPW.out w2 _ 0 HD2.out HFT.out rfl (fresh_few N Z) HM2.out)
  have HRO := Lib.hid (fun W (M : Mods [] w2 W) => HROW.out W _ (HE2.out.mods0 M) HFT.out rfl)
  go_wp2_with fail
  refine HOP.out.mono ?_
  rintro e w5 ⟨⟨qb, v0⟩, rfl, hlw, hm5, hqn⟩
  have HQN := Lib.hid hqn
  have HW5 := Lib.hid hlw
  have HM5 := Lib.hid hm5
  clear hlw hm5 hqn HOP
  go_wp2_with fail
  refine (HRO.out _ HM5.out).mono ?_
  rintro e w6 ⟨rb, rfl, hr6, hrb, hm6⟩
  have HP6 := Lib.hid (Pair.open HW5.out HQN.out HE2.out.lt HAPP.out HPW.out hr6 (RelL.new ov _) hrb hm6)
  clear hr6 hrb hm6 HRO HW5 HM5 HD2 HE2 HQN HFT
  generalize mkL ov (openS (byt (Dev.fresh N Z)) G) = L0 at HP6
  generalize newR ov = R0 at HP6
  generalize Dev.fresh N Z = D0 at HP6
  have hl0 : ((l.length : Nat) : Int) ≤ 60 := by omega
  go_wp2_with fail
  go_loopw [15, 16, 18, 19] (fun u1 u2 u3 u4 wr => ∃ i : Nat, u4 = .int .i64 (i : Nat) ∧ i ≤ l.length ∧ PlayS w wr p G pr (29 * (i : Int)) u1 u2 u3) (fun _ _ _ u4 _ => l.length - (intOf u4).toNat)
  case atStart => exact ⟨0, rfl, Nat.zero_le _, qb, v0, w2.heap.size + 1, D0, L0, R0, rb, 0, rfl, rfl, rfl, by omega, HP6.out.more (by omega)⟩
  case round => as_aux_lemma =>
    obtain ⟨i, rfl, hi, qb, vq, B, D, L, R, rb, hd, rfl, rfl, rfl, hhd, hpr⟩ := hrel
    have HP := Lib.hid hpr
    have HHD := Lib.hid hhd
    clear hpr hhd HP6
    have i0 : (0 : Int) ≤ (i : Int) := by omega
    have i60 : (i : Int) ≤ 60 := by omega
    have HI60 := Lib.hid i60
    by_cases hlt : i < l.length
    · have i1 : (i : Int) < (l.length : Int) := by omega
      obtain ⟨bb, off, cap', hv2, _, _, -⟩ := HR.out.at (by omega)
      injection hv2 with hv3 hv5 hv4
      subst hv3 hv4
      clear hv5
      have HRG := Lib.hid ((HR.out.mods0 doOk HP.out.lw.mods).range hlt doOk.len)
      have HOK := Lib.hid ((HI.out i hlt).mods0 HP.out.lw.mods)
      have HSL := Lib.hid (lightB_get HLB.out hlt)
      have HRLT := Lib.hid (fun hx y hy => (HI.out i hlt).s.block_lt (fun e => hx (List.eq_nil_of_length_eq_zero (by rw [← i64s_length, e]; rfl))) y hy : (l.getD i default).seed ≠ [] → ∀ y, (l.getD i default).sv.ownBlock = some y → y < w.heap.size)
      change Hid (wr.rangeAt bb (off + i * 14) (l.getD i default).cells) at HRG
      generalize (l.getD i default) = d at HRG HOK HSL HRLT
      have HM8 := Lib.hid (fun W => mod_ok d.kind 8 W HOK.out.k (by omega) (by omega))
      have hi14 : ((off + i * 14 : Nat) : Int) = (off : Int) + (i : Int) * 14 := by push_cast; rfl
      clear hi14
      go_upto_region 17 with (first
        | (refine wpList_load_mid rfl 79 (.tmp 83) rfl bb (off + i * 14) (by rfl) d.cells _ HRG.out Try.underlying79 rfl Try.sizeDo ?_)
        | (refine wpList_store_row (cs := d.cells.toArray) rfl 79 (.tmp 20) (.tmp 84) rfl (heap_alloc_new wr _) (by rfl) (by rfl) (by rfl) Try.sizeDo d.one ?_; intro w1 R1 M1; have HF1 := Lib.hid (freshA M1); have HR1 := Lib.hid R1; clear R1 M1))
      have HP1' := Lib.hid (HP.out.mods0 HF1.out)
      have HOK1 := Lib.hid (HOK.out.mods0 HF1.out)
      have HG1 := Lib.hid (show wr.heap.size ∉ p.foot ++ LogAt.foot ⟨qb, vq⟩ ∧ wr.heap.size ∉ rb :: pr.foot from ⟨fun hm => Nat.lt_irrefl _ (HP.out.lw.lt _ hm), fun hm => Nat.lt_irrefl _ (HP.out.ref.lt _ hm)⟩)
      clear HP HOK HF1 HRG
      generalize wr.heap.size = g20 at HR1 HG1 ⊢
      obtain ⟨kd, nn, tt, sad, sn, scap, sd, x⟩ := d
      simp only at HM8 HSL HRLT
      have HC := Lib.hid (show ∀ W : World, W.heap[g20]? = some (.cells (DoL.cells ⟨kd, nn, tt, sad, sn, scap, sd, x⟩).toArray 79 (0, 0)) →
          W.cell? ⟨g20, 0, none⟩ = some (.int .i64 kd) ∧ W.cell? ⟨g20, 1, none⟩ = some (.int .i64 nn) ∧ W.cell? ⟨g20, 2, none⟩ = some (.int .u8 tt) ∧ W.cell? ⟨g20, 3, none⟩ = some (.slice sad sn scap) ∧ W.rangeAt g20 4 x.cells from fun W h => by
        refine ⟨(cell_blk h 0).trans rfl, (cell_blk h 1).trans rfl, (cell_blk h 2).trans rfl, (cell_blk h 3).trans rfl, fun j u hu => ?_⟩
        rw [cell_blk h, ← hu]
        show (DoL.cells _).toArray[4 + j]? = _
        rw [List.getElem?_toArray]
        show ([_, _, _, _] ++ x.cells)[4 + j]? = _
        rw [List.getElem?_append_right (by simp)]
        congr 1
        simp)
      have c0 := (HC.out _ HR1.out).1
      go_upto_region 23 with (fail)
      refine (HM8.out _).mono ?_
      rintro e w' ⟨rfl, rfl⟩
      have k80 : 0 ≤ kd % 8 := by omega
      have k87 : kd % 8 ≤ 7 := by omega
      generalize kd % 8 = k8 at k80 k87 ⊢
      clear HM8 c0
      go_upto_block 2 with (fail)
      go_cut [15, 16, 18, 21, 22, 23, 24] (fun v1 v2 v3 v4 v5 v6 v7 wx => PlayS w wx p G pr (29 * (i : Int) + 29) v1 v2 v3 ∧ ∃ (er : Int) (id : Nat), v4 = .int .i64 er ∧ v5 = .int .i64 er ∧ v6 = .int .u16 (id : Nat) ∧ v7 = .int .u16 (id : Nat))
      case first => as_aux_lemma =>
        have hcs : k8 = 1 ∨ k8 = 2 ∨ k8 = 3 ∨ k8 = 4 ∨ k8 = 5 ∨ (k8 ≠ 1 ∧ k8 ≠ 2 ∧ k8 ≠ 3 ∧ k8 ≠ 4 ∧ k8 ≠ 5) := by omega
        have HKB := Lib.hid (show 29 * (i : Int) ≤ 4611686018425000000 from by omega)
        rcases hcs with rfl | rfl | rfl | rfl | rfl | ⟨n1, n2, n3, n4, n5⟩
        · as_aux_lemma =>
          have c1 := (HC.out _ HR1.out).2.1
          have HCLR := Lib.hid (fun r => HP1'.out.lw.clear (by have := HKB.out; omega) r)
          have HRCL := Lib.hid (fun W (M : Mods (p.foot ++ LogAt.foot ⟨qb, vq⟩) w1 W) (r : Nat) (hr : r ≤ 65535) => rClear_ok W rb pr G D R L (HP1'.out.ref1 M) HP1'.out.lw.sync HP1'.out.rel (HP1'.out.lw.few.mono HKB.out) HP1'.out.lw.num r hr)
          by_cases h3 : nn.tmod 4 = 3
          · have e3 : (nn.tmod 4 == 3) = true := by simpa using h3
            obtain ⟨r, hr⟩ : ∃ r : Nat, IntKind.u16.wrap nn = (r : Int) := Int.eq_ofNat_of_zero_le (by rw [IntKind.wrap_u16]; omega)
            have HRB := Lib.hid (show r ≤ 65535 from by rw [IntKind.wrap_u16] at hr; omega)
            clear h3
            go_wp2_with fail
            refine (HCLR.out r).mono ?_
            rintro e w2 ⟨v', rfl, hl2, hm2, hy2⟩
            have HLW := Lib.hid hl2
            have HMA := Lib.hid hm2
            have HYA := Lib.hid hy2
            clear hl2 hm2 hy2
            go_wp2_with fail
            refine (HRCL.out _ HMA.out r HRB.out).mono ?_
            rintro e w3 ⟨R', rfl, hr3, hrel3, hm3⟩
            have HP3 := Lib.hid (HP1'.out.both HLW.out HMA.out (foot_grows (q := ⟨qb, vq⟩) HYA.out) hr3 hrel3 hm3)
            clear hr3 hrel3 hm3
            go_wp2_with fail
            go_meet
            exact ⟨⟨qb, v', B, _, _, R', rb, hd, rfl, rfl, rfl, HHD.out, HP3.out.more (by omega)⟩, _, 0, rfl, rfl, rfl, rfl⟩
          · have e3 : (nn.tmod 4 == 3) = false := by simpa using h3
            clear h3
            go_wp2_with fail
            refine (HCLR.out hd).mono ?_
            rintro e w2 ⟨v', rfl, hl2, hm2, hy2⟩
            have HLW := Lib.hid hl2
            have HMA := Lib.hid hm2
            have HYA := Lib.hid hy2
            clear hl2 hm2 hy2
            go_wp2_with fail
            refine (HRCL.out _ HMA.out hd HHD.out).mono ?_
            rintro e w3 ⟨R', rfl, hr3, hrel3, hm3⟩
            have HP3 := Lib.hid (HP1'.out.both HLW.out HMA.out (foot_grows (q := ⟨qb, vq⟩) HYA.out) hr3 hrel3 hm3)
            clear hr3 hrel3 hm3
            go_wp2_with fail
            go_meet
            exact ⟨⟨qb, v', B, _, _, R', rb, hd, rfl, rfl, rfl, HHD.out, HP3.out.more (by omega)⟩, _, 0, rfl, rfl, rfl, rfl⟩
        · as_aux_lemma =>
          have HRS := Lib.hid HP1'.out.lw.reserve
          have HRR := Lib.hid (fun W (M : Mods [qb] w1 W) => rRes_ok (HP1'.out.ref1 (M.sub (T := p.foot ++ LogAt.foot ⟨qb, vq⟩) (by simp [LogAt.foot]))) HP1'.out.rel HP1'.out.lw.num)
          have HVR := Lib.hid (show resV L ≤ 65535 from by
            unfold resV
            split
            · omega
            · exact (resN_rng HP1'.out.lw.num).2)
          go_wp2_with fail
          refine HRS.out.mono ?_
          rintro e w2 ⟨rfl, hl2, hm2⟩
          have HLW := Lib.hid hl2
          have HMA := Lib.hid hm2
          clear hl2 hm2
          go_wp2_with fail
          refine (HRR.out _ HMA.out).mono ?_
          rintro e w3 ⟨rfl, hr3, hm3⟩
          have HP3 := Lib.hid (HP1'.out.both HLW.out (HMA.out.sub (by simp [LogAt.foot])) (fun x hx => .inl hx) hr3 (HP1'.out.rel.res HP1'.out.lw.num).1 (hm3.sub (by simp)))
          clear hr3 hm3
          go_wp2_with fail
          go_meet
          exact ⟨⟨qb, vq, B, D, resS L, rRes R, rb, resV L, rfl, rfl, rfl, HVR.out, HP3.out.more (by omega)⟩, 0, resV L, rfl, rfl, rfl, rfl⟩
        · as_aux_lemma =>
          have c1 := (HC.out _ HR1.out).2.1
          have c2 := (HC.out _ HR1.out).2.2.1
          have HA1 := Lib.hid (HP1'.out.lw.arm (nn.tmod 80) tt (by have := Int.tmod_lt_of_pos nn (show (0 : Int) < 80 by omega); omega) HOK1.out.t.1 HOK1.out.t.2)
          have HA2 := Lib.hid (fun W (M : Mods [p.b] w1 W) => refArm_ok W pr D (HP1'.out.ref1 (M.sub (T := p.foot ++ LogAt.foot ⟨qb, vq⟩) (by simp [DevAt.foot]))).dev (nn.tmod 80) tt)
          go_wp2_with fail
          refine HA1.out.mono ?_
          rintro e w2 ⟨rfl, hl2, hm2⟩
          have HLW := Lib.hid hl2
          have HMA := Lib.hid hm2
          have HR2 := Lib.hid (hm2.heap HR1.out (fun hm => HG1.out.1 (by simp at hm; subst hm; simp [DevAt.foot])))
          have c1 := (HC.out _ HR2.out).2.1
          have c2 := (HC.out _ HR2.out).2.2.1
          clear hl2 hm2
          go_wp2_with fail
          refine (HA2.out _ HMA.out).mono ?_
          rintro e w3 ⟨rfl, hd3, hm3⟩
          have HP3 := Lib.hid (HP1'.out.both HLW.out (HMA.out.sub (by simp [DevAt.foot])) (fun x hx => .inl hx) ((HP1'.out.ref1 (HMA.out.sub (by simp [DevAt.foot]))).redev hd3 HLW.out.sync.fit (hm3.sub (by simp [DevAt.foot]))) HP1'.out.rel (hm3.sub (by simp [DevAt.foot])))
          clear hd3 hm3
          go_wp2_with fail
          go_meet
          exact ⟨⟨qb, vq, B, _, L, R, rb, hd, rfl, rfl, rfl, HHD.out, HP3.out.more (by omega)⟩, 0, 0, rfl, rfl, rfl, rfl⟩
        · as_aux_lemma =>
          have HA1 := Lib.hid HP1'.out.lw.restore
          have HA2 := Lib.hid (fun W (M : Mods [p.b] w1 W) => refRestore_ok W pr D (HP1'.out.ref1 (M.sub (T := p.foot ++ LogAt.foot ⟨qb, vq⟩) (by simp [DevAt.foot]))).dev)
          go_wp2_with fail
          refine HA1.out.mono ?_
          rintro e w2 ⟨rfl, hl2, hm2⟩
          have HLW := Lib.hid hl2
          have HMA := Lib.hid hm2
          clear hl2 hm2
          go_wp2_with fail
          refine (HA2.out _ HMA.out).mono ?_
          rintro e w3 ⟨rfl, hd3, hm3⟩
          have HE3 := Lib.hid (show IsDev w3 pr { D with down := false, left := 0 } from hd3)
          have HL3 := Lib.hid (HLW.out.modsS hm3 (fun x hx hm => by simp at hm; subst hm; exact HP1'.out.apart _ (by simp [DevAt.foot]) hx) (fun x hx => by simp at hx; subst hx; exact HPW.out _ (by simp [DevAt.foot])))
          clear hd3 hm3 HLW HMA HA1 HA2
          have HOP := Lib.hid (HOPW.out w3 _ _ HL3.out.dev HL3.out.sync.fit rfl HL3.out.few HL3.out.mods)
          have HRO := Lib.hid (fun W (M : Mods [] w3 W) => HROW.out W _ (HE3.out.mods0 M) HL3.out.sync.fit rfl)
          go_wp2_with fail
          refine HOP.out.mono ?_
          rintro e w5 ⟨⟨qc, v0⟩, rfl, hlw, hm5, hqn⟩
          have HQN := Lib.hid hqn
          have HW5 := Lib.hid hlw
          have HM5 := Lib.hid hm5
          clear hlw hm5 hqn HOP
          go_wp2_with fail
          refine (HRO.out _ HM5.out).mono ?_
          rintro e w6 ⟨rc, rfl, hr6, hrb, hm6⟩
          have HP3 := Lib.hid (Pair.open HW5.out HQN.out HE3.out.lt HAPP.out HPW.out hr6 (RelL.new ov _) hrb hm6)
          clear hr6 hrb hm6
          go_wp2_with fail
          go_meet
          exact ⟨⟨qc, v0, _, _, _, _, rc, hd, rfl, rfl, rfl, HHD.out, HP3.out.more (by omega)⟩, 0, 0, rfl, rfl, rfl, rfl⟩
        · as_aux_lemma =>
          have HRE := Lib.hid (HC.out _ HR1.out).2.2.2.2
          have HAD := Lib.hid (HP1'.out.lw.add (by have := HKB.out; omega) x)
          have HRA := Lib.hid (fun W (M : Mods (p.foot ++ LogAt.foot ⟨qb, vq⟩) w1 W) => rAdd_ok W rb pr G D R L (HP1'.out.ref1 M) HP1'.out.lw.sync HP1'.out.rel (HP1'.out.lw.few.mono HKB.out) x)
          go_wp2_with (refine wpList_load_mid rfl 37 (.tmp 169) rfl g20 4 (by rfl) x.cells _ HRE.out Try.underlying37 rfl Try.sizeEv ?_)
          refine HAD.out.mono ?_
          rintro e w2 ⟨v', rfl, hl2, hm2, hy2⟩
          have HLW := Lib.hid hl2
          have HMA := Lib.hid hm2
          have HYA := Lib.hid hy2
          have HRE2 := Lib.hid (HC.out _ (hm2.heap HR1.out HG1.out.1)).2.2.2.2
          clear hl2 hm2 hy2 HAD HRE
          go_wp2_with (refine wpList_load_mid rfl 37 (.tmp 176) rfl g20 4 (by rfl) x.cells _ HRE2.out Try.underlying37 rfl Try.sizeEv ?_)
          refine (HRA.out _ HMA.out).mono ?_
          rintro e w3 ⟨R', rfl, hr3, hrel3, hm3⟩
          have HP3 := Lib.hid (HP1'.out.added x HLW.out HMA.out HYA.out hr3 hrel3 hm3)
          clear hr3 hrel3 hm3
          go_wp2_with fail
          go_meet
          exact ⟨⟨qb, v', B, _, _, R', rb, hd, rfl, rfl, rfl, HHD.out, HP3.out⟩, _, _, rfl, rfl, rfl, rfl⟩
        · as_aux_lemma =>
          have e1 : (k8 == 1) = false := by simpa using n1
          have e2 : (k8 == 2) = false := by simpa using n2
          have e3 : (k8 == 3) = false := by simpa using n3
          have e4 : (k8 == 4) = false := by simpa using n4
          have e5 : (k8 == 5) = false := by simpa using n5
          have c3 := (HC.out _ HR1.out).2.2.2.1
          clear n1 n2 n3 n4 n5
          go_wp2_with fail
          refine (roll_ok w1 (.slice sad sn scap) sd HOK1.out.s (by have := HSL.out; omega) HOK1.out.b).mono ?_
          rintro e w2 ⟨rfl, hd2, hm2, hz2⟩
          have HD2 := Lib.hid hd2
          have HP2 := Lib.hid (HP1'.out.mods0 hm2)
          have HBN := Lib.hid (show w1.heap.size ∉ p.foot ++ LogAt.foot ⟨qb, vq⟩ ∧ w1.heap.size ∉ rb :: pr.foot from ⟨fun hm => Nat.lt_irrefl _ (HP1'.out.lw.lt _ hm), fun hm => Nat.lt_irrefl _ (HP1'.out.ref.lt _ hm)⟩)
          have HBW := Lib.hid (show w.heap.size ≤ w1.heap.size from HP1'.out.lw.mods.size)
          clear hd2 hm2 hz2
          generalize w1.heap.size = bd at HD2 HBN HBW ⊢
          have HEC := Lib.hid (event_ok w2 bd _ sd 0 HD2.out)
          go_wp2_with fail
          refine HEC.out.mono ?_
          generalize evF sd 0 = y
          rintro e w8 ⟨rfl, hd8, hm8⟩
          have HP8 := Lib.hid (HP2.out.modsS hm8 (fun x hx hm => by simp at hm; subst hm; exact HBN.out.1 hx) (fun x hx hm => by simp at hm; subst hm; exact HBN.out.2 hx) (fun x hx => by simp at hx; subst hx; exact HBW.out))
          clear hd8 hm8 HEC HP2 HD2 HBN HBW
          go_upto_region 21 with (refine wpList_store_row (cs := y.cells.toArray) rfl 37 (.tmp 26) (.tmp 91) rfl (heap_alloc_new w8 _) (by rfl) (by rfl) (by rfl) Try.sizeEv (Evt.one y) ?_; intro w9 R9 M9; have HF9 := Lib.hid (freshA M9); have HR9 := Lib.hid R9; clear R9 M9)
          have HP9 := Lib.hid (HP8.out.mods0 HF9.out)
          have HG9 := Lib.hid (show w8.heap.size ∉ p.foot ++ LogAt.foot ⟨qb, vq⟩ from fun hm => Nat.lt_irrefl _ (HP8.out.lw.lt _ hm))
          clear HP8 HF9
          generalize w8.heap.size = g26 at HR9 HG9 ⊢
          have HAD := Lib.hid (HP9.out.lw.add (by have := HKB.out; omega) y)
          have HRA := Lib.hid (fun W (M : Mods (p.foot ++ LogAt.foot ⟨qb, vq⟩) w9 W) => rAdd_ok W rb pr G D R L (HP9.out.ref1 M) HP9.out.lw.sync HP9.out.rel (HP9.out.lw.few.mono HKB.out) y)
          go_wp2_with (refine wpList_load_rowG (by rfl) 37 (.tmp 26) rfl g26 (by rfl) _ _ _ _ HR9.out Try.underlying37 rfl Try.sizeEv ?_)
          refine HAD.out.mono ?_
          rintro e w10 ⟨v', rfl, hl2, hm2, hy2⟩
          have HLW := Lib.hid hl2
          have HMA := Lib.hid hm2
          have HYA := Lib.hid hy2
          have HR10 := Lib.hid (hm2.heap HR9.out HG9.out)
          clear hl2 hm2 hy2 HAD HR9
          go_wp2_with (refine wpList_load_rowG (by rfl) 37 (.tmp 26) rfl g26 (by rfl) _ _ _ _ HR10.out Try.underlying37 rfl Try.sizeEv ?_)
          refine (HRA.out _ HMA.out).mono ?_
          rintro e w11 ⟨R', rfl, hr3, hrel3, hm3⟩
          have HP3 := Lib.hid (HP9.out.added y HLW.out HMA.out HYA.out hr3 hrel3 hm3)
          clear hr3 hrel3 hm3
          go_wp2_with fail
          go_meet
          exact ⟨⟨qb, v', B, _, _, R', rb, hd, rfl, rfl, rfl, HHD.out, HP3.out⟩, _, _, rfl, rfl, rfl, rfl⟩
      case rest => as_aux_lemma =>
        obtain ⟨⟨qb', vq', B', D', L', R', rb', hd', rfl, rfl, rfl, hhd', hpr'⟩, er, id, rfl, rfl, rfl, rfl⟩ := hcut
        have HP := Lib.hid hpr'
        have HHD' := Lib.hid hhd'
        clear hpr' hhd' HP1' HC HR1 HG1 HOK1 HHD
        have hw16 : IntKind.u16.wrap ((i : Nat) : Int) = ((i : Nat) : Int) := by rw [IntKind.wrap_u16]; omega
        have HSM := Lib.hid (sameLog_ok HP.out i)
        go_wp2_with fail
        refine HSM.out.mono ?_
        rintro e w12 ⟨rfl, hm12⟩
        have HP12 := Lib.hid (HP.out.mods0 hm12)
        clear hm12 HSM HP
        have HSD := Lib.hid (sameDev_ok w12 p pr D' HP12.out.lw.dev HP12.out.ref.dev HP12.out.lw.sync.fit.ok)
        go_wp2_with fail
        refine HSD.out.mono ?_
        rintro e w13 ⟨rfl, hm13⟩
        have HP13 := Lib.hid (HP12.out.mods0 hm13)
        clear hm13 HSD HP12
        go_wp2_with fail
        go_roundw
        case rel => exact ⟨i + 1, by go_num, by omega, qb', vq', B', D', L', R', rb', hd', rfl, rfl, rfl, HHD'.out, HP13.out.more (by push_cast; omega)⟩
        case measure => simp [intOf]; omega
    · have i1 : ¬ (i : Int) < (l.length : Int) := by omega
      clear hlt
      go_wp2_with fail
      refine (HAW.out _).mono ?_
      rintro e w8 ⟨rfl, M8⟩
      have HM8 := Lib.hid (HP.out.lw.mods.trans M8)
      clear M8
      go_wp2_with fail
      go_ret
      exact ⟨rfl, HM8.out⟩
end Go.Proofs.Ytkdadnlleepkfaa
