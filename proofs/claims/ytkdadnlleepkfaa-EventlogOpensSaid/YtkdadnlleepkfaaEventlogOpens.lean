/- EventlogOpens: the walk of the law. -/
import Derived.Test.YtkdadnlleepkfaaRfZ
import Derived.Test.YtkdadnlleepkfaaReJ
namespace Go.Proofs.Ytkdadnlleepkfaa
open Go.RowKit
set_option linter.unusedVariables false
set_option linter.unusedSimpArgs false
/-- What bytes in a fresh device leave. -/
theorem freshBytes {M Z : Nat} (h2 : M ≤ 16) (h3 : 64 ≤ Z) (h4 : Z ≤ 1024) (X : List Int) (hX : X.length ≤ M * Z) (hX2 : X.length ≤ 400) :
    ((Dev.fresh M Z).program 0 X).2.Ok ∧ ((Dev.fresh M Z).program 0 X).2.down = false ∧ ((Dev.fresh M Z).program 0 X).2.size = Z ∧ ((Dev.fresh M Z).program 0 X).2.wear.length = M ∧ Few ((Dev.fresh M Z).program 0 X).2 400 := by
  have hok : (Dev.fresh M Z).Ok := Dev.fresh_ok h2 (by omega) h4
  have hlen : (Dev.fresh M Z).data.length = M * Z := by show (List.replicate (M * Z) (255 : Int)).length = _; simp
  have hp : (Dev.fresh M Z).program 0 X = (0, (Dev.fresh M Z).ran 0 X) := by
    rw [Dev.program, if_neg (by show ¬ false = true; decide), if_pos (by simp only [fits, decide_eq_true_eq, hlen]; omega)]
    exact run_up X (Dev.fresh M Z) 0 rfl (.inl (Int.le_refl _))
  rw [hp]
  have hf := fresh_few M Z
  refine ⟨hok.ran' 0 X (.inl (Int.le_refl _)), rfl, rfl, ?_, ?_, ?_⟩
  · show (List.replicate M (0 : Int)).length = M
    simp
  · show (0 : Int) + X.length ≤ 400
    omega
  · intro i
    have := hf.wr i
    show (Dev.fresh M Z).wear.getD i 0 ≤ 400
    omega
theorem Rd.takeU {w : World} {ad : Option Addr} {n cap c : Nat} {l : List Int} (h : Rd w (.slice ad n cap) (u8s l)) (hn : n = l.length) (hc : c ≤ n) : Rd w (.slice ad c cap) (u8s (l.take c)) := by
  subst hn
  obtain ⟨ad', cap', hv, h1, h2, h3⟩ := h
  injection hv with hv1 hv2 hv3
  subst hv1 hv3
  rw [u8s_length] at h1
  have hl : (u8s (l.take c)).length = c := by rw [u8s_length, List.length_take]; omega
  refine ⟨ad, cap, by rw [hl], by rw [hl]; omega, h2, fun i hi => ?_⟩
  rw [hl] at hi
  obtain ⟨b, off, h4, h5⟩ := h3 i (by rw [u8s_length]; omega)
  refine ⟨b, off, h4, ?_⟩
  rw [h5]
  simp only [u8s, List.getD_eq_getElem?_getD, List.getElem?_map, List.getElem?_take, if_pos hi]
set_option maxRecDepth 100000 in
set_option maxHeartbeats 8000000 in
theorem eventlogOpens_walk (w : World) (vb : Value) (bs : List Int) (hvb : Rd w vb (u8s bs)) (hbb : Bytes bs) (fi : Int) (hfi : I64 fi) (s : Int) (hs : I64 s) (z : Int) (hz : I64 z) (ov : Bool) (v : Value) (Ls : List Int) (hv : Rd w v (i64s Ls)) (hb : ∀ i, I64 (Ls.getD i 0)) :
    Calls Try.prog 7 #[vb, .int .i64 fi, .int .i64 s, .int .i64 z, .bool ov, v] w fun e w' => e = .returned (.bool true) ∧ Mods [] w w' := by
  have HL := Lib.hid (light_ok w v Ls hv)
  have HV := Lib.hid hv
  have HB := Lib.hid hb
  have HRLT := Lib.hid (fun hx y hy => hv.block_lt (fun e => hx (List.eq_nil_of_length_eq_zero (by rw [← i64s_length, e]; rfl))) y hy : Ls ≠ [] → ∀ y, v.ownBlock = some y → y < w.heap.size)
  have HVB := Lib.hid hvb
  have HBB := Lib.hid hbb
  have HAW := Lib.hid awake_ok
  obtain ⟨adb, capb, hvbe⟩ := hvb.len
  have hcb : bs.length ≤ capb := by
    obtain ⟨_, _, h1, h2, _⟩ := hvb
    rw [hvbe] at h1
    injection h1 with _ _ h4
    rw [u8s_length] at h2
    omega
  rw [hvbe] at HVB ⊢
  rw [u8s_length] at HVB ⊢
  obtain ⟨N, hN⟩ := Int.eq_ofNat_of_zero_le (show 0 ≤ 2 + s % 3 by omega)
  obtain ⟨Z, hZ⟩ := Int.eq_ofNat_of_zero_le (show 0 ≤ 64 + z % 40 by omega)
  have HNR := Lib.hid (show 2 ≤ N ∧ N ≤ 4 by omega)
  have HZR := Lib.hid (show 64 ≤ Z ∧ Z ≤ 103 by omega)
  have HGM := Lib.hid (geometry_ok w s z hs hz)
  rw [hN, hZ] at HGM
  have HM4 := Lib.hid (fun W => mod_ok fi 4 W hfi (by omega) (by omega))
  obtain ⟨hf1, hf2⟩ := hfi
  have hq1 : I64 (fi.tdiv 4) := by
    constructor
    · rcases Int.le_total 0 fi with h | h
      · have := Int.tdiv_nonneg h (show (0 : Int) ≤ 4 by omega); omega
      · have h1 : fi.tdiv 4 = -((-fi).tdiv 4) := by rw [Int.neg_tdiv, Int.neg_neg]
        rw [h1, Int.tdiv_eq_ediv_of_nonneg (by omega)]
        omega
    · rcases Int.le_total 0 fi with h | h
      · rw [Int.tdiv_eq_ediv_of_nonneg h]; omega
      · have h1 : fi.tdiv 4 = -((-fi).tdiv 4) := by rw [Int.neg_tdiv, Int.neg_neg]
        rw [h1, Int.tdiv_eq_ediv_of_nonneg (by omega)]
        omega
  have HM3 := Lib.hid (fun W => mod_ok (fi.tdiv 4) 3 W hq1 (by omega) (by omega))
  have HKR := Lib.hid (show 0 ≤ fi % 4 ∧ fi % 4 ≤ 3 by omega)
  have HCR := Lib.hid (show 0 ≤ fi.tdiv 4 % 3 ∧ fi.tdiv 4 % 3 ≤ 2 by omega)
  have hq2 : IntKind.i64.wrap (fi.tdiv 4) = fi.tdiv 4 := IntWalk.i64_in _ hq1
  have HQW := Lib.hid hq2
  generalize fi % 4 = kI at HM4 HKR
  generalize hcI : fi.tdiv 4 % 3 = cI at HM3 HCR
  clear hv hb hs hz hN hZ hvb hbb hvbe hcI hq1 hq2 hf1 hf2
  obtain ⟨nl, hnl⟩ : ∃ nl, nl = bs.length := ⟨_, rfl⟩
  have HNL := Lib.hid hnl
  rw [← hnl] at HVB hcb ⊢
  clear hnl
  by_cases hn4 : nl ≤ 400
  rotate_left 1
  · have d4 : decide ((400 : Int) < (nl : Int)) = true := decide_eq_true (by omega)
    clear hn4
    go_enter Try.func7, Try.ntmps7
    go_wp2_with fail
    refine (HAW.out _).mono ?_
    rintro e w1 ⟨rfl, M1⟩
    go_wp2
    go_ret
    exact ⟨rfl, M1⟩
  have d4 : decide ((400 : Int) < (nl : Int)) = false := decide_eq_false (by omega)
  have HN4 := Lib.hid hn4
  by_cases hl : Ls.length ≤ 600
  rotate_left 1
  · have HLL := Lib.hid (decide_eq_false hl)
    clear hl hn4
    go_enter Try.func7, Try.ntmps7
    go_wp2_with fail
    refine HL.out.mono ?_
    rw [HLL.out]
    rintro e w' ⟨rfl, rfl⟩
    go_wp2_with fail
    refine (HAW.out _).mono ?_
    rintro e w1 ⟨rfl, M1⟩
    go_wp2
    go_ret
    exact ⟨rfl, M1⟩
  have HLL := Lib.hid (decide_eq_true hl)
  have HLE := Lib.hid hl
  obtain ⟨M, hM⟩ : ∃ M, M = N + 1 := ⟨_, rfl⟩
  have hMI : ((M : Nat) : Int) = ((N : Nat) : Int) + 1 := by omega
  have HMR := Lib.hid (show 3 ≤ M ∧ M ≤ 5 by have := HNR.out; omega)
  have HNW := Lib.hid (new_ok M Z (by have := HMR.out; omega) (by have := HMR.out; omega) HZR.out.1 (by have := HZR.out.2; omega) w)
  have HRN := Lib.hid (fun W => refNew_ok M Z (by have := HMR.out; omega) (by have := HMR.out; omega) HZR.out.1 (by have := HZR.out.2; omega) W)
  rw [hMI] at HNW HRN
  have HMI := Lib.hid hMI
  obtain ⟨T, hT⟩ : ∃ T, T = M * Z := ⟨_, rfl⟩
  have HT := Lib.hid hT
  have hT5 : T ≤ 5 * 103 := by rw [hT]; exact Nat.mul_le_mul HMR.out.2 HZR.out.2
  have HTW := Lib.hid (show IntKind.i64.wrap ((((N : Nat) : Int) + 1) * ((Z : Nat) : Int)) = ((T : Nat) : Int) from by
    rw [← hMI, ← Int.natCast_mul, ← hT]
    exact IntWalk.i64_in _ (by omega))
  have HT5 := Lib.hid hT5
  clear hM hMI hT hT5 hl hn4
  have hN4 : ((N : Nat) : Int) ≤ 4 := by have := HNR.out; omega
  have hN2 : (2 : Int) ≤ ((N : Nat) : Int) := by have := HNR.out; omega
  go_enter Try.func7, Try.ntmps7
  go_wp2_with fail
  refine HL.out.mono ?_
  rw [HLL.out]
  rintro e w' ⟨rfl, rfl⟩
  go_wp2_with fail
  refine HGM.out.mono ?_
  rintro e w' ⟨rfl, rfl⟩
  go_wp2_with fail
  refine HNW.out.mono ?_
  rintro e w1 ⟨p, rfl, hd, hm, hp⟩
  have HD1 := Lib.hid hd
  have HM1 := Lib.hid hm
  have HP1 := Lib.hid hp
  clear hd hm hp HL HGM HNW
  go_wp2_with fail
  refine (HRN.out _).mono ?_
  rintro e w2 ⟨pr, rfl, hd, hm, hp⟩
  have HE2 := Lib.hid hd
  have HD2 := Lib.hid (HD1.out.mods0 hm)
  have HM2 := Lib.hid (HM1.out.trans hm)
  have HP2 := Lib.hid (show ∀ x ∈ pr.foot, w1.heap.size ≤ x from hp)
  have HPP := Lib.hid (show ∀ x ∈ p.foot, x < w1.heap.size from HD1.out.lt)
  clear hd hm hp HRN HD1
  have hTW := HTW.out
  have hz4 : ((Z : Nat) : Int) ≤ 103 := by have := HZR.out; omega
  have hz0 : (0 : Int) ≤ ((Z : Nat) : Int) := by omega
  have hT5 : ((T : Nat) : Int) ≤ 515 := by have := HT5.out; omega
  have hT0 : (0 : Int) ≤ ((T : Nat) : Int) := by omega
  have hn0 : (0 : Int) ≤ ((nl : Nat) : Int) := by omega
  have hcb1 : ((nl : Nat) : Int) ≤ ((capb : Nat) : Int) := by omega
  go_upto_region 8 with (fail)
  go_cut [19] (fun u wx => wx = w2 ∧ ∃ c : Nat, u = .slice adb c capb ∧ c ≤ nl ∧ c ≤ T)
  case first => as_aux_lemma =>
    rcases Nat.lt_trichotomy nl T with hc | hc | hc
    · have c1 : ((nl : Nat) : Int) < ((T : Nat) : Int) := by omega
      have c2 : decide (((T : Nat) : Int) < ((nl : Nat) : Int)) = false := decide_eq_false (by omega)
      go_wp2_with fail
      go_meet
      exact ⟨rfl, nl, rfl, Nat.le_refl _, by omega⟩
    · subst hc
      go_wp2_with fail
      go_meet
      exact ⟨rfl, nl, rfl, Nat.le_refl _, by omega⟩
    · have c1 : ¬ ((nl : Nat) : Int) < ((T : Nat) : Int) := by omega
      have c2 : decide (((T : Nat) : Int) < ((nl : Nat) : Int)) = true := decide_eq_true (by omega)
      have hcc : T ≤ capb := by omega
      have hcc2 : ((T : Nat) : Int) ≤ ((capb : Nat) : Int) := by omega
      go_wp2_with fail
      go_meet
      exact ⟨rfl, T, rfl, by omega, Nat.le_refl _⟩
  case rest => as_aux_lemma =>
  obtain ⟨hwc, c, rfl, hc1, hc2⟩ := hcut
  have hwc := hwc.symm
  subst hwc
  have HXR := Lib.hid (Rd.takeU (c := c) HVB.out HNL.out hc1)
  have HXL := Lib.hid (show (bs.take c).length ≤ M * Z ∧ (bs.take c).length ≤ 400 from by
    have h1 := HT.out
    have h2 := HN4.out
    rw [List.length_take]
    omega)
  have HXB := Lib.hid (show Bytes (bs.take c) from fun i => by
    rw [List.getD_eq_getElem?_getD, List.getElem?_take]
    split
    · have := HBB.out i
      rwa [List.getD_eq_getElem?_getD] at this
    · simp)
  have HXO := Lib.hid (show (bs.take c) ≠ [] → ∀ k, (Value.slice adb c capb).ownBlock = some k → k < w.heap.size from fun hx k hk => HXR.out.block_lt (fun e => hx (List.eq_nil_of_length_eq_zero (by rw [← u8s_length, e]; rfl))) k hk)
  generalize bs.take c = X at HXR HXL HXB HXO
  clear hc1 hc2 hcb hcb1 HVB hTW hT5 hT0 hn0 hz4 hz0 d4
  have HFP := Lib.hid (freshBytes (M := M) (Z := Z) (by have := HMR.out; omega) HZR.out.1 (by have := HZR.out.2; omega) X HXL.out.1 HXL.out.2)
  have HOK0 := Lib.hid (show (Dev.fresh M Z).Ok from Dev.fresh_ok (by have := HMR.out; omega) (by have := HZR.out; omega) (by have := HZR.out.2; omega))
  have HPA := Lib.hid (program_ok w2 p (Dev.fresh M Z) HD2.out HOK0.out 0 _ X (HXR.out.mods0 HM2.out) HXB.out (fun hx k hk hm => by
    have h1 := HXO.out hx k hk
    have h2 := HP1.out k (by simp only [DevAt.foot, List.mem_cons] at hm ⊢; rcases hm with h | h | h <;> simp_all)
    omega) (by show (0 : Int) ≤ 4611686018427000000; decide))
  go_wp2_with fail
  refine HPA.out.mono ?_
  rintro e w3 ⟨rfl, hd3, hm3⟩
  have HD3 := Lib.hid hd3
  have HN3 := Lib.hid hm3
  have HE3 := Lib.hid (HE2.out.mods hm3 (fun x hx hm => by
    have h1 := HP2.out x hx
    have h2 := HPP.out x (by simp only [DevAt.foot, List.mem_cons] at hm ⊢; rcases hm with h | h | h <;> simp_all)
    omega))
  have HXR3 := Lib.hid (HXR.out.mods (HM2.out.comp hm3 (fun y hy => .inr (HP1.out y (by simp only [DevAt.foot, List.mem_cons] at hy ⊢; rcases hy with h | h | h <;> simp_all)))) (fun _ k hk => by simp))
  have HPB := Lib.hid (refProgram_ok w3 pr (Dev.fresh M Z) HE3.out HOK0.out 0 _ X HXR3.out HXB.out (fun hx k hk hm => by
    have h1 := HXO.out hx k hk
    have h2 := HP2.out k (by simp only [DevAt.foot, List.mem_cons] at hm ⊢; rcases hm with h | h | h <;> simp_all)
    have h3 := HM1.out.size
    omega) (by show (0 : Int) ≤ 4611686018427000000; decide))
  clear hd3 hm3 HPA
  go_wp2_with fail
  refine HPB.out.mono ?_
  rintro e w4 ⟨rfl, hd4, hm4⟩
  have HE4 := Lib.hid hd4
  have HPS := Lib.hid (show ∀ y, y ∈ [pr.b, pr.g] → y ∈ pr.foot from fun y hy => by simp only [DevAt.foot, List.mem_cons] at hy ⊢; rcases hy with h | h | h <;> simp_all)
  have HPQ := Lib.hid (show ∀ y, y ∈ [p.b, p.g] → y ∈ p.foot from fun y hy => by simp only [DevAt.foot, List.mem_cons] at hy ⊢; rcases hy with h | h | h <;> simp_all)
  have HD4 := Lib.hid (HD3.out.mods hm4 (fun x hx hm => by
    have h1 := HP2.out x (HPS.out x hm)
    have h2 := HPP.out x hx
    omega))
  have HM4' := Lib.hid (show Mods [] w w4 from (HM2.out.comp HN3.out (fun y hy => .inr (HP1.out y (HPQ.out y hy)))).comp hm4 (fun y hy => .inr (by
    have h1 := HP2.out y (HPS.out y hy)
    have h3 := HM1.out.size
    omega)))
  have HAPP := Lib.hid (show ∀ x ∈ pr.foot, x ∉ p.foot from fun x hx hm => by
    have h1 := HP2.out x hx
    have h2 := HPP.out x hm
    omega)
  have HPW := Lib.hid (show ∀ x ∈ pr.foot, w.heap.size ≤ x from fun x hx => by
    have h1 := HP2.out x hx
    have h3 := HM1.out.size
    omega)
  clear hd4 hm4 HPB HE3 HXR3 HXR HXO HXB HE2 HD2 HD3 HN3 HOK0 HM2
  generalize (Dev.fresh M Z).program 0 X = PR at HD4 HE4 HFP
  obtain ⟨P1, D1⟩ := PR
  simp only at HD4 HE4 HFP
  go_wp2_with fail
  refine (HM4.out _).mono ?_
  rintro e w' ⟨rfl, rfl⟩
  have hk0 := HKR.out.1
  have hk3 := HKR.out.2
  have hQW := HQW.out
  go_wp2_with fail
  refine (HM3.out _).mono ?_
  rintro e w' ⟨rfl, rfl⟩
  have hc0 := HCR.out.1
  have hc3 := HCR.out.2
  have HSEC := Lib.hid (show D1.wear.length = M from HFP.out.2.2.2.1)
  have HMI' := HMI.out
  by_cases hfit : 1 ≤ kI ∧ 2 ≤ ((N : Nat) : Int) - 1 + cI ∧ kI - 1 + (((N : Nat) : Int) - 1 + cI) ≤ ((N : Nat) : Int) + 1
  rotate_left 1
  · have HOB := Lib.hid (open_bad w4 p D1 HD4.out (by rw [HSEC.out]; have := HMR.out; omega) (kI - 1) (((N : Nat) : Int) - 1 + cI) (by omega) (by omega) ov (by rw [HSEC.out]; omega))
    have HRB := Lib.hid (rOpen_bad w4 pr D1 HE4.out (by rw [HSEC.out]; have := HMR.out; omega) (kI - 1) (((N : Nat) : Int) - 1 + cI) (by omega) (by omega) ov (by rw [HSEC.out]; omega))
    clear hfit HMI'
    go_wp2_with fail
    refine HOB.out.mono ?_
    rintro e w' ⟨rfl, rfl⟩
    go_wp2_with fail
    refine HRB.out.mono ?_
    rintro e w' ⟨rfl, rfl⟩
    go_wp2_with fail
    refine (HAW.out _).mono ?_
    rintro e w5 ⟨rfl, M5⟩
    have HM5 := Lib.hid (HM4'.out.trans M5)
    clear M5
    go_wp2_with fail
    go_ret
    exact ⟨rfl, HM5.out⟩
  obtain ⟨kn, hkn⟩ : ∃ kn : Nat, kI - 1 = kn := Int.eq_ofNat_of_zero_le (by omega)
  obtain ⟨cn, hcn⟩ : ∃ cn : Nat, ((N : Nat) : Int) - 1 + cI = cn := Int.eq_ofNat_of_zero_le (by omega)
  have HGP := Lib.hid (show kn + cn ≤ M ∧ 2 ≤ cn from by omega)
  clear hfit HMI'
  have HOP := Lib.hid (show ∀ (G : Geo), G = ⟨kn, cn, Z⟩ → Fits G D1 → Calls Try.prog 13 #[.pointer (some ⟨p.b, 0, none⟩), .int .i64 (kI - 1), .int .i64 (((N : Nat) : Int) - 1 + cI), .bool ov] w4 fun e w' => ∃ q : LogAt, e = .returned (.tuple #[.pointer (some ⟨q.b, 0, none⟩), .int .i64 0]) ∧ Lw w w' q (w4.heap.size + 1) p G D1 (mkL ov (openS (byt D1) G)) 400 ∧ Mods [] w4 w' ∧ ∀ x ∈ q.foot, w4.heap.size ≤ x from fun G hG F => by
    have h := Lw.open2 (k := 400) HD4.out F HFP.out.2.1 HFP.out.2.2.2.2 HM4'.out HP1.out ov
    subst hG
    rw [hkn, hcn]
    exact h)
  have HRO := Lib.hid (show ∀ (G : Geo) W, G = ⟨kn, cn, Z⟩ → Fits G D1 → Mods [] w4 W → Calls Try.prog 34 #[.pointer (some ⟨pr.b, 0, none⟩), .int .i64 (kI - 1), .int .i64 (((N : Nat) : Int) - 1 + cI), .bool ov] W fun e w' => ∃ rb, e = .returned (.tuple #[.pointer (some ⟨rb, 0, none⟩), .int .i64 0]) ∧ RefAt w' rb pr G D1 (newR ov) ∧ W.heap.size ≤ rb ∧ Mods [] W w' from fun G W hG F hW => by
    have h := rOpen_ok W pr D1 G (HE4.out.mods0 hW) F HFP.out.2.1 ov
    subst hG
    rw [hkn, hcn]
    exact h)
  obtain ⟨G, hG⟩ : ∃ G : Geo, G = ⟨kn, cn, Z⟩ := ⟨_, rfl⟩
  have HFT := Lib.hid (show Fits G D1 from by
    rw [hG]
    exact ⟨HFP.out.1, HFP.out.2.2.1.symm, by rw [HSEC.out]; exact HGP.out.1, HGP.out.2, by rw [HFP.out.2.2.1]; exact HZR.out.1⟩)
  have HOP := Lib.hid (HOP.out G hG HFT.out)
  have HRO := Lib.hid (fun W (h : Mods [] w4 W) => HRO.out G W hG HFT.out h)
  clear hkn hcn hG
  go_wp2_with fail
  refine HOP.out.mono ?_
  rintro e w5 ⟨⟨qb, v0⟩, rfl, hlw, hm5, hqn⟩
  have HQN := Lib.hid hqn
  have HW5 := Lib.hid hlw
  have HM5 := Lib.hid hm5
  clear hlw hm5 hqn HOP
  go_wp2_with fail
  refine (HRO.out _ HM5.out).mono ?_
  rintro e w6 ⟨rb, rfl, hr6, hrb, hm6⟩
  have HPR := Lib.hid (Pair.open HW5.out HQN.out HE4.out.lt HAPP.out HPW.out hr6 (RelL.new ov _) hrb hm6)
  have HM6 := Lib.hid (HW5.out.mods.trans hm6)
  clear hr6 hrb hm6 HRO HW5 HM5 HD4 HE4 HFP HFT
  go_wp2_with fail
  refine (roll_ok w6 v Ls (HV.out.mods0 HM6.out) (by have := HLE.out; omega) HB.out).mono ?_
  rintro e w7 ⟨rfl, hd7, hm7, hz7⟩
  have HD7 := Lib.hid hd7
  have HP7 := Lib.hid (HPR.out.mods0 hm7)
  have HBD := Lib.hid (show ∀ x ∈ p.foot ++ LogAt.foot ⟨qb, v0⟩, x < w6.heap.size from HPR.out.lw.lt)
  have HBR := Lib.hid (show w6.heap.size ∉ rb :: pr.foot from fun hm => Nat.lt_irrefl _ (HPR.out.ref.lt _ hm))
  have HBW := Lib.hid (show w.heap.size ≤ w6.heap.size from HM6.out.size)
  clear hd7 hm7 hz7 HPR HM6
  generalize w6.heap.size = bd at HD7 HBD HBR HBW ⊢
  generalize mkL ov (openS (byt D1) G) = L0 at HP7
  generalize newR ov = R0 at HP7
  go_wp2_with fail
  go_loopw [26] (fun i' wr => ∃ (i : Nat) (vq : Value) (D : Dev) (L : LogP) (R : RLog) (n : Nat), i' = .int .i64 (i : Nat) ∧ i ≤ 4 ∧ Pair w wr ⟨qb, vq⟩ (w4.heap.size + 1) p G D L (400 + 29 * (i : Int)) rb pr R ∧ IsDice wr bd v Ls n ∧ bd ∉ p.foot ++ LogAt.foot ⟨qb, vq⟩) (fun i' _ => 4 - (intOf i').toNat)
  case atStart => exact ⟨0, v0, D1, L0, R0, 0, rfl, Nat.zero_le _, HP7.out.more (by omega), HD7.out, fun h => Nat.lt_irrefl _ (HBD.out _ h)⟩
  case round => as_aux_lemma =>
    obtain ⟨i, vq, D, L, R, n, rfl, hi, hpr, hd, hbd⟩ := hrel
    have HP := Lib.hid hpr
    have HDI := Lib.hid hd
    have HBN := Lib.hid hbd
    clear hpr hd hbd HP7 HD7
    have i0 : (0 : Int) ≤ (i : Int) := by omega
    by_cases hlt : i < 4
    · have i1 : (i : Int) < 4 := by omega
      have HEC := Lib.hid (event_ok wr bd v Ls n HDI.out)
      go_wp2_with fail
      refine HEC.out.mono ?_
      generalize evF Ls n = x
      rintro e w8 ⟨rfl, hd8, hm8⟩
      have HP8 := Lib.hid (HP.out.modsS hm8 (fun x hx hm => by simp at hm; subst hm; exact HBN.out hx) (fun x hx hm => by simp at hm; subst hm; exact HBR.out hx) (fun x hx => by simp at hx; subst hx; exact HBW.out))
      have HD8 := Lib.hid hd8
      clear hd8 hm8 HEC HP HDI
      go_upto_region 24 with (refine wpList_store_row (cs := x.cells.toArray) rfl 37 (.tmp 27) (.tmp 128) rfl (heap_alloc_new w8 _) (by rfl) (by rfl) (by rfl) Try.sizeEv (Evt.one x) ?_; intro w9 R9 M9; have HF9 := Lib.hid (freshA M9); have HR9 := Lib.hid R9; clear R9 M9)
      have HP9 := Lib.hid (HP8.out.mods0 HF9.out)
      have HD9 := Lib.hid (HD8.out.mods0 HF9.out)
      have HG9 := Lib.hid (show w8.heap.size ∉ p.foot ++ LogAt.foot ⟨qb, vq⟩ from fun hm => Nat.lt_irrefl _ (HP8.out.lw.lt _ hm))
      have HZ9 := Lib.hid (show bd < w9.heap.size from HD9.out.lt)
      clear HP8 HD8 HF9
      generalize w8.heap.size = g27 at HR9 HG9 ⊢
      have HAD := Lib.hid (HP9.out.lw.add (by omega) x)
      have HRA := Lib.hid (fun W (M : Mods (p.foot ++ LogAt.foot ⟨qb, vq⟩) w9 W) => rAdd_ok W rb pr G D R L (HP9.out.ref1 M) HP9.out.lw.sync HP9.out.rel (HP9.out.lw.few.mono (by omega)) x)
      go_wp2_with (refine wpList_load_rowG (by rfl) 37 (.tmp 27) rfl g27 (by rfl) _ _ _ _ HR9.out Try.underlying37 rfl Try.sizeEv ?_)
      refine HAD.out.mono ?_
      rintro e w10 ⟨v', rfl, hl10, hm10, hy10⟩
      have HLW := Lib.hid hl10
      have HMA := Lib.hid hm10
      have HYA := Lib.hid hy10
      have HR10 := Lib.hid (hm10.heap HR9.out HG9.out)
      clear hl10 hm10 hy10 HAD HR9
      go_wp2_with (refine wpList_load_rowG (by rfl) 37 (.tmp 27) rfl g27 (by rfl) _ _ _ _ HR10.out Try.underlying37 rfl Try.sizeEv ?_)
      refine (HRA.out _ HMA.out).mono ?_
      rintro e w11 ⟨R', rfl, hr11, hrel11, hm11⟩
      have HP11 := Lib.hid (HP9.out.added x HLW.out HMA.out HYA.out hr11 hrel11 hm11)
      have HD11 := Lib.hid ((HD9.out.keep (wb := w) HMA.out HBN.out HP9.out.lw.new HRLT.out).keep (wb := w) hm11 HBR.out HP9.out.new HRLT.out)
      have HBN' := Lib.hid (show bd ∉ p.foot ++ LogAt.foot ⟨qb, v'⟩ from footNext HBN.out HZ9.out HYA.out)
      clear hr11 hrel11 hm11 HRA HLW HMA HYA HR10 HP9 HD9 HG9 HZ9 HBN
      generalize addL G D L x = AD at HP11 ⊢
      obtain ⟨⟨a1, a2⟩, D', L'⟩ := AD
      simp only at HP11 ⊢
      have HSM := Lib.hid (sameLog_ok HP11.out a1)
      go_wp2_with fail
      refine HSM.out.mono ?_
      rintro e w12 ⟨rfl, hm12⟩
      have HP12 := Lib.hid (HP11.out.mods0 hm12)
      have HD12 := Lib.hid (HD11.out.mods0 hm12)
      clear hm12 HSM HP11 HD11
      have HSD := Lib.hid (sameDev_ok w12 p pr D' HP12.out.lw.dev HP12.out.ref.dev HP12.out.lw.sync.fit.ok)
      go_wp2_with fail
      refine HSD.out.mono ?_
      rintro e w13 ⟨rfl, hm13⟩
      have HP13 := Lib.hid (HP12.out.mods0 hm13)
      have HD13 := Lib.hid (HD12.out.mods0 hm13)
      clear hm13 HSD HP12 HD12
      go_wp2_with fail
      go_roundw
      case rel => exact ⟨i + 1, v', D', L', R', _, by go_num, by omega, HP13.out.more (by push_cast; omega), HD13.out, HBN'.out⟩
      case measure => simp [intOf]; omega
    · have i1 : ¬ (i : Int) < 4 := by omega
      clear hlt
      go_wp2_with fail
      refine (HAW.out _).mono ?_
      rintro e w8 ⟨rfl, M8⟩
      have HM8 := Lib.hid (HP.out.lw.mods.trans M8)
      clear M8
      go_wp2_with fail
      go_ret
      exact ⟨rfl, HM8.out⟩
end Go.Proofs.Ytkdadnlleepkfaa
