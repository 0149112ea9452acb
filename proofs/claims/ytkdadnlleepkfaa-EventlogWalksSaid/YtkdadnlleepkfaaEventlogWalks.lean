/- EventlogWalks: the walk of the law. -/
import Derived.Test.YtkdadnlleepkfaaSameE
namespace Go.Proofs.Ytkdadnlleepkfaa
open Go.RowKit
set_option linter.unusedVariables false
set_option linter.unusedSimpArgs false
def atAB (a b i : Nat) : Nat := if i = 0 then 0 else if i < b - a then a + i + 1 else 0
theorem recJ_id {K : Nat} {ev : Nat → Evt} {j : Nat} (h : j + 1 ≤ 65535) : (recJ K ev j).2.id.val = j + 1 := by
  show (j + 1) % 65536 = j + 1
  omega
theorem recsAB_getD {K : Nat} {ev : Nat → Evt} {a b i : Nat} (h : i < b - a) : (recsAB K ev a b).getD i recE.dflt = recJ K ev (a + i) := by
  rw [List.getD_eq_getElem?_getD, recsAB_get h]; rfl
theorem getIdx_at {K : Nat} {ev : Nat → Evt} {a b i : Nat} (hb : b ≤ 60000) (h : i < b - a) : getIdx (recsAB K ev a b) (atAB a b i) = i := by
  have hl : i < (recsAB K ev a b).length := by rw [recsAB_len]; exact h
  have hg : ∀ j (hj : j < (recsAB K ev a b).length), (recsAB K ev a b)[j] = recJ K ev (a + j) := fun j hj => by
    have h2 := recsAB_get (K := K) (ev := ev) (a := a) (b := b) (i := j) (by rw [recsAB_len] at hj; exact hj)
    rw [List.getElem?_eq_getElem hj] at h2
    injection h2
  unfold getIdx
  rw [List.findIdx_eq hl, hg i hl]
  unfold getP atAB
  by_cases h0 : i = 0
  · subst h0
    simp
  · rw [if_neg h0, if_pos h]
    refine ⟨?_, fun j hj => ?_⟩
    · rw [recJ_id (by omega)]; simp
    · rw [hg j (by omega), recJ_id (by omega)]; simp; omega
theorem getR_at {K : Nat} {ev : Nat → Evt} {a b i : Nat} (hb : b ≤ 60000) (h : i < b - a) : getR (recsAB K ev a b) (atAB a b i) = (((recsAB K ev a b).getD i recE.dflt).2, atAB a b (i + 1), 0) := by
  unfold getR
  rw [getIdx_at hb h, recsAB_len, if_neg (by omega)]
  congr 2
  unfold atAB
  rw [if_neg (show ¬ i + 1 = 0 by omega)]
  by_cases h2 : i + 1 < b - a
  · rw [if_pos h2, if_pos h2, recsAB_getD h2, recJ_id (by omega)]
  · rw [if_neg h2, if_neg h2]
def thereB (l : List (Nat × Evt)) (t k : Nat) : Bool := (decide (t = 0) && decide (0 < l.length)) || (l.take k).any fun r => decide (r.2.id.val = t)
theorem there_get (l : List (Nat × Evt)) (t : Nat) : getR l t = if thereB l t l.length = true then ((getR l t).1, (getR l t).2.1, 0) else (zE, 0, 8) := by
  unfold getR
  by_cases h : getIdx l t = l.length
  · have h2 : thereB l t l.length = false := by
      unfold getIdx at h
      have h3 := List.findIdx_eq_length.1 h
      unfold thereB
      rw [List.take_length]
      simp only [Bool.or_eq_false_iff, Bool.and_eq_false_iff, decide_eq_false_iff_not, List.any_eq_false, decide_eq_true_eq]
      refine ⟨?_, fun x hx he => ?_⟩
      · rcases Nat.eq_zero_or_pos l.length with h0 | h0
        · exact .inr (by omega)
        · left
          intro ht
          have := h3 l[0] (List.getElem_mem h0)
          simp [getP, ht] at this
      · have := h3 x hx
        simp [getP, he] at this
    rw [if_pos h, h2]
    rfl
  · have h2 : thereB l t l.length = true := by
      have hlt : getIdx l t < l.length := by have := getIdx_le l t; omega
      have h3 := List.findIdx_getElem (p := getP t) (xs := l) (w := hlt)
      unfold thereB
      rw [List.take_length]
      unfold getP at h3
      simp only [Bool.or_eq_true, Bool.and_eq_true, decide_eq_true_eq, List.any_eq_true] at h3 ⊢
      rcases h3 with h3 | h3
      · exact .inl ⟨h3, by omega⟩
      · exact .inr ⟨_, List.getElem_mem _, h3⟩
    rw [if_neg h, h2]
    rfl
theorem there_step {l : List (Nat × Evt)} {t k : Nat} (h : k < l.length) : thereB l t (k + 1) = (thereB l t k || decide ((l.getD k recE.dflt).2.id.val = t)) := by
  unfold thereB
  rw [List.take_succ_eq_append_getElem h, List.any_append, List.getD_eq_getElem?_getD, List.getElem?_eq_getElem h, Bool.or_assoc]
  simp
set_option maxRecDepth 100000 in
set_option maxHeartbeats 8000000 in
theorem eventlogWalks_walk (w : World) (s : Int) (hs : I64 s) (z : Int) (hz : I64 z) (ov : Bool) (v : Value) (Ls : List Int) (hv : Rd w v (i64s Ls)) (hb : ∀ i, I64 (Ls.getD i 0)) (n : Int) (hn : I64 n) (id : Int) (hid : 0 ≤ id ∧ id ≤ 65535) :
    Calls Try.prog 6 #[.int .i64 s, .int .i64 z, .bool ov, v, .int .i64 n, .int .u16 id] w fun e w' => e = .returned (.bool true) ∧ Mods [] w w' := by
  obtain ⟨t, rfl⟩ := Int.eq_ofNat_of_zero_le hid.1
  clear hid
  have HL := Lib.hid (light_ok w v Ls hv)
  have HV := Lib.hid hv
  have HB := Lib.hid hb
  have HAW := Lib.hid awake_ok
  obtain ⟨N, hN⟩ := Int.eq_ofNat_of_zero_le (show 0 ≤ 2 + s % 3 by omega)
  obtain ⟨Z, hZ⟩ := Int.eq_ofNat_of_zero_le (show 0 ≤ 64 + z % 40 by omega)
  obtain ⟨m, hm⟩ := Int.eq_ofNat_of_zero_le (show 0 ≤ n % 40 by omega)
  have HNR := Lib.hid (show 2 ≤ N ∧ N ≤ 4 by omega)
  have HZR := Lib.hid (show 64 ≤ Z ∧ Z ≤ 103 by omega)
  have HMR := Lib.hid (show m < 40 by omega)
  have HGM := Lib.hid (geometry_ok w s z hs hz)
  rw [hN, hZ] at HGM
  have HMD := Lib.hid (fun W => mod_ok n 40 W hn (by omega) (by omega))
  rw [hm] at HMD
  clear hv hb hs hz hn hN hZ hm
  by_cases hl : Ls.length ≤ 600
  rotate_left 1
  · have HLL := Lib.hid (decide_eq_false hl)
    go_enter Try.func6, Try.ntmps6
    go_wp2_with fail
    refine HL.out.mono ?_
    rw [HLL.out]
    rintro e w' ⟨rfl, rfl⟩
    go_wp2_with fail
    refine (HAW.out _).mono ?_
    rintro e w1 ⟨rfl, M1⟩
    go_wp2
    go_ret
    exact ⟨rfl, M1⟩
  have HLL := Lib.hid (decide_eq_true hl)
  have HFI := Lib.hid (filled_ok w N Z HNR.out.1 (by have := HNR.out.2; omega) HZR.out.1 (by have := HZR.out.2; omega) ov v Ls HV.out (by omega) HB.out m (by have := HMR.out; omega))
  obtain ⟨G, hG⟩ : ∃ G : Geo, G = ⟨0, N, Z⟩ := ⟨_, rfl⟩
  rw [← hG] at HFI
  have HGE := Lib.hid hG
  clear hG hl
  go_enter Try.func6, Try.ntmps6
  go_wp2_with fail
  refine HL.out.mono ?_
  rw [HLL.out]
  rintro e w' ⟨rfl, rfl⟩
  go_wp2_with fail
  refine HGM.out.mono ?_
  rintro e w' ⟨rfl, rfl⟩
  go_wp2_with fail
  refine (HMD.out _).mono ?_
  rintro e w' ⟨rfl, rfl⟩
  go_wp2_with fail
  refine HFI.out.mono ?_
  rintro e w1 ⟨p, qb, v1, vr, B, D, k, B2, rfl, hlw, hk, hc, hor, hB2, hwB⟩
  have HW := Lib.hid hlw
  have HK := Lib.hid hk
  have HC := Lib.hid hc
  have HOR := Lib.hid hor
  have HB2 := Lib.hid hB2
  have HWB := Lib.hid hwB
  obtain ⟨ad, cap, hvr⟩ := (hor.rd evOk).len
  have HSL := Lib.hid (slots_pos hlw.sync.fit)
  have HGN := Lib.hid hlw.sync.fit.n2
  clear hlw hk hc hor hB2 hwB HFI HGM HL
  have HLN := Lib.hid HW.out.len
  have HGA := Lib.hid (fun i (hi : i < (fillL G ov (evJ Ls) m).s.recs.length) => show getR (fillL G ov (evJ Ls) m).s.recs (atAB ((fillT G.slots G.n (fillM G ov m) - 1) * G.slots) (fillM G ov m) i) = (((fillL G ov (evJ Ls) m).s.recs.getD i recE.dflt).2, atAB ((fillT G.slots G.n (fillM G ov m) - 1) * G.slots) (fillM G ov m) (i + 1), 0) from getR_at (by have := fillM_le G ov m; have := HMR.out; omega) (by rw [show (fillL G ov (evJ Ls) m).s.recs.length = _ from recsAB_len _ _] at hi; exact hi))
  have HLE := Lib.hid (show (fillL G ov (evJ Ls) m).s.recs.length = fillM G ov m - (fillT G.slots G.n (fillM G ov m) - 1) * G.slots from recsAB_len _ _)
  have HRL := Lib.hid HW.out.recs
  generalize hl : (fillL G ov (evJ Ls) m).s.recs = l at HOR HLN HGA HLE HRL hvr
  have HLL2 := Lib.hid hl
  generalize (fillT G.slots G.n (fillM G ov m) - 1) * G.slots = a at HGA HLE
  generalize fillM G ov m = bq at HGA HLE
  rw [List.length_map] at hvr
  rw [hvr] at HOR
  rw [hvr]
  clear hvr hl
  go_wp2_with fail
  refine HLN.out.mono ?_
  rintro e w' ⟨rfl, rfl⟩
  have HRD := Lib.hid (HOR.out.rd evOk)
  have HGT := Lib.hid (fun W (M : Mods [] w1 W) t => (HW.out.mods0 M).get t)
  rw [HLL2.out] at HGT
  go_wp2_with fail
  go_loopw [19, 20] (fun at' i' wr => ∃ i : Nat, at' = .int .u16 (atAB a bq i : Nat) ∧ i' = .int .i64 (i : Nat) ∧ i ≤ l.length ∧ Mods [] w1 wr) (fun _ i' _ => l.length - (intOf i').toNat)
  case atStart => exact ⟨0, rfl, rfl, Nat.zero_le _, Mods.refl⟩
  case round =>
    obtain ⟨i, rfl, rfl, hi, hM⟩ := hrel
    have HM := Lib.hid hM
    have i0 : (0 : Int) ≤ (i : Int) := by omega
    by_cases hlt : i < l.length
    · have i1 : (i : Int) < (l.length : Int) := by omega
      have HG1 := Lib.hid (HGT.out wr hM (atAB a bq i))
      rw [HGA.out i hlt] at HG1
      have hml : (l.map (·.2)).getD i evE.dflt = (l.getD i recE.dflt).2 := by
        rw [List.getD_eq_getElem?_getD, List.getD_eq_getElem?_getD, List.getElem?_map, List.getElem?_eq_getElem hlt]; rfl
      obtain ⟨bb, off, cp, hv2, _, _, -⟩ := HRD.out.at (by rw [List.length_map]; omega)
      rw [List.length_map] at hv2
      injection hv2 with hv3 hv5 hv4
      subst hv3 hv4
      clear hv5
      have HRG := Lib.hid (show w1.rangeAt bb (off + i * 10) (l.getD i recE.dflt).2.cells from by
        have h0 := HRD.out
        have h := RdE.range (E := evE) (l := l.map (·.2)) (by rw [List.length_map]; exact h0) (i := i) (by rw [List.length_map]; exact hlt) evOk.len
        rw [hml] at h
        exact h)
      obtain ⟨bbl, h12, h17⟩ : ∃ bbl : Bool, (((atAB a bq (i + 1) : Nat) : Int) == 0) = bbl ∧ (((i : Nat) : Int) + 1 == ((l.length : Nat) : Int)) = bbl := by
        refine ⟨decide (i + 1 = l.length), ?_, ?_⟩
        · rw [Bool.eq_iff_iff, beq_iff_eq, decide_eq_true_eq]
          have := HLE.out
          unfold atAB
          rw [if_neg (show ¬ i + 1 = 0 by omega)]
          split <;> omega
        · rw [Bool.eq_iff_iff, beq_iff_eq, decide_eq_true_eq]
          omega
      have H12 := Lib.hid h12
      have H17 := Lib.hid h17
      clear h12 h17 hml hM
      generalize (l.getD i recE.dflt).2 = x at HG1 HRG
      obtain ⟨nx, hnx⟩ : ∃ nx, nx = atAB a bq (i + 1) := ⟨_, rfl⟩
      rw [← hnx] at HG1 H12
      have HNX := Lib.hid hnx
      clear hnx
      have HXX := Lib.hid (show ∀ W, (binOp .neq 37 (.agg x.cells.toArray) (.agg x.cells.toArray)).run Try.prog W = .ok (.bool false) W from fun W => (ev_neq x x W).trans (by simp))
      have i3 : ((i : Nat) : Int) ≤ 1000 := by have := HRL.out; omega
      go_wp2_with fail
      refine HG1.out.mono ?_
      rintro e w3 ⟨rfl, hm3⟩
      have HM3 := Lib.hid (HM.out.trans hm3)
      clear hm3 HG1
      go_upto_region 12 with (refine wpList_store_row (cs := x.cells.toArray) rfl 37 (.tmp 21) (.tmp 70) rfl (heap_alloc_new w3 _) (by rfl) (by rfl) (by rfl) Try.sizeEv (Evt.one x) ?_; intro w4 R4 M4; have HF4 := Lib.hid (freshA M4); have HR4 := Lib.hid R4; clear R4 M4)
      have HM4 := Lib.hid (HM3.out.trans HF4.out)
      clear HM HM3 HF4
      generalize w3.heap.size = g21 at HR4 ⊢
      go_cut [92] (fun u wx => u = .bool false ∧ Mods [] w1 wx)
      case first =>
        have HS4 := Lib.hid (Mods.refl.drew : Mods [] w4 w4.drew)
        refine heldStart (S := fun W => Mods [] w4 W) 20 rfl (by kernel_rfl) HS4.out (fun hHeld => ?_)
        refine takeD (i := 0) (d := 73) (v := ?_) rfl rfl (by kernel_rfl) (by kernel_rfl) (by kernel_rfl) (fun _ _ _ h => h) (Or.inl ⟨by rfl, ?_⟩) hHeld ?_
        rotate_left 1
        · (intro w hSw; (try dsimp only at hSw); go_simp; (try with_reducible rfl))
        simp only [List.setIfInBounds_toArray, List.set_cons_zero, List.set_cons_succ]
        refine takeD (i := 1) (d := 74) (v := ?_) rfl rfl (by kernel_rfl) (by kernel_rfl) (by kernel_rfl) (fun _ _ _ h => h) (Or.inl ⟨by rfl, ?_⟩) hHeld ?_
        rotate_left 1
        · (intro w hSw; (try dsimp only at hSw); go_simp; (try with_reducible rfl))
        simp only [List.setIfInBounds_toArray, List.set_cons_zero, List.set_cons_succ]
        refine takeD (i := 2) (d := 75) (v := ?_) rfl rfl (by kernel_rfl) (by kernel_rfl) (by kernel_rfl) (fun _ _ _ h => h) (Or.inl ⟨by rfl, ?_⟩) hHeld ?_
        rotate_left 1
        · (intro w hSw; (try dsimp only at hSw); go_simp; (try with_reducible rfl))
        simp only [List.setIfInBounds_toArray, List.set_cons_zero, List.set_cons_succ]
        refine takeD (i := 3) (d := 76) (v := .agg x.cells.toArray) rfl rfl (by kernel_rfl) (by kernel_rfl) (by kernel_rfl) (fun _ _ _ h => h) (yieldsIf_load_mid (by rfl) 37 (.tmp 21) rfl g21 0 rfl x.cells _ (fun W h k u hu => by
          rw [cell_blk (h.heap HR4.out (by simp)), Nat.zero_add]
          simpa using hu) Try.underlying37 rfl Try.sizeEv) hHeld ?_
        simp only [List.setIfInBounds_toArray, List.set_cons_zero, List.set_cons_succ]
        refine takeD (i := 4) (d := 77) (v := ?_) rfl rfl (by kernel_rfl) (by kernel_rfl) (by kernel_rfl) (fun _ _ _ h => h) (Or.inl ⟨by rfl, ?_⟩) hHeld ?_
        rotate_left 1
        · (intro w hSw; (try dsimp only at hSw); go_simp; (try with_reducible rfl))
        simp only [List.setIfInBounds_toArray, List.set_cons_zero, List.set_cons_succ]
        refine takeD (i := 5) (d := 78) (v := ?_) rfl rfl (by kernel_rfl) (by kernel_rfl) (by kernel_rfl) (fun _ _ _ h => h) (Or.inl ⟨by rfl, ?_⟩) hHeld ?_
        rotate_left 1
        · (intro w hSw; (try dsimp only at hSw); go_simp; (try with_reducible rfl))
        simp only [List.setIfInBounds_toArray, List.set_cons_zero, List.set_cons_succ]
        refine takeD (i := 6) (d := 79) (v := ?_) rfl rfl (by kernel_rfl) (by kernel_rfl) (by kernel_rfl) (fun _ _ _ h => h) (Or.inl ⟨by rfl, ?_⟩) hHeld ?_
        rotate_left 1
        · (intro w hSw; (try dsimp only at hSw); go_simp; (try with_reducible rfl))
        simp only [List.setIfInBounds_toArray, List.set_cons_zero, List.set_cons_succ]
        refine takeD (i := 7) (d := 80) (v := .agg x.cells.toArray) rfl rfl (by kernel_rfl) (by kernel_rfl) (by kernel_rfl) (fun _ _ _ h => h) (yieldsIf_load_mid (by rfl) 37 (.tmp 79) rfl bb (off + i * 10) rfl x.cells _ (fun W h k u hu => (HM4.out.trans h).cell (HRG.out k u hu) (by simp)) Try.underlying37 rfl Try.sizeEv) hHeld ?_
        simp only [List.setIfInBounds_toArray, List.set_cons_zero, List.set_cons_succ]
        refine takeD (i := 8) (d := 81) (v := .bool false) rfl rfl (by kernel_rfl) (by kernel_rfl) (by kernel_rfl) (fun _ _ _ h => h) (Or.inl ⟨by rfl, fun W hW => ?_⟩) hHeld ?_
        · have hxy := HXX.out
          (try dsimp only at hW)
          go_simp
          try simp only [hxy, Result.andThen_ok]
        simp only [List.setIfInBounds_toArray, List.set_cons_zero, List.set_cons_succ]
        refine takeD (i := 9) (d := 82) (v := ?_) rfl rfl (by kernel_rfl) (by kernel_rfl) (by kernel_rfl) (fun _ _ _ h => h) (Or.inl ⟨by rfl, ?_⟩) hHeld ?_
        rotate_left 1
        · (intro w hSw; (try dsimp only at hSw); go_simp; (try with_reducible rfl))
        simp only [List.setIfInBounds_toArray, List.set_cons_zero, List.set_cons_succ]
        refine takeD (i := 10) (d := 83) (v := ?_) rfl rfl (by kernel_rfl) (by kernel_rfl) (by kernel_rfl) (fun _ _ _ h => h) (Or.inl ⟨by rfl, ?_⟩) hHeld ?_
        rotate_left 1
        · (intro w hSw; (try dsimp only at hSw); go_simp; (try with_reducible rfl))
        simp only [List.setIfInBounds_toArray, List.set_cons_zero, List.set_cons_succ]
        refine takeD (i := 11) (d := 84) (v := ?_) rfl rfl (by kernel_rfl) (by kernel_rfl) (by kernel_rfl) (fun _ _ _ h => h) (Or.inl ⟨by rfl, ?_⟩) hHeld ?_
        rotate_left 1
        · (intro w hSw; (try dsimp only at hSw); go_simp; (try with_reducible rfl))
        simp only [List.setIfInBounds_toArray, List.set_cons_zero, List.set_cons_succ]
        refine takeD (i := 12) (d := 85) (v := .bool bbl) rfl rfl (by kernel_rfl) (by kernel_rfl) (by kernel_rfl) (fun _ _ _ h => h) (Or.inl ⟨by rfl, fun W hW => ?_⟩) hHeld ?_
        · have h12 := H12.out
          (try dsimp only at hW)
          go_simp
          try simp only [h12]
        simp only [List.setIfInBounds_toArray, List.set_cons_zero, List.set_cons_succ]
        refine takeD (i := 13) (d := 86) (v := ?_) rfl rfl (by kernel_rfl) (by kernel_rfl) (by kernel_rfl) (fun _ _ _ h => h) (Or.inl ⟨by rfl, ?_⟩) hHeld ?_
        rotate_left 1
        · (intro w hSw; (try dsimp only at hSw); go_simp; (try with_reducible rfl))
        simp only [List.setIfInBounds_toArray, List.set_cons_zero, List.set_cons_succ]
        refine takeD (i := 14) (d := 87) (v := .int .i64 (((i : Nat) : Int) + 1)) rfl rfl (by kernel_rfl) (by kernel_rfl) (by kernel_rfl) (fun _ _ _ h => h) (Or.inl ⟨by rfl, fun W hW => ?_⟩) hHeld ?_
        · have hwr : IntKind.i64.wrap (((i : Nat) : Int) + 1) = ((i : Nat) : Int) + 1 := IntWalk.i64_in _ (by omega)
          (try dsimp only at hW)
          go_simp
          try rw [hwr]
        simp only [List.setIfInBounds_toArray, List.set_cons_zero, List.set_cons_succ]
        refine takeD (i := 15) (d := 88) (v := ?_) rfl rfl (by kernel_rfl) (by kernel_rfl) (by kernel_rfl) (fun _ _ _ h => h) (Or.inl ⟨by rfl, ?_⟩) hHeld ?_
        rotate_left 1
        · (intro w hSw; (try dsimp only at hSw); go_simp; (try with_reducible rfl))
        simp only [List.setIfInBounds_toArray, List.set_cons_zero, List.set_cons_succ]
        refine takeD (i := 16) (d := 89) (v := ?_) rfl rfl (by kernel_rfl) (by kernel_rfl) (by kernel_rfl) (fun _ _ _ h => h) (Or.inl ⟨by rfl, ?_⟩) hHeld ?_
        rotate_left 1
        · (intro w hSw; (try dsimp only at hSw); go_simp; (try with_reducible rfl))
        simp only [List.setIfInBounds_toArray, List.set_cons_zero, List.set_cons_succ]
        refine takeD (i := 17) (d := 90) (v := .bool bbl) rfl rfl (by kernel_rfl) (by kernel_rfl) (by kernel_rfl) (fun _ _ _ h => h) (Or.inl ⟨by rfl, fun W hW => ?_⟩) hHeld ?_
        · have h17 := H17.out
          (try dsimp only at hW)
          go_simp
          try simp only [h17]
        simp only [List.setIfInBounds_toArray, List.set_cons_zero, List.set_cons_succ]
        refine takeD (i := 18) (d := 91) (v := .bool false) rfl rfl (by kernel_rfl) (by kernel_rfl) (by kernel_rfl) (fun _ _ _ h => h) (Or.inl ⟨by rfl, fun W hW => ?_⟩) hHeld ?_
        · (try dsimp only at hW)
          cases bbl <;> go_simp
        simp only [List.setIfInBounds_toArray, List.set_cons_zero, List.set_cons_succ]
        refine takeD (i := 19) (d := 92) (v := ?_) rfl rfl (by kernel_rfl) (by kernel_rfl) (by kernel_rfl) (fun _ _ _ h => h) (Or.inl ⟨by rfl, ?_⟩) hHeld ?_
        rotate_left 1
        · (intro w hSw; (try dsimp only at hSw); go_simp; (try with_reducible rfl))
        simp only [List.setIfInBounds_toArray, List.set_cons_zero, List.set_cons_succ]
        refine wpAnyH_done (by kernel_rfl) ?_ _
        go_wp2_with fail
        go_meet
        exact ⟨rfl, HM4.out.trans hHeld⟩
      case rest =>
        obtain ⟨rfl, MC⟩ := hcut
        have HMC := Lib.hid MC
        clear MC
        go_wp2_with fail
        go_roundw
        case rel => exact ⟨i + 1, by rw [HNX.out], by go_num, by omega, HMC.out⟩
        case measure => simp [intOf]; omega
    · have i1 : ¬ (i : Int) < (l.length : Int) := by omega
      clear hi hlt
      have HG2 := Lib.hid (HGT.out wr hM t)
      have HTG := Lib.hid (there_get l t)
      generalize getR l t = y at HG2 HTG
      obtain ⟨y1, y2, y3⟩ := y
      simp only at HG2 HTG
      clear HGT HGA hM
      go_wp2_with fail
      refine HG2.out.mono ?_
      rintro e w3 ⟨rfl, hm3⟩
      have HM3 := Lib.hid (HM.out.trans hm3)
      clear hm3 HG2
      go_upto_region 16 with (refine wpList_store_row (cs := y1.cells.toArray) rfl 37 (.tmp 24) (.tmp 98) rfl (heap_alloc_new w3 _) (by rfl) (by rfl) (by rfl) Try.sizeEv (Evt.one y1) ?_; intro w4 R4 M4; have HF4 := Lib.hid (freshA M4); clear R4 M4)
      have HM4 := Lib.hid (HM3.out.trans HF4.out)
      clear HM HM3 HF4
      go_cut [27] (fun u wx => u = .bool (thereB l t 0) ∧ Mods [] w1 wx)
      case first =>
        have HT0 := Lib.hid (show thereB l t 0 = (decide (t = 0) && decide (0 < l.length)) by unfold thereB; simp)
        by_cases ht : t = 0
        · have t1 : ((t : Nat) : Int) = 0 := by omega
          by_cases hl0 : 0 < l.length
          · have l2 : decide ((0 : Int) < (l.length : Int)) = true := decide_eq_true (by omega)
            have l3 := Lib.hid (decide_eq_true hl0)
            have HX := Lib.hid (show thereB l t 0 = true by rw [HT0.out]; simp [ht, hl0])
            clear ht hl0
            go_wp2_with fail
            go_meet
            exact ⟨by rw [HX.out]; first | rfl | exact congrArg Value.bool l3.out, HM4.out⟩
          · have l0 : l.length = 0 := by omega
            have HX := Lib.hid (show thereB l t 0 = false by rw [HT0.out]; simp [l0])
            have l3 := Lib.hid (decide_eq_false hl0)
            clear ht hl0 l0
            go_wp2_with fail
            go_meet
            exact ⟨by rw [HX.out]; first | rfl | exact congrArg Value.bool l3.out, HM4.out⟩
        · have t1 : ¬ ((t : Nat) : Int) = 0 := by omega
          have HX := Lib.hid (show thereB l t 0 = false by rw [HT0.out]; simp [ht])
          clear ht
          go_wp2_with fail
          go_meet
          exact ⟨by rw [HX.out], HM4.out⟩
      case rest =>
        obtain ⟨rfl, MC⟩ := hcut
        have HMC := Lib.hid MC
        clear MC HM4
        go_wp2_with fail
        go_loopw [27, 28] (fun u i' wx => ∃ k : Nat, u = .bool (thereB l t k) ∧ i' = .int .i64 (k : Nat) ∧ k ≤ l.length ∧ Mods [] w1 wx) (fun _ i' _ => l.length - (intOf i').toNat)
        case atStart => exact ⟨0, rfl, rfl, Nat.zero_le _, HMC.out⟩
        case round =>
          obtain ⟨k, rfl, rfl, hk, hMk⟩ := hrel
          have HMk := Lib.hid hMk
          clear hMk
          have k0 : (0 : Int) ≤ (k : Int) := by omega
          have k3 : ((k : Nat) : Int) ≤ 1000 := by have := HRL.out; omega
          by_cases hlt : k < l.length
          · have k1 : (k : Int) < (l.length : Int) := by omega
            have HSTP := Lib.hid (there_step (t := t) hlt)
            have hml : (l.map (·.2)).getD k evE.dflt = (l.getD k recE.dflt).2 := by
              rw [List.getD_eq_getElem?_getD, List.getD_eq_getElem?_getD, List.getElem?_map, List.getElem?_eq_getElem hlt]; rfl
            obtain ⟨bb, off, cp, hv2, _, _, -⟩ := HRD.out.at (by rw [List.length_map]; omega)
            rw [List.length_map] at hv2
            injection hv2 with hv3 hv5 hv4
            subst hv3 hv4
            clear hv5
            have HRG := Lib.hid (show w1.rangeAt bb (off + k * 10) (l.getD k recE.dflt).2.cells from by
              have h0 := HRD.out
              have h := RdE.range (E := evE) (l := l.map (·.2)) (by rw [List.length_map]; exact h0) (i := k) (by rw [List.length_map]; exact hlt) evOk.len
              rw [hml] at h
              exact h)
            clear hml
            generalize (l.getD k recE.dflt).2 = x at HRG HSTP
            have cx := HMk.out.cell (HRG.out 0 (.int .u16 ((x.id.val : Nat) : Int)) rfl) (by simp)
            rw [Nat.add_zero] at cx
            obtain ⟨tb, htb⟩ : ∃ b, b = thereB l t k := ⟨_, rfl⟩
            rw [← htb] at HSTP ⊢
            clear htb
            cases tb with
            | true =>
              have HX := Lib.hid (show thereB l t (k + 1) = true by rw [HSTP.out]; rfl)
              go_wp2_with fail
              go_roundw
              case rel => exact ⟨k + 1, by rw [HX.out], by go_num, by omega, HMk.out⟩
              case measure => simp [intOf]; omega
            | false =>
              by_cases hx : x.id.val = t
              · have HX := Lib.hid (show thereB l t (k + 1) = true by rw [HSTP.out]; simp [hx])
                have hxb : (((x.id.val : Nat) : Int) == ((t : Nat) : Int)) = true := by rw [beq_iff_eq]; omega
                clear hx
                go_wp2_with fail
                go_roundw
                case rel => exact ⟨k + 1, by rw [HX.out], by go_num, by omega, HMk.out⟩
                case measure => simp [intOf]; omega
              · have HX := Lib.hid (show thereB l t (k + 1) = false by rw [HSTP.out]; simp [hx])
                have hxb : (((x.id.val : Nat) : Int) == ((t : Nat) : Int)) = false := by rw [beq_eq_false_iff_ne]; omega
                clear hx
                go_wp2_with fail
                go_roundw
                case rel => exact ⟨k + 1, by rw [HX.out], by go_num, by omega, HMk.out⟩
                case measure => simp [intOf]; omega
          · have k1 : ¬ (k : Int) < (l.length : Int) := by omega
            obtain rfl : k = l.length := by omega
            obtain ⟨tb, htb⟩ : ∃ b, b = thereB l t l.length := ⟨_, rfl⟩
            rw [← htb] at HTG ⊢
            clear htb
            have HEND := Lib.hid (HW.out.mods.trans HMk.out)
            cases tb with
            | true =>
              have hy : y3 = 0 := by have h := HTG.out; rw [if_pos rfl] at h; injection h with _ h; injection h
              subst hy
              go_wp2_with fail
              refine (HAW.out _).mono ?_
              rintro e w6 ⟨rfl, h6⟩
              have H6 := Lib.hid h6
              clear h6
              go_wp2_with fail
              go_ret
              exact ⟨rfl, HEND.out.trans H6.out⟩
            | false =>
              have hy : y2 = 0 ∧ y3 = 8 := by have h := HTG.out; rw [if_neg (by decide)] at h; injection h with _ h; injection h with h1 h2; exact ⟨h1, h2⟩
              obtain ⟨rfl, rfl⟩ := hy
              go_wp2_with fail
              refine (HAW.out _).mono ?_
              rintro e w6 ⟨rfl, h6⟩
              have H6 := Lib.hid h6
              clear h6
              go_wp2_with fail
              go_ret
              exact ⟨rfl, HEND.out.trans H6.out⟩
end Go.Proofs.Ytkdadnlleepkfaa
