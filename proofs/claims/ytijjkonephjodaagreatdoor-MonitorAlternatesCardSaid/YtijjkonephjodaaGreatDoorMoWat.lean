/- Sensors whose changes all create events: law16's watched: a contract. -/
import Derived.Test.YtijjkonephjodaaGreatDoorMoMade
import Derived.Test.YtijjkonephjodaaGreatDoorMoNewP
namespace Go.Proofs.YtijjkonephjodaaGreatDoor
open Go.RowKit
set_option linter.unusedVariables false
set_option linter.unusedSimpArgs false
set_option maxRecDepth 100000
def watA (x : SenX) (n : Nat) : SenX := ⟨{ x.S with asrt := n }, x.P, x.one⟩
def watD (x : SenX) (n : Nat) : SenX := ⟨{ x.S with deas := n }, x.P, x.one⟩
def watX (x : SenX) : SenX := watD (watA x (bitN x.S)) (bitN x.S)
theorem and_self_not {n : Nat} (h : n ≤ 65535) : (n ||| n) &&& (65535 - n) = 0 := by
  refine Nat.eq_of_testBit_eq fun i => ?_
  rw [show 65535 - n = 2 ^ 16 - (n + 1) by omega, Nat.testBit_and, Nat.testBit_or, Nat.testBit_two_pow_sub_succ (by omega), Nat.zero_testBit]
  cases n.testBit i <;> simp
theorem watX_valid {x : SenX} (h : validB x.S x.P = true) : validB (watX x).S (watX x).P = true := by
  unfold validB at h ⊢
  cases hd : x.S.disc with
  | true =>
    rw [hd, if_pos rfl] at h
    have e : (watX x).S.disc = true := hd
    rw [e, if_pos rfl]
    rw [Bool.and_eq_true] at h ⊢
    refine ⟨h.1, ?_⟩
    have h2 := h.2
    unfold discB at h2 ⊢
    rw [Bool.and_eq_true] at h2 ⊢
    refine ⟨h2.1, ?_⟩
    have hs : x.S.states ≤ 32767 := by
      have h3 := h2.1
      simp only [Bool.and_eq_true, decide_eq_true_eq] at h3
      exact h3.2.2
    rw [decide_eq_true_eq]
    show (bitN x.S ||| bitN x.S) &&& (65535 - x.S.states) = 0
    have hb : bitN x.S = x.S.states := by unfold bitN; rw [hd]; rfl
    rw [hb]
    exact and_self_not (by omega)
  | false =>
    rw [hd, if_neg (by simp)] at h
    have e : (watX x).S.disc = false := hd
    rw [e, if_neg (by simp)]
    rw [Bool.and_eq_true] at h ⊢
    refine ⟨h.1, ?_⟩
    have h2 := h.2
    unfold analogB at h2 ⊢
    simp only [Bool.and_eq_true, decide_eq_true_eq] at h2 ⊢
    obtain ⟨⟨⟨⟨⟨a1, a2⟩, a3⟩, a4⟩, a5⟩, a6⟩ := h2
    refine ⟨⟨⟨⟨⟨a1, a2⟩, a3⟩, ?_⟩, a5⟩, a6⟩
    show (bitN x.S ||| bitN x.S) &&& (65535 - x.S.mask) = 0
    have hb : bitN x.S = x.S.mask := by unfold bitN; rw [hd]; rfl
    rw [hb]
    exact and_self_not (by omega)
theorem watX_is {w : World} {x : SenX} (h : IsSen w x.S x.P) : IsSen w (watX x).S (watX x).P :=
  { h with asrt := bitN_lt h, deas := bitN_lt h }
/-- All changes create events. -/
def Wat (x : SenX) : Prop := x.S.asrt = bitN x.S ∧ x.S.deas = bitN x.S
theorem watX_wat (x : SenX) : Wat (watX x) := ⟨rfl, rfl⟩
theorem setX_getD {l : List SenX} {k : Nat} (hk : k < l.length) (x : SenX) (j : Nat) : (l.set k x).getD j default = if j = k then x else l.getD j default := by
  rw [List.getD_eq_getElem?_getD, List.getElem?_set]
  by_cases hjk : k = j
  · subst hjk; rw [if_pos rfl, if_pos hk, if_pos rfl]; rfl
  · rw [if_neg hjk, if_neg (fun h => hjk h.symm), List.getD_eq_getElem?_getD]
theorem goodAll_wat {l : List SenX} (h : goodAll l) {k : Nat} (hk : k < l.length) : goodAll (l.set k (watX (l.getD k default))) := by
  intro i hi
  rw [List.length_set] at hi
  have hn : ∀ j, numS (l.set k (watX (l.getD k default))) j = numS l j := fun j => by
    unfold numS
    rw [setX_getD hk]
    split
    · rename_i hj; rw [hj]; rfl
    · rfl
  have h1 := h i hi
  unfold goodS at h1 ⊢
  rw [hn, hn, setX_getD hk]
  split
  · rename_i hik
    subst hik
    rw [Bool.and_eq_true] at h1 ⊢
    exact ⟨watX_valid h1.1, h1.2⟩
  · exact h1
/-- Some sensors of the dice, all of whose changes create events. -/
def MadeWat (w : World) (b : Nat) (v : Value) (L : List Int) (en : Ending) (w' : World) : Prop :=
  ∃ u A k, en = .returned u ∧ OwnE senE w' w.heap.size u A ∧ A.length ≤ 5 ∧ goodAll A ∧ (∀ i, i < A.length → PtsAt w' w.heap.size u (A.getD i default)) ∧ (∀ i, i < A.length → Wat (A.getD i default)) ∧ IsDice w' b v L k ∧ Mods [b] w w'
def MkWat (w : World) (b : Nat) (v : Value) (L : List Int) (u : Value) (n k : Nat) (wr : World) : Prop :=
  ∃ A j, A.length = n ∧ OwnE senE wr w.heap.size u A ∧ goodAll A ∧ (∀ i, i < A.length → PtsAt wr w.heap.size u (A.getD i default)) ∧ (∀ i, i < k → Wat (A.getD i default)) ∧ IsDice wr b v L j ∧ Mods [b] w wr
theorem OwnE.blkS {w : World} {B g n cap : Nat} {l : List SenX} (h : OwnE senE w B (.slice (some ⟨g, 0, none⟩) n cap) l) : ∃ cur, w.heap[g]? = some (.cells cur 40 (0, 0)) := by
  rcases h.2 with ⟨h0, _⟩ | ⟨g', cap', cur, hv, hb, hg, _⟩
  · cases h0
  · injection hv with e1 _ _
    injection e1 with e1
    injection e1 with e1 _ _
    subst e1
    exact ⟨cur, hg⟩
/-- Both masks of one sensor are written. -/
theorem OwnE.wat {w : World} {B g cap : Nat} {l : List SenX} (h : OwnE senE w B (.slice (some ⟨g, 0, none⟩) l.length cap) l) {k : Nat} (hk : k < l.length) :
    OwnE senE ((w.setCell ⟨g, k * 28 + 24, none⟩ (.int .u16 ((bitN (l.getD k default).S : Nat) : Int))).setCell ⟨g, k * 28 + 25, none⟩ (.int .u16 ((bitN (l.getD k default).S : Nat) : Int))) B (.slice (some ⟨g, 0, none⟩) l.length cap) (l.set k (watX (l.getD k default))) := by
  have h1 := OwnE.put senOk h (i := k) (j := 24) (u := .int .u16 ((bitN (l.getD k default).S : Nat) : Int)) (a := watA (l.getD k default) (bitN (l.getD k default).S)) hk (by decide) (fun d => by
    have : l.getD k d = l.getD k default := by rw [List.getD_eq_getElem?_getD, List.getD_eq_getElem?_getD, List.getElem?_eq_getElem hk]; rfl
    rw [this]; rfl)
  have hk2 : k < (l.set k (watA (l.getD k default) (bitN (l.getD k default).S))).length := by rw [List.length_set]; exact hk
  have h2 := OwnE.put senOk h1 (i := k) (j := 25) (u := .int .u16 ((bitN (l.getD k default).S : Nat) : Int)) (a := watX (l.getD k default)) hk2 (by decide) (fun d => by
    have : (l.set k (watA (l.getD k default) (bitN (l.getD k default).S))).getD k d = watA (l.getD k default) (bitN (l.getD k default).S) := by
      rw [List.getD_eq_getElem?_getD, List.getElem?_set_self hk]; rfl
    rw [this]; rfl)
  rw [List.set_set] at h2
  rw [List.length_set] at h2
  exact h2
set_option maxHeartbeats 8000000 in
theorem watched_ok (w : World) (b : Nat) (v : Value) (L : List Int) (j : Nat) (h : IsDice w b v L j) :
    Calls Tryz.prog 13 #[.pointer (some ⟨b, 0, none⟩)] w fun en w' => MadeWat w b v L en w' := by
  have H := Lib.hid h
  have HOL := Lib.hid h.old
  have HBL := Lib.hid h.lt
  clear h
  go_enter Tryz.func13, Tryz.ntmps13
  go_wp2_with fail
  refine (sensors_ok w b v L j H.out 5 (by omega)).mono ?_
  rintro e w1 ⟨u, A, j1, rfl, O1, hA5, hG, hP, D1, M1⟩
  obtain ⟨au, cu, rfl⟩ := (O1.rd senOk).len
  have HST := Lib.hid (show MkWat w b v L (.slice au A.length cu) A.length 0 w1 from ⟨A, j1, rfl, O1, hG, hP, fun i hi => by omega, D1, M1⟩)
  have HA5 := Lib.hid hA5
  generalize A.length = n at HST HA5 ⊢
  have n5 : (n : Int) ≤ 5 := by have := HA5.out; omega
  clear O1 hA5 hG hP D1 M1
  go_wp2_with fail
  go_loopw [4] (fun i wr => ∃ k : Nat, k ≤ n ∧ i = .int .i64 (k : Nat) ∧ Hid (MkWat w b v L (.slice au n cu) n k wr)) (fun i _ => n - (intOf i).toNat)
  case atStart => exact ⟨0, Nat.zero_le _, rfl, HST⟩
  clear HST
  case round =>
    obtain ⟨k, hk, rfl, HK⟩ := hrel
    have i0 : (0 : Int) ≤ (k : Int) := by omega
    by_cases hlt : k < n
    · have i1 : (k : Int) < (n : Int) := by omega
      obtain ⟨A, j2, rfl, O2, hG, hP, hW, D2, M2⟩ := HK.out
      obtain ⟨g, cap', hv2, hg1, hg2, hg3, hg4⟩ := O2.form (by omega)
      injection hv2 with hv3 _ hv4
      subst hv3 hv4
      obtain ⟨cur, hcur⟩ := O2.blkS
      have hr := (O2.rd senOk).range (i := k) hlt senOk.len
      rw [Nat.zero_add] at hr
      have HRG := Lib.hid (show wr.rangeAt g (k * 28) (A.getD k default).S.cells.toList from hr)
      have HIS := Lib.hid (hP k hlt).is
      have HO3 := Lib.hid (O2.wat hlt)
      have HB16 := Lib.hid (bitN_lt HIS.out)
      have HBN := Lib.hid (show bitN (A.getD k default).S = if (A.getD k default).S.disc then (A.getD k default).S.states else (A.getD k default).S.mask from rfl)
      have HMK := Lib.hid HIS.out.mask
      have HREL := Lib.hid (show ∀ W, OwnE senE W w.heap.size (.slice (some ⟨g, 0, none⟩) A.length cu) (A.set k (watX (A.getD k default))) → Mods [g] wr W → MkWat w b v L (.slice (some ⟨g, 0, none⟩) A.length cu) A.length (k + 1) W from fun W hO M => by
        have hgb : b ≠ g := by have := HBL.out; omega
        refine ⟨A.set k (watX (A.getD k default)), j2, List.length_set, hO, goodAll_wat hG hlt, fun i hi => ?_, fun i hi => ?_, D2.mods M (by simpa using hgb) (fun hl q hq => by have := HOL.out hl q hq; simp; omega), M2.comp M (fun q hq => by simp at hq; subst hq; exact .inr hg1)⟩
        · rw [List.length_set] at hi
          have key : ∀ i, i < A.length → PtsAt W w.heap.size (.slice (some ⟨g, 0, none⟩) A.length cu) (A.getD i default) := fun i hi => by
            have h := hP i hi
            refine ⟨h.is.mods M (fun _ q hq => by have := (h.pts q hq).2.2; simp; exact fun e => this (by rw [e]; rfl)), fun q hq => ⟨(h.pts q hq).1, Nat.lt_of_lt_of_le (h.pts q hq).2.1 M.size, (h.pts q hq).2.2⟩⟩
          rw [setX_getD hlt]
          split
          · have h := key k hlt
            exact ⟨watX_is h.is, h.pts⟩
          · exact key i hi
        · rw [setX_getD hlt]
          split
          · exact watX_wat _
          · exact hW i (by omega))
      clear hG hP hW D2 M2 O2 hg2 hr HK
      generalize watX (A.getD k default) = X at HO3 HREL
      generalize (A.getD k default).P = P at HIS
      generalize (A.getD k default).S = S at HRG HIS HO3 HB16 HBN HMK
      have c6 := HRG.out 6 (.bool S.disc) rfl
      have c14 := HRG.out 14 (.int .u8 ((S.mask : Nat) : Int)) rfl
      have c23 := HRG.out 23 (.int .u16 ((S.states : Nat) : Int)) rfl
      have c24 := HRG.out 24 (.int .u16 ((S.asrt : Nat) : Int)) rfl
      have c25 := HRG.out 25 (.int .u16 ((S.deas : Nat) : Int)) rfl
      have f24 := froz_blk hcur (k * 28 + 24)
      generalize bitN S = bn at HO3 HB16 HBN
      have hM3 : Mods [g] wr ((wr.setCell ⟨g, k * 28 + 24, none⟩ (.int .u16 ((bn : Nat) : Int))).setCell ⟨g, k * 28 + 25, none⟩ (.int .u16 ((bn : Nat) : Int))) := ((Mods.refl (S := [g])).setCell (.inl (by simp)) _).setCell (.inl (by simp)) _
      have HNX := Lib.hid (HREL.out _ HO3.out hM3)
      have hc2 := heap_setCell (i := k * 28 + 24) (v := .int .u16 ((bn : Nat) : Int)) hcur
      have f25 := froz_blk hc2 (k * 28 + 25)
      have d25 : (wr.setCell ⟨g, k * 28 + 24, none⟩ (.int .u16 ((bn : Nat) : Int))).cell? ⟨g, k * 28 + 25, none⟩ = some (.int .u16 ((S.deas : Nat) : Int)) := by
        rw [cell_blk hc2, Array.getElem?_setIfInBounds_ne (by omega), ← cell_blk hcur]
        exact c25
      clear hM3 HREL HO3 hcur hc2 c25
      have hw16 : IntKind.u16.wrap ((S.mask : Nat) : Int) = ((S.mask : Nat) : Int) := by rw [IntKind.wrap_u16]; have := HMK.out; omega
      cases hd : S.disc with
      | true =>
        rw [hd] at c6
        have e : bn = S.states := by rw [HBN.out, hd]; rfl
        rw [← e] at c23
        clear e hd
        go_wp2_with fail
        go_roundw
        case rel => exact ⟨k + 1, by omega, by go_num, HNX⟩
        case measure => simp [intOf]; omega
      | false =>
        rw [hd] at c6
        have e : bn = S.mask := by rw [HBN.out, hd]; rfl
        rw [← e] at c14 hw16
        clear e hd
        go_wp2_with fail
        go_roundw
        case rel => exact ⟨k + 1, by omega, by go_num, HNX⟩
        case measure => simp [intOf]; omega
    · have i1 : ¬ (k : Int) < (n : Int) := by omega
      have hkl : k = n := by omega
      subst hkl
      obtain ⟨A, j2, hl, O2, hG, hP, hW, D2, M2⟩ := HK.out
      go_wp2_with fail
      go_ret
      exact ⟨_, A, j2, rfl, O2, by have := HA5.out; omega, hG, hP, fun i hi => hW i (by omega), D2, M2⟩
end Go.Proofs.YtijjkonephjodaaGreatDoor
