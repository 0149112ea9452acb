/- What a scan of a monitor gives, plain; slices.IndexFunc of samples. -/
import Derived.Test.YtijjkonephjodaaGreatDoorMoStP
import Derived.Test.YtijjkonephjodaaGreatDoorJoAK
import Derived.Test.YtijjkonephjodaaGreatDoorJoAE
namespace Go.Proofs.YtijjkonephjodaaGreatDoor
open Go.RowKit
set_option linter.unusedVariables false
set_option linter.unusedSimpArgs false
def isNumX (n : Nat) (x : Smp) : Bool := decide (x.num.val = n)
def smpIdx (l : List Smp) (n : Nat) : Nat := l.findIdx (isNumX n)
theorem smpIdx_le (l : List Smp) (n : Nat) : smpIdx l n ≤ l.length := List.findIdx_le_length
def findX (l : List Smp) (n : Nat) : Int := if smpIdx l n = l.length then -1 else (smpIdx l n : Nat)
set_option maxHeartbeats 400000 in
theorem scan1_ok (w : World) (g : Nat) (x : Smp) (n : Nat) (hg : w.cell? ⟨g, 0, none⟩ = some (.int .u8 (n : Nat))) :
    Calls Tryz.prog 51 #[.agg x.cells.toArray, .pointer (some ⟨g, 0, none⟩)] w fun en w' => en = .returned (.bool (decide (x.num.val = n))) ∧ Mods [] w w' := by
  have M0 := Lib.hid ((Mods.refl (S := []) (w := w)).alloc (.cells x.cells.toArray 103))
  have c1 := M0.out.cell hg (by simp)
  have c0 := (cell_blk (heap_alloc_new w (.cells x.cells.toArray 103)) 0).trans (show _ = some (.int .u8 ((x.num.val : Nat) : Int)) from rfl)
  have hd : (((x.num.val : Nat) : Int) == ((n : Nat) : Int)) = decide (x.num.val = n) := by
    rw [Bool.eq_iff_iff, beq_iff_eq, decide_eq_true_eq]; omega
  clear hg
  generalize decide (x.num.val = n) = b at hd ⊢
  go_enter Tryz.func51, Tryz.ntmps51
  go_wp2_with fail
  go_ret
  exact ⟨rfl, M0.out⟩
set_option maxRecDepth 100000 in
set_option maxHeartbeats 2000000 in
theorem idxScan_ok (w : World) (g : Nat) (l : List Smp) (n : Nat) (hg : w.cell? ⟨g, 0, none⟩ = some (.int .u8 (n : Nat))) (v : Value) (hv : RdE smpE w v l) :
    Calls Tryz.prog 50 #[v, .func (.func 51) #[] #[.pointer (some ⟨g, 0, none⟩)]] w fun en w' => en = .returned (.int .i64 (findX l n)) ∧ Mods [] w w' := by
  obtain ⟨ad, cap, rfl⟩ := hv.len
  have HV := Lib.hid hv
  have HG := Lib.hid hg
  obtain ⟨K, hK⟩ : ∃ K, K = smpIdx l n := ⟨_, rfl⟩
  have HB := Lib.hid (fun j (hj : j < K) => show decide ((l.getD j default).num.val = n) = false from by
    have hj2 : j < l.length := by have := smpIdx_le l n; omega
    have := List.not_of_lt_findIdx (p := isNumX n) (xs := l) (i := j) (by rw [hK] at hj; exact hj)
    rw [List.getD_eq_getElem?_getD, List.getElem?_eq_getElem hj2]
    simpa [isNumX] using this)
  have HA := Lib.hid (fun (h : K < l.length) => show decide ((l.getD K default).num.val = n) = true from by
    have := List.findIdx_getElem (p := isNumX n) (xs := l) (w := by rw [hK] at h; exact h)
    rw [List.getD_eq_getElem?_getD, List.getElem?_eq_getElem h]
    subst hK
    exact this)
  have hKl : K ≤ l.length := hK ▸ smpIdx_le _ _
  have HI := Lib.hid (show findX l n = if K = l.length then -1 else (K : Int) by unfold findX; rw [← hK])
  generalize findX l n = V at HI ⊢
  have hcap : l.length ≤ 9223372036854775807 := by obtain ⟨_, _, he, h1, h2, _⟩ := hv; exact Nat.le_trans h1 h2
  clear hv hg hK
  go_enter Tryz.func50, Tryz.ntmps50
  go_wp2_with fail
  go_loopw [8] (fun i wr => ∃ k : Nat, k ≤ K ∧ i = .int .i64 k ∧ Mods [] w wr) (fun i _ => K - (intOf i).toNat)
  case atStart => exact ⟨0, Nat.zero_le _, rfl, Mods.refl⟩
  case round =>
    obtain ⟨k, hk, rfl, M⟩ := hrel
    have i0 : (0 : Int) ≤ (k : Int) := by omega
    by_cases hlt : k < l.length
    · have i1 : (k : Int) < (l.length : Int) := by omega
      obtain ⟨bb, off, cap', hv2, _, _, _⟩ := (HV.out.mods0 smpOk M).at (by omega)
      injection hv2 with hv3 _ hv4
      subst hv3 hv4
      have HRG := Lib.hid ((HV.out.mods0 smpOk M).range hlt smpOk.len)
      have HBk := Lib.hid (HB.out k)
      have HAk := Lib.hid (fun h : k = K => show decide ((l.getD k default).num.val = n) = true from by rw [h]; exact HA.out (h ▸ hlt))
      have HM := Lib.hid M
      have HGk := Lib.hid (M.cell HG.out (by simp))
      change Hid (wr.rangeAt bb (off + k * 4) (l.getD k default).cells) at HRG
      generalize (l.getD k default) = S at HRG HBk HAk
      have BF := Lib.hid (scan1_ok wr g S n HGk.out)
      clear M
      by_cases hkK : k < K
      · have HD := Lib.hid (HBk.out hkK)
        go_wp2_with (refine wpList_load_mid rfl 103 (.tmp 14) rfl bb (off + k * 4) (by rfl) S.cells _ HRG.out Tryz.underlying103 rfl Tryz.sizeSm ?_)
        refine BF.out.mono ?_
        rw [HD.out]
        rintro en w2 ⟨rfl, M2⟩
        have HM2 := Lib.hid (HM.out.trans M2)
        clear M2
        go_wp2_with fail
        go_roundw
        case rel => exact ⟨k + 1, by omega, by go_num, HM2.out⟩
        case measure => simp [intOf]; omega
      · obtain rfl : k = K := by omega
        have HD := Lib.hid (HAk.out rfl)
        have HRES := Lib.hid (show V = (k : Int) by rw [HI.out, if_neg (by omega)])
        go_wp2_with (refine wpList_load_mid rfl 103 (.tmp 14) rfl bb (off + k * 4) (by rfl) S.cells _ HRG.out Tryz.underlying103 rfl Tryz.sizeSm ?_)
        refine BF.out.mono ?_
        rw [HD.out]
        rintro en w2 ⟨rfl, M2⟩
        have HM2 := Lib.hid (HM.out.trans M2)
        clear M2
        go_wp2_with fail
        go_ret
        exact ⟨ret_int HRES.out.symm, HM2.out⟩
    · have HRES := Lib.hid (show V = -1 by rw [HI.out, if_pos (by omega)])
      have i1 : ¬ (k : Int) < (l.length : Int) := by omega
      go_wp2_with fail
      go_ret
      exact ⟨ret_int HRES.out.symm, M⟩
/-- The entity of a sensor. -/
def entS (S : Sen) : Ent := ⟨f8 S.eid, f8 S.einst⟩
theorem entS_cells {w : World} {S : Sen} {P : List Pt} (h : IsSen w S P) : (entS S).cells = [.int .u8 ((S.eid : Nat) : Int), .int .u8 ((S.einst : Nat) : Int)] := by
  have h1 := h.eid
  have h2 := h.einst
  unfold entS Ent.cells f8
  simp only [Nat.mod_eq_of_lt h1, Nat.mod_eq_of_lt h2]
/-- The sample of a sensor. -/
def pickX (X : List Smp) (n : Nat) : Smp := if smpIdx X n < X.length then X.getD (smpIdx X n) default else ⟨f8 n, false, f8 0, f16 0⟩
/-- Whether a sensor is scanned. -/
def onB (A : List Asc) (ab : List Ent) (host : Bool) (S : Sen) : Bool := presR A ab (entS S) && (!S.host || host)
/-- What a scan makes of one sensor: the events, the filter, the state. -/
noncomputable def scan1 (A : List Asc) (ab : List Ent) (host : Bool) (X : List Smp) (S : Sen) (P : List Pt) (W : List Int) (n : Int) (s : Nat) : List Evt × (List Int × Int) × Nat :=
  if onB A ab host S then (evsM S (stepR S P W n s (pickX X S.number)).1 (stepR S P W n s (pickX X S.number)).2.1.toNat, (stepR S P W n s (pickX X S.number)).2.2.1, (stepR S P W n s (pickX X S.number)).2.2.2) else ([], ([], 0), s)
/-- What a scan makes of the sensor at a place. -/
noncomputable def scanAt (A : List Asc) (ab : List Ent) (host : Bool) (X : List Smp) (l : List SenX) (F : List FltX) (st : List Nat) (i : Nat) : List Evt × (List Int × Int) × Nat :=
  scan1 A ab host X (l.getD i default).S (l.getD i default).P (F.getD i default).W (F.getD i default).n (st.getD i 0)
/-- The events of the first sensors. -/
noncomputable def scanE (A : List Asc) (ab : List Ent) (host : Bool) (X : List Smp) (l : List SenX) (F : List FltX) (st : List Nat) : Nat → List Evt
  | 0 => []
  | k + 1 => scanE A ab host X l F st k ++ (scanAt A ab host X l F st k).1
theorem chL_in (a b k : Nat) (i : Nat) (hi : i < (chL a b k).length) : 0 ≤ ((chL a b k).getD i default).idx ∧ ((chL a b k).getD i default).idx < k := by
  rw [List.getD_eq_getElem?_getD, List.getElem?_eq_getElem hi]
  exact chL_idx a b k _ (List.getElem_mem hi)
theorem stepR_in {S : Sen} {P : List Pt} {W : List Int} {n : Int} {s : Nat} {x : Smp} : ChgIn9 S (stepR S P W n s x).1 ∧ (stepR S P W n s x).1.length ≤ 15 := by
  unfold stepR ChgIn9
  cases hd : S.disc with
  | true =>
    simp only [if_true]
    split
    · unfold dstepN
      split
      · split
        · exact ⟨fun i hi => by have := chL_in _ _ _ i hi; omega, chL_length _ _ _⟩
        · exact ⟨fun i hi => by simp at hi, by simp⟩
      · exact ⟨fun i hi => by simp at hi, by simp⟩
    · exact ⟨fun i hi => by simp at hi, by simp⟩
  | false =>
    simp only [if_false, Bool.false_eq_true]
    split
    · unfold stepN
      split
      · split
        · exact ⟨fun i hi => by have := chL_in _ _ _ i hi; simp only at this ⊢; omega, Nat.le_trans (chL_length _ _ _) (by omega)⟩
        · exact ⟨fun i hi => by simp at hi, by simp⟩
      · exact ⟨fun i hi => by simp at hi, by simp⟩
    · exact ⟨fun i hi => by simp at hi, by simp⟩
theorem evsM_len9 (S : Sen) (L : List Chg) (r : Nat) : (evsM S L r).length ≤ L.length := by
  unfold evsM
  rw [List.length_map]
  exact List.length_filter_le _ _
theorem scan1_len {A : List Asc} {ab : List Ent} {host : Bool} {X : List Smp} {S : Sen} {P : List Pt} {W : List Int} {n : Int} {s : Nat} : (scan1 A ab host X S P W n s).1.length ≤ 15 := by
  unfold scan1
  split
  · exact Nat.le_trans (evsM_len9 _ _ _) stepR_in.2
  · simp
theorem scanE_len {A : List Asc} {ab : List Ent} {host : Bool} {X : List Smp} {l : List SenX} {F : List FltX} {st : List Nat} : ∀ k, (scanE A ab host X l F st k).length ≤ k * 15
  | 0 => by simp [scanE]
  | k + 1 => by
    rw [scanE, List.length_append, Nat.succ_mul]
    exact Nat.add_le_add (scanE_len k) scan1_len
end Go.Proofs.YtijjkonephjodaaGreatDoor
