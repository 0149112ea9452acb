/- slices.IndexFunc of sensors by their number: contracts. -/
import Derived.Test.YtijjkonephjodaaGreatDoorMoS
import Derived.Test.YtijjkonephjodaaGreatDoorJoAL
namespace Go.Proofs.YtijjkonephjodaaGreatDoor
open Go.RowKit
set_option linter.unusedVariables false
set_option linter.unusedSimpArgs false
def isNum (n : Nat) (x : SenX) : Bool := decide (x.S.number = n)
def numIdx (l : List SenX) (n : Nat) : Nat := l.findIdx (isNum n)
theorem numIdx_le (l : List SenX) (n : Nat) : numIdx l n ≤ l.length := List.findIdx_le_length
def findI (l : List SenX) (n : Nat) : Int := if numIdx l n = l.length then -1 else (numIdx l n : Nat)
set_option maxHeartbeats 400000 in
theorem find1_ok (w : World) (g : Nat) (S : Sen) (n : Nat) (hg : w.cell? ⟨g, 0, none⟩ = some (.int .u8 (n : Nat))) :
    Calls Tryz.prog 89 #[.agg S.cells, .pointer (some ⟨g, 0, none⟩)] w fun en w' => en = .returned (.bool (decide (S.number = n))) ∧ Mods [] w w' := by
  have M0 := Lib.hid ((Mods.refl (S := []) (w := w)).alloc (.cells S.cells 40))
  have c1 := M0.out.cell hg (by simp)
  have c0 := (SenBox.new w S).head.1
  have hd : (((S.number : Nat) : Int) == ((n : Nat) : Int)) = decide (S.number = n) := by
    rw [Bool.eq_iff_iff, beq_iff_eq, decide_eq_true_eq]; omega
  clear hg
  generalize decide (S.number = n) = b at hd ⊢
  go_enter Tryz.func89, Tryz.ntmps89
  go_wp2_with fail
  go_ret
  exact ⟨rfl, M0.out⟩
set_option maxHeartbeats 400000 in
theorem recover1_ok (w : World) (g : Nat) (S : Sen) (n : Nat) (hg : w.cell? ⟨g, 4, none⟩ = some (.int .u8 (n : Nat))) :
    Calls Tryz.prog 66 #[.agg S.cells, .pointer (some ⟨g, 0, none⟩)] w fun en w' => en = .returned (.bool (decide (S.number = n))) ∧ Mods [] w w' := by
  have M0 := Lib.hid ((Mods.refl (S := []) (w := w)).alloc (.cells S.cells 40))
  have c1 := M0.out.cell hg (by simp)
  have c0 := (SenBox.new w S).head.1
  have hd : (((S.number : Nat) : Int) == ((n : Nat) : Int)) = decide (S.number = n) := by
    rw [Bool.eq_iff_iff, beq_iff_eq, decide_eq_true_eq]; omega
  clear hg
  generalize decide (S.number = n) = b at hd ⊢
  go_enter Tryz.func66, Tryz.ntmps66
  go_wp2_with fail
  go_ret
  exact ⟨rfl, M0.out⟩
set_option maxRecDepth 100000 in
set_option maxHeartbeats 2000000 in
theorem idxFind_ok (w : World) (g : Nat) (l : List SenX) (n : Nat) (hg : w.cell? ⟨g, 0, none⟩ = some (.int .u8 (n : Nat))) (v : Value) (hv : RdE senE w v l) :
    Calls Tryz.prog 65 #[v, .func (.func 89) #[] #[.pointer (some ⟨g, 0, none⟩)]] w fun en w' => en = .returned (.int .i64 (findI l n)) ∧ Mods [] w w' := by
  obtain ⟨ad, cap, rfl⟩ := hv.len
  have HV := Lib.hid hv
  have HG := Lib.hid hg
  obtain ⟨K, hK⟩ : ∃ K, K = numIdx l n := ⟨_, rfl⟩
  have HB := Lib.hid (fun j (hj : j < K) => show decide ((l.getD j default).S.number = n) = false from by
    have hj2 : j < l.length := by have := numIdx_le l n; omega
    have := List.not_of_lt_findIdx (p := isNum n) (xs := l) (i := j) (by rw [hK] at hj; exact hj)
    rw [List.getD_eq_getElem?_getD, List.getElem?_eq_getElem hj2]
    simpa [isNum] using this)
  have HA := Lib.hid (fun (h : K < l.length) => show decide ((l.getD K default).S.number = n) = true from by
    have := List.findIdx_getElem (p := isNum n) (xs := l) (w := by rw [hK] at h; exact h)
    rw [List.getD_eq_getElem?_getD, List.getElem?_eq_getElem h]
    subst hK
    exact this)
  have hKl : K ≤ l.length := hK ▸ numIdx_le _ _
  have HI := Lib.hid (show findI l n = if K = l.length then -1 else (K : Int) by unfold findI; rw [← hK])
  generalize findI l n = V at HI ⊢
  have hcap : l.length ≤ 9223372036854775807 := by obtain ⟨_, _, he, h1, h2, _⟩ := hv; exact Nat.le_trans h1 h2
  clear hv hg hK
  go_enter Tryz.func65, Tryz.ntmps65
  go_wp2_with fail
  go_loopw [8] (fun i wr => ∃ k : Nat, k ≤ K ∧ i = .int .i64 k ∧ Mods [] w wr) (fun i _ => K - (intOf i).toNat)
  case atStart => exact ⟨0, Nat.zero_le _, rfl, Mods.refl⟩
  case round =>
    obtain ⟨k, hk, rfl, M⟩ := hrel
    have i0 : (0 : Int) ≤ (k : Int) := by omega
    by_cases hlt : k < l.length
    · have i1 : (k : Int) < (l.length : Int) := by omega
      obtain ⟨bb, off, cap', hv2, _, _, _⟩ := (HV.out.mods0 senOk M).at (by omega)
      injection hv2 with hv3 _ hv4
      subst hv3 hv4
      have HRG := Lib.hid ((HV.out.mods0 senOk M).range hlt senOk.len)
      have HBk := Lib.hid (HB.out k)
      have HAk := Lib.hid (fun h : k = K => show decide ((l.getD k default).S.number = n) = true from by rw [h]; exact HA.out (h ▸ hlt))
      have HM := Lib.hid M
      have HGk := Lib.hid (M.cell HG.out (by simp))
      change Hid (wr.rangeAt bb (off + k * 28) (l.getD k default).S.cells.toList) at HRG
      generalize (l.getD k default).S = S at HRG HBk HAk
      have BF := Lib.hid (find1_ok wr g S n HGk.out)
      clear M
      by_cases hkK : k < K
      · have HD := Lib.hid (HBk.out hkK)
        go_wp2_with (refine wpList_load_mid rfl 40 (.tmp 14) rfl bb (off + k * 28) (by rfl) S.cells.toList _ HRG.out Tryz.underlying40 rfl (Sen.infoS S) ?_)
        refine BF.out.mono ?_
        rw [HD.out]
        rintro en w2 ⟨rfl, M2⟩
        have HM2 := Lib.hid (HM.out.trans M2)
        clear M2
        go_wp2_with fail
        go_roundw
        case rel => exact ⟨k + 1, by omega, by go_num, HM2.out⟩
        case measure => simp [intOf]; omega
      · obtain rfl : k = K := by omega
        have HD := Lib.hid (HAk.out rfl)
        have HRES := Lib.hid (show V = (k : Int) by rw [HI.out, if_neg (by omega)])
        go_wp2_with (refine wpList_load_mid rfl 40 (.tmp 14) rfl bb (off + k * 28) (by rfl) S.cells.toList _ HRG.out Tryz.underlying40 rfl (Sen.infoS S) ?_)
        refine BF.out.mono ?_
        rw [HD.out]
        rintro en w2 ⟨rfl, M2⟩
        have HM2 := Lib.hid (HM.out.trans M2)
        clear M2
        go_wp2_with fail
        go_ret
        exact ⟨ret_int HRES.out.symm, HM2.out⟩
    · have HRES := Lib.hid (show V = -1 by rw [HI.out, if_pos (by omega)])
      have i1 : ¬ (k : Int) < (l.length : Int) := by omega
      go_wp2_with fail
      go_ret
      exact ⟨ret_int HRES.out.symm, M⟩
set_option maxRecDepth 100000 in
set_option maxHeartbeats 2000000 in
theorem idxRec_ok (w : World) (g : Nat) (l : List SenX) (n : Nat) (hg : w.cell? ⟨g, 4, none⟩ = some (.int .u8 (n : Nat))) (v : Value) (hv : RdE senE w v l) :
    Calls Tryz.prog 65 #[v, .func (.func 66) #[] #[.pointer (some ⟨g, 0, none⟩)]] w fun en w' => en = .returned (.int .i64 (findI l n)) ∧ Mods [] w w' := by
  obtain ⟨ad, cap, rfl⟩ := hv.len
  have HV := Lib.hid hv
  have HG := Lib.hid hg
  obtain ⟨K, hK⟩ : ∃ K, K = numIdx l n := ⟨_, rfl⟩
  have HB := Lib.hid (fun j (hj : j < K) => show decide ((l.getD j default).S.number = n) = false from by
    have hj2 : j < l.length := by have := numIdx_le l n; omega
    have := List.not_of_lt_findIdx (p := isNum n) (xs := l) (i := j) (by rw [hK] at hj; exact hj)
    rw [List.getD_eq_getElem?_getD, List.getElem?_eq_getElem hj2]
    simpa [isNum] using this)
  have HA := Lib.hid (fun (h : K < l.length) => show decide ((l.getD K default).S.number = n) = true from by
    have := List.findIdx_getElem (p := isNum n) (xs := l) (w := by rw [hK] at h; exact h)
    rw [List.getD_eq_getElem?_getD, List.getElem?_eq_getElem h]
    subst hK
    exact this)
  have hKl : K ≤ l.length := hK ▸ numIdx_le _ _
  have HI := Lib.hid (show findI l n = if K = l.length then -1 else (K : Int) by unfold findI; rw [← hK])
  generalize findI l n = V at HI ⊢
  have hcap : l.length ≤ 9223372036854775807 := by obtain ⟨_, _, he, h1, h2, _⟩ := hv; exact Nat.le_trans h1 h2
  clear hv hg hK
  go_enter Tryz.func65, Tryz.ntmps65
  go_wp2_with fail
  go_loopw [8] (fun i wr => ∃ k : Nat, k ≤ K ∧ i = .int .i64 k ∧ Mods [] w wr) (fun i _ => K - (intOf i).toNat)
  case atStart => exact ⟨0, Nat.zero_le _, rfl, Mods.refl⟩
  case round =>
    obtain ⟨k, hk, rfl, M⟩ := hrel
    have i0 : (0 : Int) ≤ (k : Int) := by omega
    by_cases hlt : k < l.length
    · have i1 : (k : Int) < (l.length : Int) := by omega
      obtain ⟨bb, off, cap', hv2, _, _, _⟩ := (HV.out.mods0 senOk M).at (by omega)
      injection hv2 with hv3 _ hv4
      subst hv3 hv4
      have HRG := Lib.hid ((HV.out.mods0 senOk M).range hlt senOk.len)
      have HBk := Lib.hid (HB.out k)
      have HAk := Lib.hid (fun h : k = K => show decide ((l.getD k default).S.number = n) = true from by rw [h]; exact HA.out (h ▸ hlt))
      have HM := Lib.hid M
      have HGk := Lib.hid (M.cell HG.out (by simp))
      change Hid (wr.rangeAt bb (off + k * 28) (l.getD k default).S.cells.toList) at HRG
      generalize (l.getD k default).S = S at HRG HBk HAk
      have BF := Lib.hid (recover1_ok wr g S n HGk.out)
      clear M
      by_cases hkK : k < K
      · have HD := Lib.hid (HBk.out hkK)
        go_wp2_with (refine wpList_load_mid rfl 40 (.tmp 14) rfl bb (off + k * 28) (by rfl) S.cells.toList _ HRG.out Tryz.underlying40 rfl (Sen.infoS S) ?_)
        refine BF.out.mono ?_
        rw [HD.out]
        rintro en w2 ⟨rfl, M2⟩
        have HM2 := Lib.hid (HM.out.trans M2)
        clear M2
        go_wp2_with fail
        go_roundw
        case rel => exact ⟨k + 1, by omega, by go_num, HM2.out⟩
        case measure => simp [intOf]; omega
      · obtain rfl : k = K := by omega
        have HD := Lib.hid (HAk.out rfl)
        have HRES := Lib.hid (show V = (k : Int) by rw [HI.out, if_neg (by omega)])
        go_wp2_with (refine wpList_load_mid rfl 40 (.tmp 14) rfl bb (off + k * 28) (by rfl) S.cells.toList _ HRG.out Tryz.underlying40 rfl (Sen.infoS S) ?_)
        refine BF.out.mono ?_
        rw [HD.out]
        rintro en w2 ⟨rfl, M2⟩
        have HM2 := Lib.hid (HM.out.trans M2)
        clear M2
        go_wp2_with fail
        go_ret
        exact ⟨ret_int HRES.out.symm, HM2.out⟩
    · have HRES := Lib.hid (show V = -1 by rw [HI.out, if_pos (by omega)])
      have i1 : ¬ (k : Int) < (l.length : Int) := by omega
      go_wp2_with fail
      go_ret
      exact ⟨ret_int HRES.out.symm, M⟩
end Go.Proofs.YtijjkonephjodaaGreatDoor
