/- The event log's small functions: contracts. -/
import Derived.Test.YtkdadnlleepkfaaLgPl
import Derived.Test.YtkdadnlleepkfaaEvt
namespace Go.Proofs.Ytkdadnlleepkfaa
open Go.RowKit
set_option linter.unusedVariables false
set_option linter.unusedSimpArgs false

set_option maxHeartbeats 400000 in
theorem slots_ok (w : World) (m : Nat) (h1 : 64 ≤ m) (h2 : m ≤ 1024) :
    Calls Try.prog 53 #[.int .i64 m] w fun e w' => e = .returned (.int .i64 (((m - 11) / 17 : Nat) : Int)) ∧ w = w' := by
  have e1 : ((m : Int) - 11).tdiv 17 = (((m - 11) / 17 : Nat) : Int) := by rw [Int.tdiv_eq_ediv_of_nonneg (by omega)]; omega
  go_enter Try.func53, Try.ntmps53
  go_wp2_with fail
  go_ret
  refine ⟨ret_int ?_, rfl⟩
  first | omega | (rw [← e1]) | (rw [e1])
set_option maxHeartbeats 400000 in
theorem capacity_ok (w : World) (s m : Nat) (s1 : 2 ≤ s) (s2 : s ≤ 16) (h1 : 64 ≤ m) (h2 : m ≤ 1024) :
    Calls Try.prog 20 #[.int .i64 s, .int .i64 m] w fun e w' => e = .returned (.tuple #[.int .i64 (((s - 1) * ((m - 11) / 17) : Nat) : Int), .int .i64 (((m - 11) / 17 : Nat) : Int), .int .i64 0]) ∧ w = w' := by
  have d1 : decide ((s : Int) < 2) = false := decide_eq_false (by omega)
  have d2 : decide ((s : Int) > 16) = false := decide_eq_false (by omega)
  have d3 : decide ((m : Int) < 64) = false := decide_eq_false (by omega)
  have d4 : decide ((m : Int) > 1024) = false := decide_eq_false (by omega)
  obtain ⟨K, hK⟩ : ∃ K, K = (m - 11) / 17 := ⟨_, rfl⟩
  have hK2 : K ≤ 100 := by omega
  have HS := Lib.hid (fun w => slots_ok w m h1 h2)
  rw [← hK] at HS ⊢
  have hm : (s - 1) * K ≤ 15 * 100 := Nat.mul_le_mul (by omega) hK2
  have e1 : ((s : Int) - 1) * (K : Int) = (((s - 1) * K : Nat) : Int) := by rw [Int.natCast_mul]; congr 1; omega
  have e2 : IntKind.i64.wrap (((s : Int) - 1) * (K : Int)) = (((s - 1) * K : Nat) : Int) := by rw [e1]; exact IntWalk.i64_in _ (by omega)
  have HE := Lib.hid e1
  clear hK e1 hm
  go_enter Try.func20, Try.ntmps20
  go_wp2_with fail
  refine (HS.out _).mono ?_
  rintro e w' ⟨rfl, rfl⟩
  go_wp2_with fail
  refine (HS.out _).mono ?_
  rintro e w' ⟨rfl, rfl⟩
  go_wp2_with fail
  go_ret3
  first
    | exact ⟨rfl, rfl⟩
    | (refine ⟨?_, rfl⟩; simp only [e2])
set_option maxHeartbeats 400000 in
theorem behind_ok (w : World) (id : Nat) (h : id ≤ 65534) :
    Calls Try.prog 56 #[.int .u16 id] w fun e w' => e = .returned (.int .u16 (behindN id : Nat)) ∧ w = w' := by
  by_cases h0 : id = 65534
  · subst h0
    go_enter Try.func56, Try.ntmps56
    go_wp2_with fail
    go_ret
    exact ⟨rfl, rfl⟩
  · have HR := Lib.hid (show behindN id = id + 1 from if_neg h0)
    have d0 : ((id : Int) == 65534) = false := by simpa using (show ¬ (id : Int) = 65534 by omega)
    have d1 : ¬ (id : Int) = 65534 := by omega
    have hw : IntKind.u16.wrap ((id : Int) + 1) = (id : Int) + 1 := by rw [IntKind.wrap_u16]; omega
    clear h0
    go_enter Try.func56, Try.ntmps56
    go_wp2_with fail
    go_ret
    refine ⟨ret_int ?_, rfl⟩
    rw [HR.out]
    first | omega | (rw [hw]; omega)
set_option maxHeartbeats 400000 in
theorem blank1_ok (w : World) (x : Int) :
    Calls Try.prog 102 #[.int .u8 x] w fun e w' => e = .returned (.bool (x != 255)) ∧ w = w' := by
  go_enter Try.func102, Try.ntmps102
  go_wp2_with fail
  go_ret
  exact ⟨rfl, rfl⟩
def blankL (A : List Int) : Bool := A.all fun x => decide (x = 255)
def fullIdx (A : List Int) : Nat := A.findIdx fun x => decide (x ≠ 255)
theorem fullIdx_blank (A : List Int) : (fullIdx A < A.length) ↔ blankL A = false := by
  unfold fullIdx blankL
  rw [List.findIdx_lt_length]
  constructor
  · rintro ⟨x, hx, h⟩
    cases hb : (A.all fun x => decide (x = 255)) with
    | false => rfl
    | true => have := List.all_eq_true.1 hb x hx; simp_all
  · intro h
    rw [List.all_eq_false] at h
    obtain ⟨x, hx, h⟩ := h
    exact ⟨x, hx, by simpa using h⟩
set_option maxRecDepth 100000 in
set_option maxHeartbeats 2000000 in
theorem idxB_ok (w : World) (A : List Int) (v : Value) (hv : Rd w v (u8s A)) :
    Calls Try.prog 104 #[v, .func (.func 102) #[] #[]] w fun en w' => en = .returned (.int .i64 (if fullIdx A = A.length then (-1 : Int) else ((fullIdx A : Nat) : Int))) ∧ Mods [] w w' := by
  obtain ⟨ad, cap, rfl, hcap1, hcap2, hc⟩ := hv.u8
  have hcap2 : cap ≤ 9223372036854775807 := hcap2
  obtain ⟨K, hK⟩ : ∃ K, K = fullIdx A := ⟨_, rfl⟩
  have hKl : K ≤ A.length := hK ▸ List.findIdx_le_length
  have HB := Lib.hid (fun j (hj : j < K) => show A.getD j 0 = 255 from by
    have hj2 : j < A.length := by omega
    have := List.not_of_lt_findIdx (p := fun x : Int => decide (x ≠ 255)) (xs := A) (i := j) (by rw [hK] at hj; exact hj)
    rw [List.getD_eq_getElem?_getD, List.getElem?_eq_getElem hj2]
    simpa using this)
  have HA := Lib.hid (fun (h : K < A.length) => show A.getD K 0 ≠ 255 from by
    have := List.findIdx_getElem (p := fun x : Int => decide (x ≠ 255)) (xs := A) (w := by rw [hK] at h; exact h)
    rw [List.getD_eq_getElem?_getD, List.getElem?_eq_getElem h]
    subst hK
    unfold fullIdx
    simpa using this)
  have HC := Lib.hid hc
  rw [← hK]
  clear hv hK hc
  go_enter Try.func104, Try.ntmps104
  go_wp2_with fail
  go_loopw [8] (fun i wr => ∃ k : Nat, k ≤ K ∧ i = .int .i64 k ∧ Mods [] w wr) (fun i _ => K - (intOf i).toNat)
  case atStart => exact ⟨0, Nat.zero_le _, rfl, Mods.refl⟩
  case round =>
    obtain ⟨k, hk, rfl, M⟩ := hrel
    have i0 : (0 : Int) ≤ (k : Int) := by omega
    have HM := Lib.hid M
    by_cases hlt : k < A.length
    · have i1 : (k : Int) < (A.length : Int) := by omega
      obtain ⟨bb, off, rfl, hx⟩ := HC.out k hlt
      have hx := M.cell hx (by simp)
      have HBk := Lib.hid (HB.out k)
      have HAk := Lib.hid (fun h : k = K => show A.getD k 0 ≠ 255 from by rw [h]; exact HA.out (h ▸ hlt))
      generalize A.getD k 0 = x at hx HBk HAk
      clear M
      by_cases hkK : k < K
      · obtain rfl : x = 255 := HBk.out hkK
        go_wp2_with fail
        refine (blank1_ok _ 255).mono ?_
        rintro e w' ⟨rfl, rfl⟩
        go_wp2_with fail
        go_roundw
        case rel => exact ⟨k + 1, by omega, by go_num, HM.out⟩
        case measure => simp [intOf]; omega
      · obtain rfl : k = K := by omega
        have hne : (x != 255) = true := by simpa using HAk.out rfl
        have hkl : k ≠ A.length := by omega
        have HRES := Lib.hid (show (if k = A.length then (-1 : Int) else (k : Int)) = k from if_neg hkl)
        go_wp2_with fail
        refine (blank1_ok _ x).mono ?_
        rintro e w' ⟨rfl, rfl⟩
        go_wp2_with fail
        go_ret
        exact ⟨by first | rfl | exact ret_int HRES.out.symm, HM.out⟩
    · have i1 : ¬ (k : Int) < (A.length : Int) := by omega
      have HRES := Lib.hid (show (if K = A.length then (-1 : Int) else (K : Int)) = -1 from if_pos (by omega))
      clear M
      go_wp2_with fail
      go_ret
      exact ⟨by first | rfl | exact ret_int HRES.out.symm, HM.out⟩
set_option maxHeartbeats 400000 in
theorem containsB_ok (w : World) (A : List Int) (v : Value) (hv : Rd w v (u8s A)) :
    Calls Try.prog 101 #[v, .func (.func 102) #[] #[]] w fun en w' => en = .returned (.bool (!blankL A)) ∧ Mods [] w w' := by
  have HR := Lib.hid (show decide ((if fullIdx A = A.length then (-1 : Int) else ((fullIdx A : Nat) : Int)) ≥ 0) = !blankL A by
    have h1 := fullIdx_blank A
    have h2 : fullIdx A ≤ A.length := List.findIdx_le_length
    cases hb : blankL A with
    | true => rw [if_pos (by rw [hb] at h1; simp at h1; omega)]; rfl
    | false => rw [if_neg (by have := h1.2 hb; omega)]; simp)
  have HI := Lib.hid (idxB_ok w A v hv)
  generalize (if fullIdx A = A.length then (-1 : Int) else ((fullIdx A : Nat) : Int)) = i at HR HI
  go_enter Try.func101, Try.ntmps101
  go_wp2_with fail
  refine HI.out.mono ?_
  rintro e w' ⟨rfl, M⟩
  have HM := Lib.hid M
  clear M
  go_wp2_with fail
  go_ret
  exact ⟨ret_bool HR.out, HM.out⟩
set_option maxHeartbeats 400000 in
theorem blank_ok (w : World) (A : List Int) (v : Value) (hv : Rd w v (u8s A)) :
    Calls Try.prog 84 #[v] w fun en w' => en = .returned (.bool (blankL A)) ∧ Mods [] w w' := by
  have HI := Lib.hid (containsB_ok w A v hv)
  go_enter Try.func84, Try.ntmps84
  go_wp2_with fail
  refine HI.out.mono ?_
  rintro e w' ⟨rfl, M⟩
  have HM := Lib.hid M
  clear M
  go_wp2_with fail
  go_ret
  exact ⟨ret_bool (by simp), HM.out⟩
end Go.Proofs.Ytkdadnlleepkfaa
