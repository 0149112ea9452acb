/- ConvertBetween, ConvertSteps: the plain laws. -/
import Derived.Test.YtgjjmiaiclhidaaFormsP
namespace Go.Proofs.Ytgjjmiaiclhidaa

theorem asc_lt {sgn : Bool} {P : List Pt} (h : ∀ i, 0 < i → i < P.length → ptN sgn P (i - 1) < ptN sgn P i) {i j : Nat} (hij : i < j) (hj : j < P.length) : ptN sgn P i < ptN sgn P j := by
  obtain ⟨k, rfl⟩ : ∃ k, j = i + 1 + k := ⟨j - (i + 1), by omega⟩
  clear hij
  induction k with
  | zero => have := h (i + 1) (by omega) hj; simpa using this
  | succ k ih =>
    have h1 := ih (by omega)
    have h2 := h (i + 1 + (k + 1)) (by omega) hj
    rw [show i + 1 + (k + 1) - 1 = i + 1 + k by omega] at h2
    omega
theorem idx_at {sgn : Bool} {P : List Pt} (ht : tableB sgn P = true) {k : Nat} (hk : k < P.length) {x : Int} (h1 : x ≤ ptN sgn P k) (h2 : 0 < k → ptN sgn P (k - 1) < x) : idxP sgn P x = k := by
  obtain ⟨_, _, _, h4⟩ := tab_parts ht
  refine idxP_eq hk h1 fun j hj => ?_
  have a := h2 (by omega)
  rcases Nat.lt_or_ge j (k - 1) with h | h
  · have := asc_lt h4 h (by omega)
    show ptN sgn P j < x
    omega
  · obtain rfl : j = k - 1 := by omega
    exact a
theorem tabI_at {sgn : Bool} {P : List Pt} (ht : tableB sgn P = true) {k : Nat} (hk : k < P.length) : tabI sgn P (ptN sgn P k) = ptV P k := by
  obtain ⟨_, _, _, h4⟩ := tab_parts ht
  have e := idx_at ht hk (Int.le_refl _) (fun h => h4 k h hk)
  unfold tabI
  rw [e, if_neg (by omega), if_pos (.inr rfl)]
theorem tabI_mid {sgn : Bool} {P : List Pt} (ht : tableB sgn P = true) {k : Nat} (hk : k + 1 < P.length) {x : Int} (h1 : ptN sgn P k < x) (h2 : x < ptN sgn P (k + 1)) :
    tabI sgn P x = ptV P k + (ptV P (k + 1) - ptV P k) * (x - ptN sgn P k) / (ptN sgn P (k + 1) - ptN sgn P k) := by
  have e := idx_at ht hk (x := x) (by omega) (fun _ => by simpa using h1)
  unfold tabI
  rw [e, if_neg (by omega), if_neg (by omega), Nat.add_sub_cancel]
/-- A part of a difference lies between nothing and all of it. -/
theorem part_bd {e t d : Int} (h0 : 0 ≤ t) (h1 : t ≤ d) (hd : 0 < d) : (0 ≤ e → 0 ≤ e * t / d ∧ e * t / d ≤ e) ∧ (e ≤ 0 → e ≤ e * t / d ∧ e * t / d ≤ 0) := by
  refine ⟨fun he => ⟨?_, ?_⟩, fun he => ⟨?_, ?_⟩⟩
  · exact Int.ediv_nonneg (Int.mul_nonneg he h0) (by omega)
  · exact Int.ediv_le_of_le_mul hd (Int.mul_le_mul_of_nonneg_left h1 he)
  · rw [Int.le_ediv_iff_mul_le hd]
    have := Int.mul_le_mul_of_nonneg_left h1 (show 0 ≤ -e by omega)
    rw [Int.neg_mul, Int.neg_mul] at this
    omega
  · have : e * t ≤ 0 := Int.mul_nonpos_of_nonpos_of_nonneg he h0
    exact Int.ediv_le_of_le_mul hd (by omega)
theorem tabI_between {sgn : Bool} {P : List Pt} (ht : tableB sgn P = true) {k : Nat} (hk : k + 1 < P.length) {x : Int} (h1 : ptN sgn P k ≤ x) (h2 : x ≤ ptN sgn P (k + 1)) :
    min (ptV P k) (ptV P (k + 1)) ≤ tabI sgn P x ∧ tabI sgn P x ≤ max (ptV P k) (ptV P (k + 1)) := by
  rcases Int.lt_or_eq_of_le h1 with h1 | h1
  · rcases Int.lt_or_eq_of_le h2 with h2 | h2
    · rw [tabI_mid ht hk h1 h2]
      have := part_bd (e := ptV P (k + 1) - ptV P k) (t := x - ptN sgn P k) (d := ptN sgn P (k + 1) - ptN sgn P k) (by omega) (by omega) (by omega)
      omega
    · rw [h2, tabI_at ht hk]; omega
  · rw [← h1, tabI_at ht (by omega)]; omega
theorem valueI_tab {C : Conv} {P : List Pt} (h : convB C P = true) (hf : C.form = 5) (raw : Nat) : valueI C P raw = (tabI C.sgn P (numI C.sgn raw), 0) := by
  unfold valueI
  rw [if_pos h]
  unfold valI valN
  rw [if_pos hf]
theorem valueI_at {C : Conv} {P : List Pt} (h : convB C P = true) (hf : C.form = 5) {k : Nat} (hk : k < P.length) : valueI C P (P.getD k default).raw = (ptV P k, 0) := by
  rw [valueI_tab h hf]
  rw [show numI C.sgn (P.getD k default).raw = ptN C.sgn P k from rfl, tabI_at (convB_tab h hf) hk]
theorem linS_succ (C : Conv) (x : Int) : linS C (x + 1) = linS C x + C.m * tenI (6 + C.k2).toNat := by
  unfold linS
  rw [Int.mul_add, Int.add_mul, Int.mul_one]
  omega
theorem linS_zero (C : Conv) : linS C 0 = C.b * tenI (6 + C.k1 + C.k2).toNat := by
  unfold linS
  rw [Int.mul_zero, Int.zero_mul, Int.zero_add]
theorem clampI_open {x : Int} (h1 : clampI x ≠ 1000000000000) (h2 : clampI x ≠ -1000000000000) : clampI x = x := by unfold clampI at *; omega
end Go.Proofs.Ytgjjmiaiclhidaa
