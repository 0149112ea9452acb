/- The values of raw readings, as plain data. No program stands here. -/
import Derived.Test.YtgjjmiaiclhidaaFix
namespace Go.Proofs.Ytgjjmiaiclhidaa

def tenI (k : Nat) : Int := ((10 ^ k : Nat) : Int)
theorem tenI_succ (k : Nat) : tenI (k + 1) = 10 * tenI k := by unfold tenI; rw [Nat.pow_succ]; omega
theorem tenI_pos (k : Nat) : 1 ≤ tenI k := by unfold tenI; have := Nat.pow_pos (a := 10) (n := k) (by omega); omega
theorem tenI_le {j k : Nat} (h : j ≤ k) : tenI j ≤ tenI k := by unfold tenI; have := Nat.pow_le_pow_right (show 0 < 10 by omega) h; omega
theorem tenI_add (j k : Nat) : tenI (j + k) = tenI j * tenI k := by unfold tenI; rw [Nat.pow_add, Int.natCast_mul]
/-- The linear value of a number. -/
def linS (C : Conv) (x : Int) : Int := C.m * x * tenI (6 + C.k2).toNat + C.b * tenI (6 + C.k1 + C.k2).toNat
def linI (C : Conv) (x : Int) : Int := clampI (linS C x)
/-- The first point at or behind a number. -/
def idxP (sgn : Bool) (P : List Pt) (x : Int) : Nat := P.findIdx fun p => decide (x ≤ numI sgn p.raw)
theorem getD_at {P : List Pt} {k : Nat} (h : k < P.length) : P.getD k default = P[k] := by
  rw [List.getD_eq_getElem?_getD, List.getElem?_eq_getElem h]; rfl
theorem idxP_eq {sgn : Bool} {P : List Pt} {x : Int} {k : Nat} (hk : k < P.length) (h : x ≤ numI sgn (P.getD k default).raw) (hb : ∀ j, j < k → numI sgn (P.getD j default).raw < x) : idxP sgn P x = k := by
  unfold idxP
  rw [List.findIdx_eq hk]
  refine ⟨?_, fun j hj => ?_⟩
  · rw [getD_at hk] at h; simpa using h
  · have := hb j hj
    rw [getD_at (by omega)] at this
    simp; omega
theorem idxP_len {sgn : Bool} {P : List Pt} {x : Int} (hb : ∀ j, j < P.length → numI sgn (P.getD j default).raw < x) : idxP sgn P x = P.length := by
  unfold idxP
  rw [List.findIdx_eq_length]
  intro p hp
  obtain ⟨j, hj, rfl⟩ := List.mem_iff_getElem.1 hp
  have := hb j hj
  rw [getD_at hj] at this
  simp; omega
theorem idxP_le (sgn : Bool) (P : List Pt) (x : Int) : idxP sgn P x ≤ P.length := List.findIdx_le_length
theorem idxP_at {sgn : Bool} {P : List Pt} {x : Int} (h : idxP sgn P x < P.length) : x ≤ numI sgn (P.getD (idxP sgn P x) default).raw := by
  have := List.findIdx_getElem (w := h) (p := fun p : Pt => decide (x ≤ numI sgn p.raw))
  rw [getD_at h]
  exact of_decide_eq_true this
theorem idxP_bef {sgn : Bool} {P : List Pt} {x : Int} {j : Nat} (h : j < idxP sgn P x) : numI sgn (P.getD j default).raw < x := by
  have hl := idxP_le sgn P x
  have := List.not_of_lt_findIdx h
  rw [getD_at (by omega)]
  have h2 : ¬ x ≤ numI sgn (P[j]'(by omega)).raw := by simpa using this
  omega
def ptV (P : List Pt) (i : Nat) : Int := (P.getD i default).val
def ptN (sgn : Bool) (P : List Pt) (i : Nat) : Int := numI sgn (P.getD i default).raw
/-- The value of a number in a table. -/
def tabI (sgn : Bool) (P : List Pt) (x : Int) : Int :=
  if idxP sgn P x = P.length then ptV P (P.length - 1)
  else if idxP sgn P x = 0 ∨ x = ptN sgn P (idxP sgn P x) then ptV P (idxP sgn P x)
  else ptV P (idxP sgn P x - 1) + (ptV P (idxP sgn P x) - ptV P (idxP sgn P x - 1)) * (x - ptN sgn P (idxP sgn P x - 1)) / (ptN sgn P (idxP sgn P x) - ptN sgn P (idxP sgn P x - 1))
/-- What value gives for a valid conversion. -/
def valN (C : Conv) (P : List Pt) (x : Int) : Int × Int :=
  if C.form = 5 then (tabI C.sgn P x, 0) else if C.form = 2 then divV 1000000 (linI C x) else if C.form = 3 then (mulV (linI C x) (linI C x), 0)
  else if C.form = 4 then rootV (linI C x) else (linI C x, 0)
def valI (C : Conv) (P : List Pt) (raw : Nat) : Int × Int := valN C P (numI C.sgn raw)
/-- What Value gives. -/
def valueI (C : Conv) (P : List Pt) (raw : Nat) : Int × Int := if convB C P then valI C P raw else (0, 1)
/-- A conversion by a formula: its numbers. -/
structure Lin (C : Conv) : Prop where
  form : 1 ≤ C.form ∧ C.form ≤ 4
  m : -512 ≤ C.m ∧ C.m ≤ 511
  b : -512 ≤ C.b ∧ C.b ≤ 511
  k1 : -3 ≤ C.k1 ∧ C.k1 ≤ 3
  k2 : -3 ≤ C.k2 ∧ C.k2 ≤ 3
theorem convB_lin {C : Conv} {P : List Pt} (h : convB C P = true) (hf : C.form ≠ 5) : Lin C := by
  unfold convB at h
  split at h
  · rename_i h1
    simp only [facB, powB, Bool.and_eq_true, decide_eq_true_eq] at h
    exact ⟨h1, h.1.1.1.1, h.1.1.1.2, h.1.1.2, h.1.2⟩
  · simp only [Bool.and_eq_true, decide_eq_true_eq] at h
    exact absurd h.1.1 hf
theorem convB_tab {C : Conv} {P : List Pt} (h : convB C P = true) (hf : C.form = 5) : tableB C.sgn P = true := by
  unfold convB at h
  rw [if_neg (by omega)] at h
  simp only [Bool.and_eq_true] at h
  exact h.2
theorem convB_form15 {C : Conv} {P : List Pt} (h : convB C P = true) : 1 ≤ C.form ∧ C.form ≤ 5 := by
  unfold convB at h
  split at h
  · omega
  · simp only [Bool.and_eq_true, decide_eq_true_eq] at h; omega
theorem tab_parts {sgn : Bool} {P : List Pt} (h : tableB sgn P = true) : 2 ≤ P.length ∧ P.length ≤ 12 ∧ (∀ i, i < P.length → -1000000000000 ≤ ptV P i ∧ ptV P i ≤ 1000000000000) ∧ ∀ i, 0 < i → i < P.length → ptN sgn P (i - 1) < ptN sgn P i := by
  unfold tableB at h
  simp only [Bool.and_eq_true, decide_eq_true_eq, List.all_eq_true] at h
  refine ⟨h.1.1, h.1.2, fun i hi => ?_, fun i h0 hi => ?_⟩
  · have := h.2 i (List.mem_range.2 hi)
    simp only [ptB, Bool.and_eq_true, decide_eq_true_eq] at this
    exact this.1
  · have := h.2 i (List.mem_range.2 hi)
    simp only [ptB, Bool.and_eq_true, Bool.or_eq_true, decide_eq_true_eq] at this
    exact this.2.resolve_left (by omega)
/-- Products in their bounds. -/
theorem mul_bd {a b A B : Int} (ha : -A ≤ a ∧ a ≤ A) (hb : 0 ≤ b ∧ b ≤ B) : -(A * B) ≤ a * b ∧ a * b ≤ A * B := by
  have hA : 0 ≤ A := by omega
  have h1 : A * b ≤ A * B := Int.mul_le_mul_of_nonneg_left hb.2 hA
  have h2 : a * b ≤ A * b := Int.mul_le_mul_of_nonneg_right ha.2 hb.1
  have h3 : (-A) * b ≤ a * b := Int.mul_le_mul_of_nonneg_right ha.1 hb.1
  rw [Int.neg_mul] at h3
  omega
theorem mul_bds {a b A B : Int} (ha : -A ≤ a ∧ a ≤ A) (hb : -B ≤ b ∧ b ≤ B) : -(A * B) ≤ a * b ∧ a * b ≤ A * B := by
  rcases Int.lt_or_le b 0 with h | h
  · have := mul_bd ha (b := -b) (B := B) (by omega)
    rw [Int.mul_neg] at this
    omega
  · exact mul_bd ha ⟨h, hb.2⟩
theorem ten9 {k : Nat} (h : k ≤ 9) : 0 ≤ tenI k ∧ tenI k ≤ 1000000000 := by
  have h1 := tenI_pos k
  have h2 := tenI_le h
  rw [show tenI 9 = 1000000000 from rfl] at h2
  omega
theorem ten12 {k : Nat} (h : k ≤ 12) : 0 ≤ tenI k ∧ tenI k ≤ 1000000000000 := by
  have h1 := tenI_pos k
  have h2 := tenI_le h
  rw [show tenI 12 = 1000000000000 from rfl] at h2
  omega
theorem Lin.mx {C : Conv} (h : Lin C) {x : Int} (hx : -128 ≤ x ∧ x ≤ 255) : -130560 ≤ C.m * x ∧ C.m * x ≤ 130560 := by
  have := mul_bds (a := C.m) (b := x) (A := 512) (B := 255) (by have := h.m; omega) (by omega)
  omega
theorem Lin.parts {C : Conv} (h : Lin C) {x : Int} (hx : -128 ≤ x ∧ x ≤ 255) :
    (-130560000000000 ≤ C.m * x * tenI (6 + C.k2).toNat ∧ C.m * x * tenI (6 + C.k2).toNat ≤ 130560000000000) ∧ (-512000000000000 ≤ C.b * tenI (6 + C.k1 + C.k2).toNat ∧ C.b * tenI (6 + C.k1 + C.k2).toNat ≤ 512000000000000) := by
  have hk1 := h.k1
  have hk2 := h.k2
  have h1 := mul_bd (A := 130560) (B := 1000000000) (h.mx hx) (ten9 (k := (6 + C.k2).toNat) (by omega))
  have h2 := mul_bd (a := C.b) (A := 512) (B := 1000000000000) (by have := h.b; omega) (ten12 (k := (6 + C.k1 + C.k2).toNat) (by omega))
  omega
end Go.Proofs.Ytgjjmiaiclhidaa
