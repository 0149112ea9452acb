/- ConvertForms: the plain law. -/
import Derived.Test.YtgjjmiaiclhidaaVal
namespace Go.Proofs.Ytgjjmiaiclhidaa

theorem convB_asForm {C : Conv} {P : List Pt} (h : convB C P = true) (hf : C.form ≠ 5) (k : Int) (hk : 1 ≤ k ∧ k ≤ 4) : convB { C with form := k } P = true := by
  have hL := convB_lin h hf
  unfold convB at h ⊢
  rw [if_pos hL.form] at h
  rw [if_pos hk]
  exact h
theorem valueI_asForm {C : Conv} {P : List Pt} (h : convB C P = true) (hf : C.form ≠ 5) (k : Int) (hk : 1 ≤ k ∧ k ≤ 4) (raw : Nat) :
    valueI { C with form := k } P raw = if k = 2 then divV 1000000 (linI C (numI C.sgn raw)) else if k = 3 then (mulV (linI C (numI C.sgn raw)) (linI C (numI C.sgn raw)), 0) else if k = 4 then rootV (linI C (numI C.sgn raw)) else (linI C (numI C.sgn raw), 0) := by
  unfold valueI
  rw [if_pos (convB_asForm h hf k hk)]
  unfold valI valN
  rw [if_neg (by simp; omega)]
  rfl
theorem divV_code {y : Int} (hy : clampI y = y) : (divV 1000000 y).2 = if y = 0 then 12 else 0 := by
  unfold divV
  rw [hy]
  split <;> rfl
theorem rootV_code (y : Int) : (rootV y).2 = if y < 0 then 2 else 0 := by
  unfold rootV
  split <;> rfl
theorem sq_nonneg (y : Int) : 0 ≤ y * y := by
  rcases Int.lt_or_le y 0 with h | h
  · exact Int.le_of_lt (Int.mul_pos_of_neg_of_neg h h)
  · exact Int.mul_nonneg h h
theorem mulV_sq (y : Int) : 0 ≤ mulV y y ∧ mulV y y ≤ 1000000000000 := by
  unfold mulV
  have h := sq_nonneg (clampI y)
  have h2 : 0 ≤ clampI y * clampI y / 1000000 := Int.ediv_nonneg h (by omega)
  have := clampI_bd (clampI y * clampI y / 1000000)
  unfold clampI at *
  omega
theorem rootV_bd {y : Int} (h0 : 0 ≤ y) (hy : clampI y = y) : 0 ≤ (rootV y).1 ∧ (rootV y).1 ≤ 1000000000 ∧ (rootV y).1 * (rootV y).1 ≤ y * 1000000 ∧ y * 1000000 < ((rootV y).1 + 1) * ((rootV y).1 + 1) := by
  have hb := clampI_bd y
  rw [hy] at hb
  unfold rootV
  rw [if_neg (by omega), hy]
  simp only
  have ⟨h1, h2⟩ := rootN_spec (y * 1000000).toNat
  have e : (((y * 1000000).toNat : Nat) : Int) = y * 1000000 := Int.toNat_of_nonneg (by omega)
  generalize rootN (y * 1000000).toNat = r at h1 h2
  have a1 : ((r * r : Nat) : Int) ≤ (((y * 1000000).toNat : Nat) : Int) := Int.ofNat_le.2 h1
  have a2 : (((y * 1000000).toNat : Nat) : Int) < (((r + 1) * (r + 1) : Nat) : Int) := Int.ofNat_lt.2 h2
  rw [e] at a1 a2
  rw [Int.natCast_mul] at a1 a2
  have hr : r ≤ 1000000000 := by
    rcases Nat.lt_or_ge 1000000000 r with h | h
    · have := Nat.mul_le_mul (show 1000000001 ≤ r from h) (show 1000000001 ≤ r from h)
      have a3 : ((1000000001 * 1000000001 : Nat) : Int) ≤ ((r * r : Nat) : Int) := Int.ofNat_le.2 this
      rw [Int.natCast_mul] at a3
      omega
    · exact h
  refine ⟨by omega, by omega, a1, ?_⟩
  have e2 : ((r + 1 : Nat) : Int) = (r : Int) + 1 := by omega
  rw [e2] at a2
  exact a2
end Go.Proofs.Ytgjjmiaiclhidaa
