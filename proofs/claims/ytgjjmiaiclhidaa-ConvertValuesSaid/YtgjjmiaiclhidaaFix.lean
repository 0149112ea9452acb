/- Fixed-point numbers, plain: limits, quotients rounded down, products, roots. No program stands here. -/
import Derived.Test.YtgjjmiaiclhidaaConv
namespace Go.Proofs.Ytgjjmiaiclhidaa

theorem clampI_bd (x : Int) : -1000000000000 ≤ clampI x ∧ clampI x ≤ 1000000000000 := by unfold clampI; omega
theorem clampI_in {x : Int} (h1 : -1000000000000 ≤ x) (h2 : x ≤ 1000000000000) : clampI x = x := by unfold clampI; omega
theorem clampI_idem (x : Int) : clampI (clampI x) = clampI x := clampI_in (clampI_bd x).1 (clampI_bd x).2
theorem clampI_mono {x y : Int} (h : x ≤ y) : clampI x ≤ clampI y := by unfold clampI; omega

/-- A quotient rounded down, out of Go's. -/
theorem floor_pos (n d : Int) (hd : 0 < d) : (if n.tmod d < 0 then n.tdiv d - 1 else n.tdiv d) = n / d := by
  have h1 := Int.tmod_add_mul_tdiv n d
  have h2 : -d < n.tmod d := by have := Int.neg_tmod n d; have h6 := Int.tmod_lt_of_pos (-n) hd; omega
  have h3 := Int.tmod_lt_of_pos n hd
  symm
  have key : ∀ q r : Int, r + d * q = n → 0 ≤ r → r < d → n / d = q := by
    intro q r e hr0 hr1
    subst e
    rw [Int.add_mul_ediv_left _ _ (by omega), Int.ediv_eq_zero_of_lt hr0 hr1, Int.zero_add]
  rcases Int.lt_or_le n 0 with hn | hn
  · have h7 : n.tmod d ≤ 0 := by have := Int.neg_tmod n d; have h6 := Int.tmod_nonneg d (show 0 ≤ -n by omega); omega
    split
    · refine key _ (n.tmod d + d) ?_ (by omega) (by omega)
      rw [Int.mul_sub]; omega
    · exact key _ (n.tmod d) h1 (by omega) h3
  · have h7 := Int.tmod_nonneg d hn
    rw [if_neg (by omega)]
    exact key _ (n.tmod d) h1 h7 h3
/-- The bounds of a quotient. -/
theorem quot_bd (n d : Int) (hd : 0 < d) (B : Int) (h1 : -B ≤ n) (h2 : n ≤ B) : -B ≤ n / d ∧ n / d ≤ B := by
  have hB : 0 ≤ B := by omega
  constructor
  · rw [Int.le_ediv_iff_mul_le hd]
    have : -B * d ≤ -B * 1 := by
      rw [Int.neg_mul, Int.neg_mul]
      have := Int.mul_le_mul_of_nonneg_left (show (1 : Int) ≤ d by omega) hB
      omega
    omega
  · rcases Int.lt_or_le n 0 with hn | hn
    · have := Int.ediv_neg_of_neg_of_pos hn hd
      omega
    · have := Int.ediv_le_self d hn
      omega
theorem tquot_bd (n d : Int) (B : Int) (h1 : -B ≤ n) (h2 : n ≤ B) : -B ≤ n.tdiv d ∧ n.tdiv d ≤ B := by
  have h := Int.natAbs_tdiv n d
  have h' : (n.tdiv d).natAbs ≤ n.natAbs := by rw [h]; exact Nat.div_le_self _ _
  omega
/-- A quotient rounded down, of any sign. -/
def fdivI (n d : Int) : Int := if 0 < d then n / d else (-n) / (-d)
theorem fdivI_pos {n d : Int} (h : 0 < d) : fdivI n d = n / d := if_pos h
theorem fdivI_neg {n d : Int} (h : d < 0) : fdivI n d = (-n) / (-d) := if_neg (by omega)
theorem floor_any (n d : Int) (hd : d ≠ 0) : (if n.tmod d ≠ 0 ∧ (n < 0 ↔ ¬ d < 0) then n.tdiv d - 1 else n.tdiv d) = fdivI n d := by
  have key : ∀ n d : Int, 0 < d → (if n.tmod d ≠ 0 ∧ n < 0 then n.tdiv d - 1 else n.tdiv d) = n / d := by
    intro n d hd
    rw [← floor_pos n d hd]
    have h7 : n < 0 → n.tmod d ≤ 0 := fun hn => by have := Int.neg_tmod n d; have h6 := Int.tmod_nonneg d (show 0 ≤ -n by omega); omega
    have h8 : 0 ≤ n → 0 ≤ n.tmod d := fun hn => Int.tmod_nonneg d hn
    by_cases hn : n < 0
    · have := h7 hn
      by_cases hz : n.tmod d = 0
      · rw [if_neg (by simp [hz]), if_neg (by omega)]
      · rw [if_pos ⟨hz, hn⟩, if_pos (by omega)]
    · have := h8 (by omega)
      rw [if_neg (by simp [hn]), if_neg (by omega)]
  rcases Int.lt_or_gt_of_ne hd with h | h
  · rw [fdivI_neg h, ← key (-n) (-d) (by omega)]
    have e1 : (-n).tmod (-d) = -(n.tmod d) := by rw [Int.tmod_neg, Int.neg_tmod]
    have e2 : (-n).tdiv (-d) = n.tdiv d := by rw [Int.tdiv_neg, Int.neg_tdiv, Int.neg_neg]
    rw [e1, e2]
    have hn0 : n = 0 → n.tmod d = 0 := by intro h; subst h; exact Int.zero_tmod d
    by_cases hz : n.tmod d = 0
    · rw [if_neg (by simp [hz]), if_neg (by simp [hz])]
    · have hnz : n ≠ 0 := fun h => hz (hn0 h)
      by_cases hn : n < 0
      · rw [if_neg (by simp [hn, h]), if_neg (by omega)]
      · rw [if_pos ⟨hz, by simp [hn, h]⟩, if_pos ⟨by omega, by omega⟩]
  · rw [fdivI_pos h, ← key n d h]
    have : (n < 0 ↔ ¬ d < 0) ↔ n < 0 := by omega
    simp only [this]
/-- What Div gives. -/
def divV (a b : Int) : Int × Int := if clampI b = 0 then (0, 12) else (clampI (fdivI (clampI a * 1000000) (clampI b)), 0)
/-- What Mul gives. -/
def mulV (a b : Int) : Int := clampI (clampI a * clampI b / 1000000)
/-- The whole root. -/
def rootN : Nat → Nat
  | 0 => 0
  | n + 1 => if (rootN n + 1) * (rootN n + 1) ≤ n + 1 then rootN n + 1 else rootN n
theorem rootN_spec : ∀ n, rootN n * rootN n ≤ n ∧ n < (rootN n + 1) * (rootN n + 1)
  | 0 => by simp [rootN]
  | n + 1 => by
    have ⟨h1, h2⟩ := rootN_spec n
    simp only [rootN]
    split
    · rename_i h
      refine ⟨h, ?_⟩
      generalize rootN n = r at *
      have : (r + 1 + 1) * (r + 1 + 1) = (r + 1) * (r + 1) + 2 * (r + 1) + 1 := by
        simp only [Nat.add_mul, Nat.mul_add]; omega
      omega
    · rename_i h
      exact ⟨by omega, by omega⟩
theorem root_unique {n r s : Nat} (h1 : r * r ≤ n) (h2 : n < (r + 1) * (r + 1)) (h3 : s * s ≤ n) (h4 : n < (s + 1) * (s + 1)) : r = s := by
  rcases Nat.lt_trichotomy r s with h | h | h
  · have := Nat.mul_le_mul (show r + 1 ≤ s from h) (show r + 1 ≤ s from h); omega
  · exact h
  · have := Nat.mul_le_mul (show s + 1 ≤ r from h) (show s + 1 ≤ r from h); omega
/-- What Root gives. -/
def rootV (a : Int) : Int × Int := if a < 0 then (0, 2) else ((rootN (clampI a * 1000000).toNat : Nat), 0)
theorem rootN_eq {n : Int} {r : Nat} (h0 : 0 ≤ n) (h1 : (r : Int) * r ≤ n) (h2 : n < ((r : Int) + 1) * (r + 1)) : rootN n.toNat = r := by
  have ⟨h3, h4⟩ := rootN_spec n.toNat
  have e : ((n.toNat : Nat) : Int) = n := Int.toNat_of_nonneg h0
  refine root_unique h3 h4 ?_ ?_
  · have : ((r * r : Nat) : Int) ≤ ((n.toNat : Nat) : Int) := by rw [e]; simpa using h1
    exact Int.ofNat_le.1 this
  · have : ((n.toNat : Nat) : Int) < (((r + 1) * (r + 1) : Nat) : Int) := by rw [e]; simpa using h2
    exact Int.ofNat_lt.1 this
theorem clampI_sign (a : Int) : clampI a < 0 ↔ a < 0 := by unfold clampI; omega
/-- The reference's product. -/
theorem mul_split (x y : Int) : x / 1000000 * y + (x - x / 1000000 * 1000000) * y / 1000000 = x * y / 1000000 := by
  have e : x * y = (x - x / 1000000 * 1000000) * y + 1000000 * (x / 1000000 * y) := by
    rw [Int.sub_mul]
    have : x / 1000000 * 1000000 * y = 1000000 * (x / 1000000 * y) := by
      rw [Int.mul_comm (x / 1000000) 1000000, Int.mul_assoc]
    omega
  rw [e, Int.add_mul_ediv_left _ _ (by omega), Int.add_comm]
end Go.Proofs.Ytgjjmiaiclhidaa
