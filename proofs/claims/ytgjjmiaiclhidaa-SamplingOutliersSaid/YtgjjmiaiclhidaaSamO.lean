/- SamplingOutliers: the plain law. -/
import Derived.Test.YtgjjmiaiclhidaaSamM
namespace Go.Proofs.Ytgjjmiaiclhidaa
open Go.RowKit

/-- How many lie between, by number. -/
def inC (sgn : Bool) (lo hi : Int) (W : List Int) : Nat := W.countP fun y => decide (lo ≤ numZ sgn y ∧ numZ sgn y ≤ hi)
theorem inC_snoc (sgn : Bool) (lo hi : Int) (W : List Int) (y : Int) : inC sgn lo hi (W ++ [y]) = inC sgn lo hi W + if lo ≤ numZ sgn y ∧ numZ sgn y ≤ hi then 1 else 0 := by
  unfold inC
  rw [List.countP_append, List.countP_cons, List.countP_nil]
  by_cases h : lo ≤ numZ sgn y ∧ numZ sgn y ≤ hi <;> simp [h]
theorem inC_mono {sgn : Bool} {lo hi lo' hi' : Int} (h1 : lo' ≤ lo) (h2 : hi ≤ hi') (W : List Int) : inC sgn lo hi W ≤ inC sgn lo' hi' W := by
  unfold inC
  refine List.countP_mono_left fun x _ h => ?_
  have h := of_decide_eq_true h
  exact decide_eq_true (by omega)
/-- The median lies between, where at most half of them do not. -/
theorem med_between {sgn : Bool} {W : List Int} (hb : ∀ x ∈ W, 0 ≤ x ∧ x ≤ 255) {m : Int} (h : IsMed sgn W m) {lo hi : Int} {c : Nat} (hc : c ≤ W.length / 2) (hodd : W.length % 2 = 1) (hin : W.length ≤ inC sgn lo hi W + c) : lo ≤ numZ sgn m ∧ numZ sgn m ≤ hi := by
  have ha := h.above hb
  have hl := h.lo
  refine ⟨?_, ?_⟩
  · rcases Int.lt_or_le (numZ sgn m) lo with hlt | hle
    · have : inC sgn lo hi W ≤ gtC sgn m W := by
        unfold inC gtC
        refine List.countP_mono_left fun x _ hx => ?_
        have hx := of_decide_eq_true hx
        exact decide_eq_true (by omega)
      omega
    · exact hle
  · rcases Int.lt_or_le hi (numZ sgn m) with hlt | hle
    · have : inC sgn lo hi W ≤ ltC sgn m W := by
        unfold inC ltC
        refine List.countP_mono_left fun x _ hx => ?_
        have hx := of_decide_eq_true hx
        exact decide_eq_true (by omega)
      omega
    · exact hle
/-- How many of the first j places are wild, at most. -/
def wildC (at_ s : Int) : Nat → Nat
  | 0 => 0
  | j + 1 => wildC at_ s j + if wrap64 ((j : Int) + at_) % s < s / 2 then 1 else 0
theorem wildC_succ (a s : Int) (j : Nat) : wildC a s (j + 1) = wildC a s j + if wrap64 ((j : Int) + a) % s < s / 2 then 1 else 0 := rfl
theorem wild_le (a : Int) (ha : -9223372036854775808 ≤ a ∧ a ≤ 9223372036854775807) {s : Nat} (hs : s = 1 ∨ s = 3 ∨ s = 5) : wildC a s s ≤ s / 2 := by
  by_cases hw : a ≤ 9223372036854775803
  · have e : ∀ j : Nat, j < 5 → wrap64 ((j : Int) + a) = (j : Int) + a := fun j hj => IntWalk.wrap64_in _ (by omega)
    rcases hs with rfl | rfl | rfl
    · simp only [wildC, e 0 (by omega)]
      rw [if_neg (by omega)]
      omega
    · simp only [wildC, e 0 (by omega), e 1 (by omega), e 2 (by omega)]
      rcases (show a % 3 = 0 ∨ a % 3 = 1 ∨ a % 3 = 2 by omega) with h | h | h <;>
        (split <;> split <;> split <;> omega)
    · simp only [wildC, e 0 (by omega), e 1 (by omega), e 2 (by omega), e 3 (by omega), e 4 (by omega)]
      rcases (show a % 5 = 0 ∨ a % 5 = 1 ∨ a % 5 = 2 ∨ a % 5 = 3 ∨ a % 5 = 4 by omega) with h | h | h | h | h <;>
        (split <;> split <;> split <;> split <;> split <;> omega)
  · rcases (show a = 9223372036854775804 ∨ a = 9223372036854775805 ∨ a = 9223372036854775806 ∨ a = 9223372036854775807 by omega) with rfl | rfl | rfl | rfl <;>
      rcases hs with rfl | rfl | rfl <;> decide +kernel
def rawsK (K : List Tk) : List Int := K.map fun t => (t.raw : Int)
theorem gapF_all {K : List Tk} (h : ∀ t ∈ K, t.miss = false) : ∀ j, gapF (K.take j) = (rawsK (K.take j), 0)
  | 0 => rfl
  | j + 1 => by
    have ih := gapF_all h j
    rcases Nat.lt_or_ge j K.length with hj | hj
    · have hm := h _ (tk_mem hj)
      rw [take_snocT hj, gapF_snoc, ih]
      generalize K.getD j default = t at hm ⊢
      rw [if_neg (by rw [hm]; decide)]
      simp [rawsK]
    · rw [List.take_of_length_le hj] at ih
      rw [List.take_of_length_le (by omega)]
      exact ih
theorem runF_all {K : List Tk} (h : ∀ t ∈ K, t.miss = false) {k : Nat} (hk : 1 ≤ k) (hl : K.length ≤ k) : runF k K = (rawsK K, 0) := by
  obtain ⟨h1, h2, -⟩ := gap_run hk K K.length
  have hg := gapF_all h K.length
  rw [List.take_length] at h1 h2 hg
  rw [hg] at h1 h2
  refine Prod.ext (h1.trans ?_) (h2.trans ?_)
  · show (rawsK K).drop ((rawsK K).length - k) = rawsK K
    rw [show (rawsK K).length = K.length by simp [rawsK], show K.length - k = 0 by omega, List.drop_zero]
  · show min ((0 : Nat) : Int) 3 = 0
    omega
theorem rawsK_snoc (K : List Tk) (t : Tk) : rawsK (K ++ [t]) = rawsK K ++ [(t.raw : Int)] := by simp [rawsK]
theorem so_in {sgn : Bool} {K : List Tk} {a b a' b' : Int} {c c' rr : Nat} (h : K.length ≤ inC sgn a b (rawsK K) + c) (hc : c ≤ c') (h1 : a' ≤ a) (h2 : b ≤ b') (h3 : a' ≤ (rr : Int)) (h4 : (rr : Int) ≤ b') (hr : rr < 128) :
    (K ++ [(⟨rr, false⟩ : Tk)]).length ≤ inC sgn a' b' (rawsK (K ++ [⟨rr, false⟩])) + c' := by
  rw [rawsK_snoc, inC_snoc, List.length_append, List.length_singleton]
  have e : numZ sgn ((rr : Nat) : Int) = rr := by unfold numZ numI; rw [Int.toNat_natCast, if_neg (by omega)]
  rw [e, if_pos ⟨h3, h4⟩]
  have := inC_mono (sgn := sgn) h1 h2 (rawsK K)
  omega
theorem so_wild {sgn : Bool} {K : List Tk} {a b : Int} {c rr : Nat} (h : K.length ≤ inC sgn a b (rawsK K) + c) :
    (K ++ [(⟨rr, false⟩ : Tk)]).length ≤ inC sgn a b (rawsK (K ++ [⟨rr, false⟩])) + (c + 1) := by
  rw [rawsK_snoc, inC_snoc, List.length_append, List.length_singleton]
  omega
end Go.Proofs.Ytgjjmiaiclhidaa
