/- The next state of thresholds: the plain laws (nested, a second step, without hysteresis, no flapping). No program stands here. -/
import Derived.Test.YtokokojmeepoeaaThresholdOrdered
import Derived.Test.YtokokojmeepoeaaChgLaw
import Derived.Test.YtokokojmeepoeaaReady
namespace Go.Proofs.Ytokokojmeepoeaa
open Go.RowKit

theorem next_bit (S : Sen) (st : Nat) (x : Int) (i : Nat) : (nextN S st x).testBit i = (decide (i < 6) && (S.mask.testBit i && (decide (0 ≤ beyI S i x) || st.testBit i && decide (-(hysI S i : Int) ≤ beyI S i x)))) := by
  rw [nextN, testBit_ofBits]; rfl
/-- A more severe threshold is only asserted while the less severe ones on its side are. -/
def Nest (m st : Nat) : Prop := ∀ k j, j < k → k < 6 → (k < 3 ∨ 3 ≤ j) → st.testBit k = true → m.testBit j = true → st.testBit j = true
theorem Nest.zero (m : Nat) : Nest m 0 := fun k j _ _ _ h _ => by simp at h
theorem Nest.next {S : Sen} {st : Nat} (h : Nest S.mask st) (ho : ordB S.mask S.num = true) (x : Int) : Nest S.mask (nextN S st x) := by
  intro k j hj hk hs hb hm
  rw [next_bit] at hb ⊢
  simp only [Bool.and_eq_true, decide_eq_true_eq, Bool.or_eq_true] at hb ⊢
  obtain ⟨_, hmk, hb⟩ := hb
  refine ⟨by omega, hm, ?_⟩
  have hp := ordB_get ho hj hk hm hmk
  simp only [pairB, Bool.not_eq_true', Bool.or_eq_false_iff, decide_eq_false_iff_not] at hp
  have hbey : beyI S k x ≤ beyI S j x := by
    unfold beyI
    rcases hs with h3 | h3
    · rw [if_pos (by omega), if_pos (by omega)]; omega
    · rw [if_neg (by omega), if_neg (by omega)]; omega
  have hhys : hysI S k = hysI S j := by
    unfold hysI
    rcases hs with h3 | h3
    · rw [if_pos (by omega), if_pos (by omega)]
    · rw [if_neg (by omega), if_neg (by omega)]
  rcases hb with hb | ⟨hb1, hb2⟩
  · exact .inl (by omega)
  · exact .inr ⟨h k j hj hk hs hb1 hm, by omega⟩
/-- A state has no bit beside the mask. -/
theorem next_mask (S : Sen) (st : Nat) (x : Int) (hm : S.mask < 256) : nextN S st x &&& (255 - S.mask) = 0 := and_zero_of fun i h1 h2 => by
  rw [next_bit] at h1
  rw [sub255 hm] at h2
  simp at h1 h2
  rw [h1.2.1] at h2
  exact absurd h2.2 (by simp)
theorem and_mask (st m : Nat) (hm : m < 256) : (st &&& m) &&& (255 - m) = 0 := and_zero_of fun i h1 h2 => by
  rw [Nat.testBit_and] at h1
  rw [sub255 hm] at h2
  simp at h1 h2
  rw [h1.2] at h2
  exact absurd h2.2 (by simp)
theorem next_again (S : Sen) (st : Nat) (x : Int) : nextN S (nextN S st x) x = nextN S st x := Nat.eq_of_testBit_eq fun i => by
  rw [next_bit, next_bit]
  cases decide (i < 6) <;> cases S.mask.testBit i <;> cases decide (0 ≤ beyI S i x) <;> cases st.testBit i <;> cases decide (-(hysI S i : Int) ≤ beyI S i x) <;> rfl
theorem reached_in (S : Sen) (st : Nat) (x : Int) : nextN S 0 x &&& (255 - nextN S st x) = 0 := and_zero_of fun i h1 h2 => by
  rw [next_bit] at h1
  rw [sub255 (by have := nextN_lt S st x; omega), next_bit] at h2
  revert h1 h2
  simp only [Nat.zero_testBit]
  cases decide (i < 8) <;> cases decide (i < 6) <;> cases S.mask.testBit i <;> cases decide (0 ≤ beyI S i x) <;> cases st.testBit i <;> cases decide (-(hysI S i : Int) ≤ beyI S i x) <;> simp
/-- Without hysteresis. -/
theorem plain_next (S : Sen) (st : Nat) (x : Int) : nextN S.plain st x = nextN S 0 x ∧ nextN S.plain 0 x = nextN S 0 x := by
  have hb : ∀ i, beyI S.plain i x = beyI S i x := fun i => rfl
  have hh : ∀ i, hysI S.plain i = 0 := fun i => by unfold hysI; split <;> rfl
  constructor <;>
  · refine Nat.eq_of_testBit_eq fun i => ?_
    have hm : S.plain.mask = S.mask := rfl
    rw [next_bit, next_bit, hb, hh, hm]
    simp only [Nat.zero_testBit, Int.ofNat_zero, Int.neg_zero, Bool.false_and, Bool.or_false]
    try (cases st.testBit i <;> cases decide (0 ≤ beyI S i x) <;> simp)
theorem step_plain {S : Sen} {P : List Pt} (h : anaB S P = true) (u x : Nat) (hu : u &&& (255 - S.mask) = 0) : stepN S.plain P u x = (nextN S 0 (numI S.conv.sgn x), chL u (nextN S 0 (numI S.conv.sgn x)) 6, 0) := by
  rw [stepN, if_pos (ana_plain h), if_pos (show u &&& (255 - S.plain.mask) = 0 from hu), show S.plain.conv = S.conv from rfl, (plain_next S u _).1]
theorem reach_plain {S : Sen} {P : List Pt} (h : anaB S P = true) (x : Nat) : reachN S.plain P x = (nextN S 0 (numI S.conv.sgn x), 0) := by
  rw [reachN, if_pos (ana_plain h), show S.plain.conv = S.conv from rfl, (plain_next S 0 _).2]
theorem plain_over (S : Sen) (st : Nat) (x : Int) (hst : st < 256) : nextN S st x &&& (255 - (nextN S 0 x ||| st)) = 0 := and_zero_of fun i h1 h2 => by
  rw [next_bit] at h1
  rw [sub255 (Nat.or_lt_two_pow (n := 8) (by have := nextN_lt S 0 x; omega) (by omega)), Nat.testBit_or, next_bit] at h2
  revert h1 h2
  simp only [Nat.zero_testBit]
  cases decide (i < 8) <;> cases decide (i < 6) <;> cases S.mask.testBit i <;> cases decide (0 ≤ beyI S i x) <;> cases st.testBit i <;> cases decide (-(hysI S i : Int) ≤ beyI S i x) <;> simp
/-- The i-th change. -/
theorem chL_get (a b : Nat) : ∀ n i, i < (chL a b n).length → ∃ k, k < n ∧ (chL a b n).getD i default = ⟨k, b.testBit k⟩ ∧ (a ^^^ b).testBit k = true ∧ (chL a b k).length = i
  | 0, i, h => by simp [chL] at h
  | n + 1, i, h => by
    rcases Nat.lt_or_ge i (chL a b n).length with h1 | h1
    · obtain ⟨k, hk, he, hb, hl⟩ := chL_get a b n i h1
      refine ⟨k, by omega, ?_, hb, hl⟩
      rw [chL, List.getD_eq_getElem?_getD, List.getElem?_append_left h1, ← List.getD_eq_getElem?_getD, he]
    · rw [chL, List.length_append] at h
      cases hb : (a ^^^ b).testBit n with
      | false => rw [hb] at h; simp at h; omega
      | true =>
        rw [hb] at h
        simp at h
        have hi : i = (chL a b n).length := by omega
        subst hi
        exact ⟨n, by omega, by rw [chL, hb]; simp [List.getD_eq_getElem?_getD], hb, rfl⟩
theorem chL_mono (a b : Nat) {p k : Nat} (h : p ≤ k) : (chL a b p).length ≤ (chL a b k).length := by
  induction h with
  | refl => exact Nat.le_refl _
  | step h ih => rw [chL_len]; omega
theorem mid_same (a b : Nat) {p k : Nat} (h : p ≤ k) (hl : (chL a b p).length = (chL a b k).length) : mid a b p = mid a b k := by
  induction h with
  | refl => rfl
  | step h ih =>
    rename_i k
    have h1 := chL_mono a b h
    rw [chL_len] at hl
    rw [ih (by omega)]
    refine Nat.eq_of_testBit_eq fun i => ?_
    rw [mid_bit, mid_bit]
    rcases Nat.lt_trichotomy i k with h | h | h
    · simp [h, Nat.lt_succ_of_lt h]
    · subst h
      have hx : (a.testBit i ^^ b.testBit i) = false := by
        cases hh : (a.testBit i ^^ b.testBit i) with
        | false => rfl
        | true => rw [hh] at hl; simp at hl; omega
      simp
      revert hx
      cases a.testBit i <;> cases b.testBit i <;> simp
    · simp [show ¬ i < k by omega, show ¬ i < k + 1 by omega]
theorem mid_succ (a b k : Nat) (h : (a ^^^ b).testBit k = true) : mid a b (k + 1) = mid a b k ^^^ 2 ^ k := Nat.eq_of_testBit_eq fun i => by
  rw [Nat.testBit_xor] at h
  rw [Nat.testBit_xor, mid_bit, mid_bit, Nat.testBit_two_pow]
  rcases Nat.lt_trichotomy i k with h2 | h2 | h2
  · simp [h2, Nat.lt_succ_of_lt h2, show k ≠ i by omega]
  · subst h2
    simp
    revert h
    cases a.testBit i <;> cases b.testBit i <;> simp
  · simp [show ¬ i < k by omega, show ¬ i < k + 1 by omega, show k ≠ i by omega]
end Go.Proofs.Ytokokojmeepoeaa
