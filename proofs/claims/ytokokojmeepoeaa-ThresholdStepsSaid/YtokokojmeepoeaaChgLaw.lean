/- Changes applied one after the other: the plain laws. No program stands here. -/
import Derived.Test.YtokokojmeepoeaaChg
import Derived.Test.YtokokojmeepoeaaSenPlain
namespace Go.Proofs.Ytokokojmeepoeaa

/-- What Apply makes of a state. -/
def applyN (st : Nat) : List Chg → Nat × Int
  | [] => (st, 0)
  | c :: l => if c.idx < 0 ∨ 15 ≤ c.idx then (0, 2) else if st.testBit c.idx.toNat = c.on then (0, 1) else applyN (st ^^^ 2 ^ c.idx.toNat) l
def mid (a b k : Nat) : Nat := a ^^^ ((a ^^^ b) % 2 ^ k)
theorem mid_bit (a b k i : Nat) : (mid a b k).testBit i = if i < k then b.testBit i else a.testBit i := by
  rw [mid, Nat.testBit_xor, Nat.testBit_mod_two_pow, Nat.testBit_xor]
  by_cases h : i < k
  · simp [h]
  · simp [h]
theorem apply_chL (a b : Nat) : ∀ k, k ≤ 15 → ∀ l, applyN a (chL a b k ++ l) = applyN (mid a b k) l
  | 0, _, l => by
    have e : mid a b 0 = a := Nat.eq_of_testBit_eq fun i => by rw [mid_bit]; simp
    rw [e]; rfl
  | k + 1, hk, l => by
    rw [chL, List.append_assoc, apply_chL a b k (by omega)]
    have hm : (mid a b k).testBit k = a.testBit k := by rw [mid_bit]; simp
    cases hb : (a ^^^ b).testBit k with
    | true =>
      have hx := hb
      rw [Nat.testBit_xor] at hx
      have e : mid a b (k + 1) = mid a b k ^^^ 2 ^ k := Nat.eq_of_testBit_eq fun i => by
        rw [Nat.testBit_xor, mid_bit, mid_bit, Nat.testBit_two_pow]
        rcases Nat.lt_trichotomy i k with h | h | h
        · simp [h, Nat.lt_succ_of_lt h, show k ≠ i by omega]
        · subst h
          simp
          revert hx
          cases a.testBit i <;> cases b.testBit i <;> simp
        · simp [show ¬ i < k by omega, show ¬ i < k + 1 by omega, show k ≠ i by omega]
      rw [if_pos rfl, List.singleton_append, applyN, if_neg (by simp; omega), if_neg ?_, e]
      · simp
      · simp only [Int.toNat_natCast, hm]
        revert hx
        cases a.testBit k <;> cases b.testBit k <;> simp
    | false =>
      have hx := hb
      rw [Nat.testBit_xor] at hx
      have e : mid a b (k + 1) = mid a b k := Nat.eq_of_testBit_eq fun i => by
        rw [mid_bit, mid_bit]
        rcases Nat.lt_trichotomy i k with h | h | h
        · simp [h, Nat.lt_succ_of_lt h]
        · subst h
          simp
          revert hx
          cases a.testBit i <;> cases b.testBit i <;> simp
        · simp [show ¬ i < k by omega, show ¬ i < k + 1 by omega]
      rw [if_neg (by simp), List.nil_append, e]
theorem mid_whole {a b k : Nat} (ha : a < 2 ^ k) (hb : b < 2 ^ k) : mid a b k = b := by
  refine bits_ext (Nat.xor_lt_two_pow ha (Nat.lt_of_le_of_lt (Nat.mod_le _ _) (Nat.xor_lt_two_pow ha hb))) hb fun i hi => ?_
  rw [mid_bit, if_pos hi]
theorem apply_step {a b k : Nat} (hk : k ≤ 15) (ha : a < 2 ^ k) (hb : b < 2 ^ k) (l : List Chg) : applyN a (chL a b k ++ l) = applyN b l := by
  rw [apply_chL a b k hk, mid_whole ha hb]
theorem chL_len (a b k : Nat) : (chL a b (k + 1)).length = (chL a b k).length + if (a.testBit k ^^ b.testBit k) then 1 else 0 := by
  rw [chL, List.length_append, Nat.testBit_xor]
  split <;> rfl
theorem chL_tri (a b c : Nat) : ∀ k, (chL a b k).length ≤ (chL a c k).length + (chL c b k).length ∧ ((chL a c k).length + (chL c b k).length - (chL a b k).length) % 2 = 0
  | 0 => ⟨by simp [chL], by simp [chL]⟩
  | k + 1 => by
    have ⟨h1, h2⟩ := chL_tri a b c k
    rw [chL_len, chL_len, chL_len]
    cases a.testBit k <;> cases b.testBit k <;> cases c.testBit k <;> simp <;> omega
def Chg.flip (c : Chg) : Chg := ⟨c.idx, !c.on⟩
theorem chL_flip (a b : Nat) : ∀ k, chL b a k = (chL a b k).map Chg.flip
  | 0 => rfl
  | k + 1 => by
    rw [chL, chL, List.map_append, chL_flip a b k, Nat.xor_comm b a]
    congr 1
    cases hb : (a ^^^ b).testBit k with
    | false => simp
    | true =>
      rw [Nat.testBit_xor] at hb
      simp [Chg.flip]
      revert hb
      cases a.testBit k <;> cases b.testBit k <;> simp
theorem chL_back (a b k i : Nat) (h : i < (chL a b k).length) : ((chL b a k).getD i default).idx = ((chL a b k).getD i default).idx ∧ ((chL b a k).getD i default).on = !((chL a b k).getD i default).on := by
  rw [chL_flip a b k]
  simp [List.getD_eq_getElem?_getD, List.getElem?_map, List.getElem?_eq_getElem h, Chg.flip]
theorem chL_back_len (a b k : Nat) : (chL b a k).length = (chL a b k).length := by rw [chL_flip a b k, List.length_map]
/-- Every change has an index below k. -/
theorem chL_idx (a b : Nat) : ∀ k, ∀ c ∈ chL a b k, 0 ≤ c.idx ∧ c.idx < k
  | 0 => by simp [chL]
  | k + 1 => by
    intro c hc
    rw [chL, List.mem_append] at hc
    rcases hc with h | h
    · have := chL_idx a b k c h; omega
    · split at h
      · simp at h; subst h; simp; omega
      · simp at h
end Go.Proofs.Ytokokojmeepoeaa
