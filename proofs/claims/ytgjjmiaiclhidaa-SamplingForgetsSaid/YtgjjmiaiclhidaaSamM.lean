/- SamplingMedian: the plain law. -/
import Derived.Test.YtgjjmiaiclhidaaSamRun
namespace Go.Proofs.Ytgjjmiaiclhidaa

/-- The raw readings since the last long gap, and the gap. -/
def gapF (L : List Tk) : List Int × Nat := L.foldl (fun f t => if t.miss then (if f.2 + 1 = 3 then [] else f.1, f.2 + 1) else (f.1 ++ [(t.raw : Int)], 0)) ([], 0)
theorem gapF_snoc (L : List Tk) (t : Tk) : gapF (L ++ [t]) = if t.miss then (if (gapF L).2 + 1 = 3 then [] else (gapF L).1, (gapF L).2 + 1) else ((gapF L).1 ++ [(t.raw : Int)], 0) := by unfold gapF; rw [List.foldl_append]; rfl
theorem nextW_drop {k : Nat} (hk : 1 ≤ k) (A : List Int) (r : Int) : nextW k (A.drop (A.length - k)) r = (A ++ [r]).drop ((A ++ [r]).length - k) := by
  unfold nextW
  rw [List.length_drop, List.length_append, List.length_singleton]
  by_cases h : A.length < k
  · rw [show A.length - k = 0 by omega, List.drop_zero, if_neg (by omega), show A.length + 1 - k = 0 by omega, List.drop_zero]
  · rw [if_pos (by omega)]
    rw [List.drop_append_of_le_length (by rw [List.length_drop]; omega), List.drop_drop, List.drop_append_of_le_length (by omega)]
    rw [show A.length - k + 1 = A.length + 1 - k by omega]
theorem gap_run {k : Nat} (hk : 1 ≤ k) (L : List Tk) : ∀ j, (runF k (L.take j)).1 = (gapF (L.take j)).1.drop ((gapF (L.take j)).1.length - k) ∧ (runF k (L.take j)).2 = min ((gapF (L.take j)).2 : Int) 3 ∧ (3 ≤ (gapF (L.take j)).2 → (gapF (L.take j)).1 = [])
  | 0 => ⟨by simp [runF, gapF], by simp [runF, gapF]; omega, by simp [gapF]⟩
  | j + 1 => by
    obtain ⟨h1, h2, h3⟩ := gap_run hk L j
    rcases Nat.lt_or_ge j L.length with hj | hj
    · rw [take_snocT hj, runF_snoc, gapF_snoc, h1, h2]
      generalize L.getD j default = t
      obtain ⟨r, m⟩ := t
      generalize gapF (L.take j) = g at *
      obtain ⟨A, n⟩ := g
      simp only at h3 ⊢
      cases m
      · simp only [Bool.not_false, Bool.false_eq_true, if_false]
        unfold stepF
        rw [if_pos rfl]
        exact ⟨nextW_drop hk A r, by simp; omega, by simp⟩
      · simp only [Bool.not_true, if_true]
        unfold stepF
        rw [if_neg (by simp)]
        by_cases h : n + 1 = 3
        · rw [if_pos h, if_pos (by omega)]
          exact ⟨by simp, by omega, by simp⟩
        · rw [if_neg h]
          by_cases h4 : 3 ≤ n
          · rw [if_pos (by omega), h3 h4]
            exact ⟨by simp, by omega, by simp⟩
          · rw [if_neg (by omega)]
            exact ⟨rfl, by omega, fun h5 => by omega⟩
    · rw [List.take_of_length_le hj] at h1 h2 h3
      rw [List.take_of_length_le (by omega)]
      exact ⟨h1, h2, h3⟩
def numsZ (sgn : Bool) (A : List Int) : List Int := A.map (numZ sgn)
/-- How many of the first k lie below (above) x; whether one is x. -/
def loC (x : Int) (B : List Int) : Nat := B.countP fun y => decide (y < x)
def hiC (x : Int) (B : List Int) : Nat := B.countP fun y => decide (x < y)
theorem med_counts {sgn : Bool} {W : List Int} (hb : ∀ x ∈ W, 0 ≤ x ∧ x ≤ 255) {m : Int} (h : IsMed sgn W m) :
    loC (numZ sgn m) (numsZ sgn W) ≤ W.length / 2 ∧ hiC (numZ sgn m) (numsZ sgn W) ≤ W.length / 2 ∧ numZ sgn m ∈ numsZ sgn W := by
  have e1 : loC (numZ sgn m) (numsZ sgn W) = ltC sgn m W := by unfold loC numsZ ltC; rw [List.countP_map]; rfl
  have e2 : hiC (numZ sgn m) (numsZ sgn W) = gtC sgn m W := by unfold hiC numsZ gtC; rw [List.countP_map]; rfl
  rw [e1, e2]
  have := h.above hb
  exact ⟨h.lo, by omega, List.mem_map_of_mem h.mem⟩
theorem loC_snoc (x : Int) (B : List Int) (y : Int) : loC x (B ++ [y]) = loC x B + if y < x then 1 else 0 := by
  unfold loC
  rw [List.countP_append, List.countP_cons, List.countP_nil]
  by_cases h : y < x <;> simp [h]
theorem hiC_snoc (x : Int) (B : List Int) (y : Int) : hiC x (B ++ [y]) = hiC x B + if x < y then 1 else 0 := by
  unfold hiC
  rw [List.countP_append, List.countP_cons, List.countP_nil]
  by_cases h : x < y <;> simp [h]
theorem rdB_len {S : Sen} {P : List Pt} {W : List Int} {n : Int} (h : fltB S P W n = true) : rdB S P W n = decide ((W.length : Int) = S.samples) := by rw [rdB_eq, h, Bool.true_and]
theorem valid_odd {S : Sen} {P : List Pt} (h : validB S P = true) : S.samples = 1 ∨ S.samples = 3 ∨ S.samples = 5 := by
  unfold validB at h
  simp only [Bool.and_eq_true, decide_eq_true_eq] at h
  exact h.1.2
end Go.Proofs.Ytgjjmiaiclhidaa
