/- Filters of samples as plain data; the median. No program stands here. -/
import Derived.Test.YtgjjmiaiclhidaaBaseA
namespace Go.Proofs.Ytgjjmiaiclhidaa

/-- Whether a filter is one of a sensor. -/
def fltB (S : Sen) (P : List Pt) (W : List Int) (n : Int) : Bool :=
  validB S P && decide ((W.length : Int) ≤ S.samples ∧ 0 ≤ n ∧ n ≤ 3 ∧ (n < 3 ∨ W.length = 0))
/-- The next window. -/
def nextW (k : Int) (W : List Int) (r : Int) : List Int := if k < (W.length : Int) + 1 then (W ++ [r]).drop 1 else W ++ [r]
/-- The next filter of a valid one. -/
def stepF (k : Int) (W : List Int) (n : Int) (r : Int) (ok : Bool) : List Int × Int :=
  if ok then (nextW k W r, 0) else if min (n + 1) 3 = 3 then ([], 3) else (W, min (n + 1) 3)
def numZ (sgn : Bool) (x : Int) : Int := numI sgn x.toNat
theorem numZ_inj {sgn : Bool} {x y : Int} (hx : 0 ≤ x ∧ x ≤ 255) (hy : 0 ≤ y ∧ y ≤ 255) (h : numZ sgn x = numZ sgn y) : x = y := by
  unfold numZ numI at h
  cases sgn
  · simp at h; omega
  · simp only [true_and] at h
    split at h <;> split at h <;> omega
def ltC (sgn : Bool) (m : Int) (W : List Int) : Nat := W.countP fun y => decide (numZ sgn y < numZ sgn m)
def eqC (m : Int) (W : List Int) : Nat := W.countP fun y => decide (y = m)
def gtC (sgn : Bool) (m : Int) (W : List Int) : Nat := W.countP fun y => decide (numZ sgn m < numZ sgn y)
/-- The median: half of the others are ahead of it. -/
structure IsMed (sgn : Bool) (W : List Int) (m : Int) : Prop where
  lo : ltC sgn m W ≤ W.length / 2
  hi : W.length / 2 < ltC sgn m W + eqC m W
theorem IsMed.mem {sgn : Bool} {W : List Int} {m : Int} (h : IsMed sgn W m) : m ∈ W := by
  have : 0 < eqC m W := by have := h.lo; have := h.hi; omega
  obtain ⟨x, hx, he⟩ := List.countP_pos_iff.1 this
  rw [← of_decide_eq_true he]; exact hx
theorem cnt3 (sgn : Bool) {W : List Int} (hb : ∀ x ∈ W, 0 ≤ x ∧ x ≤ 255) {m : Int} (hm : 0 ≤ m ∧ m ≤ 255) : ltC sgn m W + eqC m W + gtC sgn m W = W.length := by
  unfold ltC eqC gtC
  induction W with
  | nil => rfl
  | cons a l ih =>
    have ih := ih fun x hx => hb x (.tail _ hx)
    have ha := hb a (.head _)
    rw [List.countP_cons, List.countP_cons, List.countP_cons, List.length_cons]
    have hi := fun h => numZ_inj (sgn := sgn) ha hm h
    by_cases h1 : a = m
    · subst h1
      simp
      omega
    · have h2 : numZ sgn a ≠ numZ sgn m := fun h => h1 (hi h)
      rcases Int.lt_or_lt_of_ne h2 with h3 | h3
      · simp [h1, h3, show ¬ numZ sgn m < numZ sgn a by omega]; omega
      · simp [h1, h3, show ¬ numZ sgn a < numZ sgn m by omega]; omega
theorem IsMed.above {sgn : Bool} {W : List Int} (hb : ∀ x ∈ W, 0 ≤ x ∧ x ≤ 255) {m : Int} (h : IsMed sgn W m) : gtC sgn m W + W.length / 2 + 1 ≤ W.length := by
  have := cnt3 sgn hb (hb m h.mem)
  have := h.hi
  omega
theorem lt_le {sgn : Bool} {a b : Int} (hl : numZ sgn a < numZ sgn b) : ∀ l : List Int, (l.countP fun y => decide (numZ sgn y < numZ sgn a)) + (l.countP fun y => decide (y = a)) ≤ l.countP fun y => decide (numZ sgn y < numZ sgn b)
  | [] => Nat.le_refl _
  | c :: l => by
    have ih := lt_le hl l
    rw [List.countP_cons, List.countP_cons, List.countP_cons]
    by_cases h1 : c = a
    · subst h1
      simp [hl]
      omega
    · by_cases h2 : numZ sgn c < numZ sgn a
      · simp [h1, h2, show numZ sgn c < numZ sgn b by omega]; omega
      · simp [h1, h2]; omega
theorem med_uniq {sgn : Bool} {W : List Int} (hb : ∀ x ∈ W, 0 ≤ x ∧ x ≤ 255) {m m' : Int} (h : IsMed sgn W m) (h' : IsMed sgn W m') : m = m' := by
  have hm := hb m h.mem
  have hm' := hb m' h'.mem
  have key : ∀ {a b : Int}, IsMed sgn W a → IsMed sgn W b → ¬ numZ sgn a < numZ sgn b := by
    intro a b ha hb' hl
    have h1 : ltC sgn a W + eqC a W ≤ ltC sgn b W := lt_le hl W
    have := ha.hi
    have := hb'.lo
    omega
  rcases Int.lt_trichotomy (numZ sgn m) (numZ sgn m') with hl | he | hl
  · exact absurd hl (key h h')
  · exact numZ_inj hm hm' he
  · exact absurd hl (key h' h)
theorem lteq_all {sgn : Bool} {m : Int} (hm : 0 ≤ m ∧ m ≤ 255) : ∀ l : List Int, (∀ y ∈ l, numZ sgn y ≤ numZ sgn m ∧ 0 ≤ y ∧ y ≤ 255) → (l.countP fun y => decide (numZ sgn y < numZ sgn m)) + (l.countP fun y => decide (y = m)) = l.length
  | [], _ => rfl
  | c :: l, h => by
    have ih := lteq_all hm l fun y hy => h y (.tail _ hy)
    have hc := h c (.head _)
    rw [List.countP_cons, List.countP_cons, List.length_cons]
    by_cases h1 : c = m
    · subst h1
      simp
      omega
    · have h2 : numZ sgn c < numZ sgn m := by
        rcases Int.lt_or_eq_of_le hc.1 with h | h
        · exact h
        · exact absurd (numZ_inj hc.2 hm h) h1
      simp [h1, h2]; omega
/-- The middle of a sorted list. -/
theorem med_sorted {sgn : Bool} {W l : List Int} (hb : ∀ x ∈ W, 0 ≤ x ∧ x ≤ 255) (hp : l.Perm W) (hs : l.Pairwise fun x y => numZ sgn x ≤ numZ sgn y) (hne : 0 < W.length) : IsMed sgn W (l.getD (W.length / 2) 0) := by
  have hlen := hp.length_eq
  obtain ⟨h, hh⟩ : ∃ h, h = W.length / 2 := ⟨_, rfl⟩
  rw [← hh]
  have hlt : h < l.length := by omega
  have hbl : ∀ x ∈ l, 0 ≤ x ∧ x ≤ 255 := fun x hx => hb x (hp.mem_iff.1 hx)
  have e : l = l.take h ++ (l.getD h 0 :: l.drop (h + 1)) := by
    rw [List.getD_eq_getElem?_getD, List.getElem?_eq_getElem hlt]
    simp
  have hml : l.getD h 0 ∈ l := by
    rw [List.getD_eq_getElem?_getD, List.getElem?_eq_getElem hlt]
    exact List.getElem_mem hlt
  generalize l.getD h 0 = m at *
  have htl : (l.take h).length = h := by rw [List.length_take]; omega
  rw [e] at hs
  obtain ⟨s1, s2, s3⟩ := List.pairwise_append.1 hs
  obtain ⟨s4, s5⟩ := List.pairwise_cons.1 s2
  have c1 : ltC sgn m W = (l.countP fun y => decide (numZ sgn y < numZ sgn m)) := (hp.countP_eq _).symm
  have c2 : eqC m W = (l.countP fun y => decide (y = m)) := (hp.countP_eq _).symm
  rw [e, List.countP_append, List.countP_cons] at c1 c2
  have d0 : ((l.drop (h + 1)).countP fun y => decide (numZ sgn y < numZ sgn m)) = 0 := List.countP_eq_zero.2 fun y hy => by
    have := s4 y hy
    simp; omega
  have d1 : ((l.take h).countP fun y => decide (numZ sgn y < numZ sgn m)) + ((l.take h).countP fun y => decide (y = m)) = h := by
    rw [lteq_all (hbl m hml) _ fun y hy => ⟨s3 y hy m (.head _), hbl y (List.mem_of_mem_take hy)⟩, htl]
  simp at c1 c2
  refine ⟨?_, ?_⟩
  · rw [← hh]; omega
  · rw [← hh]; omega
/-- How many stand before the i-th, among the first k. -/
def befN (sgn : Bool) (W : List Int) (i : Nat) : Nat → Nat
  | 0 => 0
  | k + 1 => befN sgn W i k + if numZ sgn (W.getD k 0) < numZ sgn (W.getD i 0) ∨ (numZ sgn (W.getD k 0) = numZ sgn (W.getD i 0) ∧ k < i) then 1 else 0
theorem befN_le (sgn : Bool) (W : List Int) (i : Nat) : ∀ k, befN sgn W i k ≤ k
  | 0 => Nat.le_refl _
  | k + 1 => by have := befN_le sgn W i k; simp only [befN]; split <;> omega
theorem take_snocI {l : List Int} {k : Nat} (h : k < l.length) : l.take (k + 1) = l.take k ++ [l.getD k 0] := by
  rw [List.take_succ_eq_append_getElem h, List.getD_eq_getElem?_getD, List.getElem?_eq_getElem h]; rfl
theorem getD_memI {l : List Int} {k : Nat} (h : k < l.length) : l.getD k 0 ∈ l := by
  rw [List.getD_eq_getElem?_getD, List.getElem?_eq_getElem h]; exact List.getElem_mem h
theorem befN_eq {sgn : Bool} {W : List Int} (hb : ∀ x ∈ W, 0 ≤ x ∧ x ≤ 255) {i : Nat} (hi : i < W.length) : ∀ k, k ≤ W.length →
    befN sgn W i k = ((W.take k).countP fun y => decide (numZ sgn y < numZ sgn (W.getD i 0))) + ((W.take (min k i)).countP fun y => decide (y = W.getD i 0))
  | 0, _ => by simp [befN]
  | k + 1, h => by
    have ih := befN_eq (sgn := sgn) hb hi k (by omega)
    have hk : k < W.length := by omega
    simp only [befN]
    rw [ih, take_snocI hk, List.countP_append]
    have hbk := hb _ (getD_memI hk)
    have hbi := hb _ (getD_memI hi)
    have hij := fun h => numZ_inj (sgn := sgn) hbk hbi h
    by_cases hki : k < i
    · rw [show min (k + 1) i = k + 1 by omega, show min k i = k by omega, take_snocI hk, List.countP_append]
      generalize W.getD k 0 = x at *
      generalize W.getD i 0 = m at *
      by_cases h1 : x = m
      · subst h1; simp [hki]; omega
      · by_cases h2 : numZ sgn x < numZ sgn m
        · simp [h1, h2]; omega
        · have h3 : numZ sgn x ≠ numZ sgn m := fun h => h1 (hij h)
          simp [h1, h2, h3]
    · rw [show min (k + 1) i = i by omega, show min k i = i by omega]
      generalize W.getD k 0 = x at *
      generalize W.getD i 0 = m at *
      by_cases h2 : numZ sgn x < numZ sgn m
      · simp [h2]; omega
      · simp [h2, hki]
theorem bef_med {sgn : Bool} {W : List Int} (hb : ∀ x ∈ W, 0 ≤ x ∧ x ≤ 255) {i : Nat} (hi : i < W.length) (h : befN sgn W i W.length = W.length / 2) : IsMed sgn W (W.getD i 0) := by
  rw [befN_eq hb hi _ (Nat.le_refl _), List.take_length, show min W.length i = i by omega] at h
  have e : eqC (W.getD i 0) W = ((W.take i).countP fun y => decide (y = W.getD i 0)) + ((W.drop i).countP fun y => decide (y = W.getD i 0)) := by
    unfold eqC; rw [← List.countP_append, List.take_append_drop]
  have hd : 0 < (W.drop i).countP fun y => decide (y = W.getD i 0) := by
    refine List.countP_pos_iff.2 ⟨W.getD i 0, ?_, by simp⟩
    rw [List.drop_eq_getElem_cons hi, List.getD_eq_getElem?_getD, List.getElem?_eq_getElem hi]
    exact .head _
  refine ⟨?_, ?_⟩
  · unfold ltC; omega
  · unfold ltC at *; omega
theorem nth_in {p : Int → Bool} : ∀ (l : List Int) (t : Nat), t < l.countP p → ∃ i, i < l.length ∧ p (l.getD i 0) = true ∧ (l.take i).countP p = t
  | [], t, h => by simp at h
  | a :: l, t, h => by
    rw [List.countP_cons] at h
    by_cases ha : p a = true
    · rcases t with _ | t
      · exact ⟨0, by simp, by simpa using ha, by simp⟩
      · rw [if_pos ha] at h
        obtain ⟨i, h1, h2, h3⟩ := nth_in (p := p) l t (by omega)
        exact ⟨i + 1, by simp; omega, by simpa using h2, by rw [List.take_succ_cons, List.countP_cons, if_pos ha, h3]⟩
    · rw [if_neg ha] at h
      obtain ⟨i, h1, h2, h3⟩ := nth_in (p := p) l t (by omega)
      exact ⟨i + 1, by simp; omega, by simpa using h2, by rw [List.take_succ_cons, List.countP_cons, if_neg ha, h3]; rfl⟩
theorem med_bef {sgn : Bool} {W : List Int} (hb : ∀ x ∈ W, 0 ≤ x ∧ x ≤ 255) {m : Int} (h : IsMed sgn W m) : ∃ i, i < W.length ∧ befN sgn W i W.length = W.length / 2 := by
  have h1 := h.lo
  have h2 := h.hi
  obtain ⟨i, hi, he, hc⟩ := nth_in (p := fun y => decide (y = m)) W (W.length / 2 - ltC sgn m W) (by unfold eqC at h2; omega)
  refine ⟨i, hi, ?_⟩
  have he := of_decide_eq_true he
  rw [befN_eq hb hi _ (Nat.le_refl _), List.take_length, show min W.length i = i by omega, he, hc]
  unfold ltC at *; omega
theorem bef_is {sgn : Bool} {W : List Int} (hb : ∀ x ∈ W, 0 ≤ x ∧ x ≤ 255) {m : Int} (h : IsMed sgn W m) {i : Nat} (hi : i < W.length) (he : befN sgn W i W.length = W.length / 2) : W.getD i 0 = m :=
  med_uniq hb (bef_med hb hi he) h
end Go.Proofs.Ytgjjmiaiclhidaa
