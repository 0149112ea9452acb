/- The raw readings that have a value, in the order of their numbers; the nearest; rise and fall. Plain laws. -/
import Derived.Test.YtgjjmiaiclhidaaValD
import Derived.Test.YtgjjmiaiclhidaaBaseE
namespace Go.Proofs.Ytgjjmiaiclhidaa

def rawAt (sgn : Bool) (i : Nat) : Nat := rawI (leastI sgn + i)
theorem rawAt_lt (sgn : Bool) (i : Nat) : rawAt sgn i < 256 := rawI_lt _
theorem num_rawAt {sgn : Bool} {i : Nat} (h : i < 256) : numI sgn (rawAt sgn i) = leastI sgn + i := num_raw (by omega) (by omega)
/-- The place of a raw reading. -/
def placeOf (sgn : Bool) (r : Nat) : Nat := (numI sgn r - leastI sgn).toNat
theorem placeOf_lt {sgn : Bool} {r : Nat} (h : r < 256) : placeOf sgn r < 256 ∧ rawAt sgn (placeOf sgn r) = r ∧ (placeOf sgn r : Int) = numI sgn r - leastI sgn := by
  unfold placeOf rawAt
  have hb : leastI sgn ≤ numI sgn r ∧ numI sgn r ≤ leastI sgn + 255 ∧ rawI (numI sgn r) = r := by
    unfold leastI numI rawI
    cases sgn
    · simp; omega
    · simp only [if_true, true_and]
      split <;> omega
  have e : ((numI sgn r - leastI sgn).toNat : Int) = numI sgn r - leastI sgn := Int.toNat_of_nonneg (by omega)
  refine ⟨by omega, ?_, e⟩
  rw [e, show leastI sgn + (numI sgn r - leastI sgn) = numI sgn r by omega]
  exact hb.2.2
def prOf (C : Conv) (P : List Pt) (i : Nat) : List Pt := if (valI C P (rawAt C.sgn i)).2 = 0 then [⟨rawAt C.sgn i, (valI C P (rawAt C.sgn i)).1⟩] else []
/-- The first n raw readings that have a value. -/
def prL (C : Conv) (P : List Pt) : Nat → List Pt
  | 0 => []
  | n + 1 => prL C P n ++ prOf C P n
theorem prL_len (C : Conv) (P : List Pt) : ∀ n, (prL C P n).length ≤ n
  | 0 => Nat.le_refl _
  | n + 1 => by
    have := prL_len C P n
    simp only [prL, List.length_append, prOf]
    split <;> simp <;> omega
theorem prL_mem {C : Conv} {P : List Pt} {p : Pt} : ∀ {n : Nat}, p ∈ prL C P n → ∃ i, i < n ∧ p = ⟨rawAt C.sgn i, (valI C P (rawAt C.sgn i)).1⟩ ∧ (valI C P (rawAt C.sgn i)).2 = 0
  | 0, h => by cases h
  | n + 1, h => by
    rcases List.mem_append.1 h with h | h
    · obtain ⟨i, hi, h2⟩ := prL_mem h
      exact ⟨i, by omega, h2⟩
    · unfold prOf at h
      split at h
      · rename_i h0
        simp at h
        exact ⟨n, by omega, h, h0⟩
      · cases h
theorem mem_prL {C : Conv} {P : List Pt} {i : Nat} (h0 : (valI C P (rawAt C.sgn i)).2 = 0) : ∀ {n : Nat}, i < n → (⟨rawAt C.sgn i, (valI C P (rawAt C.sgn i)).1⟩ : Pt) ∈ prL C P n
  | n + 1, h => by
    rcases Nat.lt_or_ge i n with h1 | h1
    · exact List.mem_append_left _ (mem_prL h0 h1)
    · obtain rfl : i = n := by omega
      refine List.mem_append_right _ ?_
      unfold prOf
      rw [if_pos h0]
      simp
theorem tabI_bd {sgn : Bool} {P : List Pt} (ht : tableB sgn P = true) (x : Int) : -1000000000000 ≤ tabI sgn P x ∧ tabI sgn P x ≤ 1000000000000 := by
  obtain ⟨h1, h2, h3, h4⟩ := tab_parts ht
  have hl := idxP_le sgn P x
  unfold tabI
  split
  · exact h3 _ (by omega)
  · rename_i hn
    split
    · exact h3 _ (by omega)
    · rename_i ho
      have hlt : idxP sgn P x < P.length := by omega
      have a := h3 _ hlt
      have b := h3 (idxP sgn P x - 1) (by omega)
      have c := idxP_at hlt
      have d := idxP_bef (sgn := sgn) (P := P) (x := x) (j := idxP sgn P x - 1) (by omega)
      generalize idxP sgn P x = K at *
      have c' : x ≤ ptN sgn P K := c
      have d' : ptN sgn P (K - 1) < x := d
      have := part_bd (e := ptV P K - ptV P (K - 1)) (t := x - ptN sgn P (K - 1)) (d := ptN sgn P K - ptN sgn P (K - 1)) (by omega) (by omega) (by omega)
      omega
theorem valI_bd {C : Conv} {P : List Pt} (h : convB C P = true) (r : Nat) : -1000000000000 ≤ (valI C P r).1 ∧ (valI C P r).1 ≤ 1000000000000 := by
  unfold valI valN
  split
  · rename_i h5; exact tabI_bd (convB_Tab h h5) _
  · split
    · unfold divV
      split
      · simp
      · exact clampI_bd _
    · split
      · exact clampI_bd _
      · split
        · have hb := clampI_bd (linS C (numI C.sgn r))
          by_cases hn : linI C (numI C.sgn r) < 0
          · unfold rootV; rw [if_pos hn]; simp
          · have := rootV_bd (y := linI C (numI C.sgn r)) (by omega) (clampI_idem _)
            omega
        · exact clampI_bd _
/-- All of them. -/
def prA (C : Conv) (P : List Pt) : List Pt := prL C P 256
def absd (v : Int) (p : Pt) : Int := max (p.val - v) (v - p.val)
theorem absd_nonneg (v : Int) (p : Pt) : 0 ≤ absd v p := by unfold absd; omega
/-- The nearest of a list, the first one of those that are equally near. -/
def amin (v : Int) (b : Pt) (l : List Pt) : Pt := l.foldl (fun b p => if absd v p < absd v b then p else b) b
theorem amin_snoc (v : Int) (b : Pt) (l : List Pt) (p : Pt) : amin v b (l ++ [p]) = if absd v p < absd v (amin v b l) then p else amin v b l := by
  unfold amin; rw [List.foldl_append]; rfl
theorem amin_self (v : Int) (b : Pt) (l : List Pt) : amin v b (b :: l) = amin v b l := by
  unfold amin; rw [List.foldl_cons, if_neg (by omega)]
theorem amin_le (v : Int) : ∀ (l : List Pt) (b : Pt), absd v (amin v b l) ≤ absd v b ∧ (∀ p ∈ l, absd v (amin v b l) ≤ absd v p) ∧ (amin v b l = b ∨ amin v b l ∈ l)
  | [], b => ⟨Int.le_refl _, (fun p h => by cases h), .inl rfl⟩
  | p :: l, b => by
    have e : amin v b (p :: l) = amin v (if absd v p < absd v b then p else b) l := rfl
    rw [e]
    have ⟨h1, h2, h3⟩ := amin_le v l (if absd v p < absd v b then p else b)
    by_cases h : absd v p < absd v b
    · rw [if_pos h] at h1 h2 h3 ⊢
      refine ⟨by omega, fun q hq => ?_, ?_⟩
      · rcases List.mem_cons.1 hq with rfl | hq
        · exact h1
        · exact h2 q hq
      · rcases h3 with h3 | h3
        · exact .inr (by rw [h3]; exact .head _)
        · exact .inr (.tail _ h3)
    · rw [if_neg h] at h1 h2 h3 ⊢
      refine ⟨h1, fun q hq => ?_, ?_⟩
      · rcases List.mem_cons.1 hq with rfl | hq
        · omega
        · exact h2 q hq
      · rcases h3 with h3 | h3
        · exact .inl h3
        · exact .inr (.tail _ h3)
def bestL (v : Int) : List Pt → Option Pt
  | [] => none
  | p :: l => some (amin v p l)
theorem bestL_snoc (v : Int) (l : List Pt) (p : Pt) : bestL v (l ++ [p]) = match bestL v l with
    | none => some p
    | some b => some (if absd v p < absd v b then p else b) := by
  cases l with
  | nil => rfl
  | cons q l => simp only [List.cons_append, bestL, amin_snoc]
/-- What Nearest gives. -/
def nearI (C : Conv) (P : List Pt) (v : Int) : Int × Int :=
  if convB C P then (match bestL (clampI v) (prA C P) with
    | none => (0, 8)
    | some b => ((b.raw : Int), 0)) else (0, 1)
/-- Whether something rises (falls) within a list. -/
def riseL : List Pt → Bool
  | p :: q :: l => decide (p.val < q.val) || riseL (q :: l)
  | _ => false
def fallL : List Pt → Bool
  | p :: q :: l => decide (q.val < p.val) || fallL (q :: l)
  | _ => false
theorem riseL_snoc : ∀ (l : List Pt) (p : Pt), riseL (l ++ [p]) = (riseL l || match l.getLast? with | some q => decide (q.val < p.val) | none => false)
  | [], p => rfl
  | [q], p => by simp [riseL]
  | q :: r :: l, p => by
    have := riseL_snoc (r :: l) p
    simp only [List.cons_append] at this ⊢
    simp only [riseL]
    rw [this, List.getLast?_cons_cons, Bool.or_assoc]
theorem fallL_snoc : ∀ (l : List Pt) (p : Pt), fallL (l ++ [p]) = (fallL l || match l.getLast? with | some q => decide (p.val < q.val) | none => false)
  | [], p => rfl
  | [q], p => by simp [fallL]
  | q :: r :: l, p => by
    have := fallL_snoc (r :: l) p
    simp only [List.cons_append] at this ⊢
    simp only [fallL]
    rw [this, List.getLast?_cons_cons, Bool.or_assoc]
/-- What Direction gives. -/
def dirI (C : Conv) (P : List Pt) : Int × Int :=
  if convB C P then (if fallL (prA C P) = false then (1, 0) else if riseL (prA C P) = false then (-1, 0) else (0, 0)) else (0, 1)
end Go.Proofs.Ytgjjmiaiclhidaa
