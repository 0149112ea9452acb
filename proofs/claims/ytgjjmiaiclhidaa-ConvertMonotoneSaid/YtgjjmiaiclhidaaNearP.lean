/- ConvertNear and ConvertMonotone: the plain laws. -/
import Derived.Test.YtgjjmiaiclhidaaPairs
namespace Go.Proofs.Ytgjjmiaiclhidaa

theorem fall_pair : ∀ {l : List Pt}, fallL l = false → l.Pairwise fun p q => p.val ≤ q.val
  | [], _ => .nil
  | [p], _ => List.pairwise_cons.2 ⟨fun r hr => (by cases hr), .nil⟩
  | p :: q :: l, h => by
    simp only [fallL, Bool.or_eq_false_iff, decide_eq_false_iff_not] at h
    have ih := fall_pair h.2
    refine List.pairwise_cons.2 ⟨fun r hr => ?_, ih⟩
    rcases List.mem_cons.1 hr with rfl | hr
    · omega
    · have := (List.pairwise_cons.1 ih).1 r hr; omega
theorem rise_pair : ∀ {l : List Pt}, riseL l = false → l.Pairwise fun p q => q.val ≤ p.val
  | [], _ => .nil
  | [p], _ => List.pairwise_cons.2 ⟨fun r hr => (by cases hr), .nil⟩
  | p :: q :: l, h => by
    simp only [riseL, Bool.or_eq_false_iff, decide_eq_false_iff_not] at h
    have ih := rise_pair h.2
    refine List.pairwise_cons.2 ⟨fun r hr => ?_, ih⟩
    rcases List.mem_cons.1 hr with rfl | hr
    · omega
    · have := (List.pairwise_cons.1 ih).1 r hr; omega
theorem pair_fall : ∀ {l : List Pt}, (l.Pairwise fun p q => p.val ≤ q.val) → fallL l = false
  | [], _ => rfl
  | [p], _ => rfl
  | p :: q :: l, h => by
    have ⟨h1, h2⟩ := List.pairwise_cons.1 h
    have := h1 q (.head _)
    simp only [fallL, Bool.or_eq_false_iff, decide_eq_false_iff_not]
    exact ⟨by omega, pair_fall h2⟩
theorem pair_rise : ∀ {l : List Pt}, (l.Pairwise fun p q => q.val ≤ p.val) → riseL l = false
  | [], _ => rfl
  | [p], _ => rfl
  | p :: q :: l, h => by
    have ⟨h1, h2⟩ := List.pairwise_cons.1 h
    have := h1 q (.head _)
    simp only [riseL, Bool.or_eq_false_iff, decide_eq_false_iff_not]
    exact ⟨by omega, pair_rise h2⟩
theorem two_sub {C : Conv} {P : List Pt} {i j : Nat} (hi : (valI C P (rawAt C.sgn i)).2 = 0) (hj : (valI C P (rawAt C.sgn j)).2 = 0) (hij : i < j) : ∀ {n : Nat}, j < n →
    List.Sublist [(⟨rawAt C.sgn i, (valI C P (rawAt C.sgn i)).1⟩ : Pt), ⟨rawAt C.sgn j, (valI C P (rawAt C.sgn j)).1⟩] (prL C P n)
  | n + 1, h => by
    rcases Nat.lt_or_ge j n with h1 | h1
    · exact (two_sub hi hj hij h1).trans (List.sublist_append_left _ _)
    · obtain rfl : j = n := by omega
      have e : prOf C P j = [⟨rawAt C.sgn j, (valI C P (rawAt C.sgn j)).1⟩] := if_pos hj
      have a : List.Sublist [(⟨rawAt C.sgn i, (valI C P (rawAt C.sgn i)).1⟩ : Pt)] (prL C P j) := List.singleton_sublist.2 (mem_prL hi hij)
      show List.Sublist _ (prL C P j ++ prOf C P j)
      rw [e]
      exact a.append (List.Sublist.refl _)
theorem prL_pair {C : Conv} {P : List Pt} {R : Pt → Pt → Prop} (hR : ∀ i j, i < j → j < 256 → R ⟨rawAt C.sgn i, (valI C P (rawAt C.sgn i)).1⟩ ⟨rawAt C.sgn j, (valI C P (rawAt C.sgn j)).1⟩) : ∀ n, n ≤ 256 → (prL C P n).Pairwise R
  | 0, _ => .nil
  | n + 1, h => by
    show (prL C P n ++ prOf C P n).Pairwise R
    refine List.pairwise_append.2 ⟨prL_pair hR n (by omega), ?_, fun p hp q hq => ?_⟩
    · unfold prOf
      split
      · exact List.pairwise_cons.2 ⟨fun r hr => (by cases hr), .nil⟩
      · exact .nil
    · obtain ⟨i, hi, rfl, _⟩ := prL_mem hp
      unfold prOf at hq
      split at hq
      · simp at hq
        subst hq
        exact hR i n hi (by omega)
      · cases hq
theorem dirI_eq (C : Conv) (P : List Pt) (hb : convB C P = true) : dirI C P = if fallL (prA C P) = false then (1, 0) else if riseL (prA C P) = false then (-1, 0) else (0, 0) := by
  unfold dirI; rw [if_pos hb]
theorem dirI_ways (C : Conv) (P : List Pt) (hb : convB C P = true) : (dirI C P).2 = 0 ∧ -1 ≤ (dirI C P).1 ∧ (dirI C P).1 ≤ 1 ∧ ((dirI C P).1 = 1 → fallL (prA C P) = false) ∧ ((dirI C P).1 = -1 → riseL (prA C P) = false) := by
  rw [dirI_eq C P hb]
  generalize fallL (prA C P) = f
  generalize riseL (prA C P) = r
  cases f <;> cases r <;> decide
theorem dir_mono {C : Conv} {P : List Pt} (hb : convB C P = true) {a b : Nat} (ha : a < 256) (hb' : b < 256) (ea : (valI C P a).2 = 0) (eb : (valI C P b).2 = 0) (hab : numI C.sgn a ≤ numI C.sgn b) :
    ((dirI C P).1 = 1 → (valI C P a).1 ≤ (valI C P b).1) ∧ ((dirI C P).1 = -1 → (valI C P b).1 ≤ (valI C P a).1) := by
  obtain ⟨_, _, _, h1, h2⟩ := dirI_ways C P hb
  obtain ⟨i0, i1, i2⟩ := placeOf_lt (sgn := C.sgn) ha
  obtain ⟨j0, j1, j2⟩ := placeOf_lt (sgn := C.sgn) hb'
  generalize placeOf C.sgn a = i at *
  generalize placeOf C.sgn b = j at *
  have hij : i ≤ j := by omega
  rcases Nat.lt_or_ge i j with h | h
  · rw [← i1] at ea
    rw [← j1] at eb
    have hs : List.Sublist _ (prA C P) := two_sub (n := 256) ea eb h j0
    rw [i1, j1] at hs
    refine ⟨fun hw => ?_, fun hw => ?_⟩
    · have := (fall_pair (h1 hw)).sublist hs
      have := (List.pairwise_cons.1 this).1 _ (.head _)
      exact this
    · have := (rise_pair (h2 hw)).sublist hs
      have := (List.pairwise_cons.1 this).1 _ (.head _)
      exact this
  · obtain rfl : i = j := by omega
    rw [i1] at j1
    subst j1
    exact ⟨fun _ => Int.le_refl _, fun _ => Int.le_refl _⟩
theorem linS_mono {C : Conv} {x y : Int} (hm : 0 ≤ C.m) (h : x ≤ y) : linS C x ≤ linS C y := by
  unfold linS
  have h1 : C.m * x ≤ C.m * y := Int.mul_le_mul_of_nonneg_left h hm
  have h2 := tenI_pos (6 + C.k2).toNat
  have h3 : C.m * x * tenI (6 + C.k2).toNat ≤ C.m * y * tenI (6 + C.k2).toNat := Int.mul_le_mul_of_nonneg_right h1 (by omega)
  omega
theorem linS_anti {C : Conv} {x y : Int} (hm : C.m ≤ 0) (h : x ≤ y) : linS C y ≤ linS C x := by
  unfold linS
  have h1 : C.m * y ≤ C.m * x := Int.mul_le_mul_of_nonpos_left hm h
  have h2 := tenI_pos (6 + C.k2).toNat
  have h3 : C.m * y * tenI (6 + C.k2).toNat ≤ C.m * x * tenI (6 + C.k2).toNat := Int.mul_le_mul_of_nonneg_right h1 (by omega)
  omega
theorem valI_lin {C : Conv} {P : List Pt} (h1 : C.form = 1) (r : Nat) : valI C P r = (linI C (numI C.sgn r), 0) := by
  unfold valI valN
  rw [if_neg (by omega), if_neg (by omega), if_neg (by omega), if_neg (by omega)]
theorem dir_lin {C : Conv} {P : List Pt} (hb : convB C P = true) (h1 : C.form = 1) : (dirI C P).1 ≠ 0 ∧ (0 ≤ C.m → (dirI C P).1 = 1) := by
  rw [dirI_eq C P hb]
  rcases Int.lt_or_le C.m 0 with hm | hm
  · have hr : riseL (prA C P) = false := pair_rise (prL_pair (fun i j hij hj => by
      show (valI C P (rawAt C.sgn j)).1 ≤ (valI C P (rawAt C.sgn i)).1
      rw [valI_lin h1, valI_lin h1, num_rawAt hj, num_rawAt (by omega)]
      exact clampI_mono (linS_anti (by omega) (by omega))) 256 (Nat.le_refl _))
    rw [hr]
    refine ⟨?_, fun h => by omega⟩
    split
    · decide
    · decide
  · have hf : fallL (prA C P) = false := pair_fall (prL_pair (fun i j hij hj => by
      show (valI C P (rawAt C.sgn i)).1 ≤ (valI C P (rawAt C.sgn j)).1
      rw [valI_lin h1, valI_lin h1, num_rawAt hj, num_rawAt (by omega)]
      exact clampI_mono (linS_mono hm (by omega))) 256 (Nat.le_refl _))
    rw [hf]
    rw [if_pos rfl]
    exact ⟨by decide, fun _ => rfl⟩
theorem mem_prA {C : Conv} {P : List Pt} {r : Nat} (hr : r < 256) (e : (valI C P r).2 = 0) : (⟨r, (valI C P r).1⟩ : Pt) ∈ prA C P := by
  obtain ⟨i0, i1, i2⟩ := placeOf_lt (sgn := C.sgn) hr
  have := mem_prL (C := C) (P := P) (i := placeOf C.sgn r) (by rw [i1]; exact e) (n := 256) i0
  rw [i1] at this
  exact this
/-- What is known of the nearest. -/
theorem nearI_spec {C : Conv} {P : List Pt} (hb : convB C P = true) (v : Int) : ((nearI C P v).2 = 0 ∨ (nearI C P v).2 = 8) ∧
    ∀ r, r < 256 → (valI C P r).2 = 0 → (nearI C P v).2 = 0 ∧ ∃ b : Nat, b < 256 ∧ (nearI C P v).1 = b ∧ (valI C P b).2 = 0 ∧ max ((valI C P b).1 - clampI v) (clampI v - (valI C P b).1) ≤ max ((valI C P r).1 - clampI v) (clampI v - (valI C P r).1) := by
  unfold nearI
  rw [if_pos hb]
  have hm := @mem_prA C P
  have hin : ∀ p ∈ prA C P, ∃ i, i < 256 ∧ p = ⟨rawAt C.sgn i, (valI C P (rawAt C.sgn i)).1⟩ ∧ (valI C P (rawAt C.sgn i)).2 = 0 := fun p hp => prL_mem (n := 256) hp
  generalize prA C P = l at *
  cases l with
  | nil => exact ⟨.inr rfl, fun r hr e => by cases hm hr e⟩
  | cons p l =>
    refine ⟨.inl rfl, fun r hr e => ⟨rfl, ?_⟩⟩
    have ⟨h1, h2, h3⟩ := amin_le (clampI v) l p
    have hb2 : amin (clampI v) p l ∈ p :: l := by
      rcases h3 with h3 | h3
      · rw [h3]; exact .head _
      · exact .tail _ h3
    obtain ⟨i, hi, ei, e0⟩ := hin _ hb2
    have hle : absd (clampI v) (amin (clampI v) p l) ≤ absd (clampI v) ⟨r, (valI C P r).1⟩ := by
      rcases List.mem_cons.1 (hm hr e) with h | h
      · rw [h]; exact h1
      · exact h2 _ h
    refine ⟨rawAt C.sgn i, rawAt_lt _ _, ?_, e0, ?_⟩
    · show ((amin (clampI v) p l).raw : Int) = _
      rw [ei]
    · rw [ei] at hle
      exact hle
theorem valueI_of {C : Conv} {P : List Pt} (hb : convB C P = true) (r : Nat) : valueI C P r = valI C P r := if_pos hb
end Go.Proofs.Ytgjjmiaiclhidaa
