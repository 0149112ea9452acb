/- What is within is what reaches: plain laws of trees. -/
import Derived.Test.YtijjkonephjodaaEnH
namespace Go.Proofs.Ytijjkonephjodaa
open Go.RowKit

theorem nodup_inn {l : List Asc} (h : dupB l = false) : (l.map (·.inn)).Nodup := by
  rw [List.nodup_iff_pairwise_ne, List.pairwise_map, List.pairwise_iff_getElem]
  intro i j hi hj hij he
  have h1 := List.any_eq_false.1 h j (List.mem_range.2 hj)
  simp only [Bool.not_eq_true] at h1
  have h2 := List.any_eq_false.1 h1 i (List.mem_range.2 hij)
  rw [List.getD_eq_getElem?_getD, List.getD_eq_getElem?_getD, List.getElem?_eq_getElem hi, List.getElem?_eq_getElem hj] at h2
  simp [he] at h2
theorem abv_self {l : List Asc} (h : cycB l = false) (e : Ent) : abv l e e = false := by
  cases ha : abv l e e with
  | false => rfl
  | true =>
    obtain ⟨a, hm, hin⟩ := List.mem_map.1 (abv_contained ha)
    have h1 := List.any_eq_false.1 h a hm
    rw [hin, ha] at h1
    simp at h1
theorem nodup_within {l : List Asc} (hd : dupB l = false) (hc : cycB l = false) (e : Ent) : (withinL l e).Nodup := by
  unfold withinL
  rw [List.nodup_cons]
  refine ⟨fun hm => ?_, (nodup_inn hd).filter _⟩
  have := (List.mem_filter.1 hm).2
  rw [abv_self hc] at this
  cases this
theorem wth_strict {l : List Asc} (h : chkE l = 0) (e : Ent) {k : Nat} (hk : k + 1 < (wthL l e).length) : ltE ((wthL l e).getD k default) ((wthL l e).getD (k + 1) default) := by
  have ⟨hd, hc⟩ := chk_parts h
  have hn : (wthL l e).Nodup := (isort_perm _).nodup_iff.2 (nodup_within hd hc e)
  have hs : srtE (wthL l e) := isort_srt _
  unfold srtE at hs
  rw [List.pairwise_iff_getElem] at hs
  rw [List.nodup_iff_pairwise_ne, List.pairwise_iff_getElem] at hn
  have h1 := hs k (k + 1) (by omega) hk (by omega)
  have h2 := hn k (k + 1) (by omega) hk (by omega)
  rw [List.getD_eq_getElem?_getD, List.getD_eq_getElem?_getD, List.getElem?_eq_getElem (by omega), List.getElem?_eq_getElem hk]
  show ltE (wthL l e)[k] (wthL l e)[k + 1]
  rcases ltE_tri (wthL l e)[k] (wthL l e)[k + 1] with h | h | h
  · exact h
  · exact absurd h h2
  · exact absurd h h1
theorem mem_reach {l : List Asc} {z x : Ent} : z ∈ wthL l x ↔ ∃ k, up l z k = some x := by
  rw [mem_wth]
  constructor
  · rintro (rfl | h)
    · exact ⟨0, rfl⟩
    · obtain ⟨k, hk⟩ := abv_iff.1 h
      exact ⟨k + 1, hk⟩
  · rintro ⟨k, hk⟩
    cases k with
    | zero => exact .inl (Option.some.inj hk)
    | succ k => exact .inr (abv_iff.2 ⟨k, hk⟩)
/-- Entities that are not around each other share nothing. -/
theorem share_none {l : List Asc} {x y z : Ent} (h1 : y ∉ wthL l x) (h2 : x ∉ wthL l y) (hz : z ∈ wthL l x) : z ∉ wthL l y := by
  intro hy
  obtain ⟨i, hi⟩ := mem_reach.1 hz
  obtain ⟨j, hj⟩ := mem_reach.1 hy
  rcases Nat.lt_or_ge j i with h | h
  · obtain ⟨d, rfl⟩ := Nat.exists_eq_add_of_le (Nat.le_of_lt h)
    rw [up_add, hj] at hi
    exact h1 (mem_reach.2 ⟨d, hi⟩)
  · obtain ⟨d, rfl⟩ := Nat.exists_eq_add_of_le h
    rw [up_add, hi] at hj
    exact h2 (mem_reach.2 ⟨d, hj⟩)
/-- Whether x is met within the first k steps up from z. -/
def rch (l : List Asc) (z x : Ent) (k : Nat) : Bool := (List.range k).any fun j => decide (up l z j = some x)
theorem rch_succ {l : List Asc} {z x u : Ent} {k : Nat} (h : up l z k = some u) : rch l z x (k + 1) = (rch l z x k || decide (u = x)) := by
  unfold rch
  rw [List.range_succ, List.any_append]
  simp [h]
theorem rch_all {l : List Asc} {z x : Ent} : rch l z x (l.length + 1) = decide (z ∈ wthL l x) := by
  rw [Bool.eq_iff_iff, decide_eq_true_eq, mem_wth]
  unfold rch abv
  rw [List.any_eq_true, List.any_eq_true]
  constructor
  · rintro ⟨j, hj, hx⟩
    have hj := List.mem_range.1 hj
    have hx := of_decide_eq_true hx
    cases j with
    | zero => exact .inl (Option.some.inj hx)
    | succ j => exact .inr ⟨j, List.mem_range.2 (by omega), by simpa using hx⟩
  · rintro (rfl | ⟨j, hj, hx⟩)
    · exact ⟨0, List.mem_range.2 (by omega), by simp [up]⟩
    · have hj := List.mem_range.1 hj
      exact ⟨j + 1, List.mem_range.2 (by omega), hx⟩
theorem rch_stop {l : List Asc} {z x : Ent} {k : Nat} (hk : k ≤ l.length) (h : up l z (k + 1) = none) : rch l z x (k + 1) = decide (z ∈ wthL l x) := by
  rw [← rch_all, Bool.eq_iff_iff]
  unfold rch
  rw [List.any_eq_true, List.any_eq_true]
  constructor
  · rintro ⟨j, hj, hx⟩
    exact ⟨j, List.mem_range.2 (by have := List.mem_range.1 hj; omega), hx⟩
  · rintro ⟨j, hj, hx⟩
    refine ⟨j, List.mem_range.2 ?_, hx⟩
    rcases Nat.lt_or_ge j (k + 1) with h1 | h1
    · exact h1
    · have := up_some_le (k := j) (j := k + 1) (by rw [of_decide_eq_true hx]; rfl) h1
      rw [h] at this
      cases this
end Go.Proofs.Ytijjkonephjodaa
