/- A sector's own bytes against the device's; the loop of Open, plain. -/
import Derived.Test.YtkdadnlleepkfaaLgE
import Derived.Test.YtkdadnlleepkfaaLgPl
namespace Go.Proofs.Ytkdadnlleepkfaa
open Go.RowKit
set_option linter.unusedVariables false
set_option linter.unusedSimpArgs false

theorem evAt_ext {f b : Nat → Nat} {a c : Nat} (h : ∀ i, i < 17 → f (a + i) = b (c + i)) : evAt f a = evAt b c := by
  unfold evAt
  rw [h 16 (by omega), decEv_ext (c := fun i => f (a + i)) (d := fun i => b (c + i)) (fun i hi => h i (by omega))]
theorem freeAt_ext {f b : Nat → Nat} {a c : Nat} (h : ∀ i, i < 17 → f (a + i) = b (c + i)) : freeAt f a = freeAt b c := by
  unfold freeAt
  rw [Bool.eq_iff_iff, List.all_eq_true, List.all_eq_true]
  constructor <;> intro hx i hi <;> have := hx i hi <;> have h1 := h i (List.mem_range.1 hi)
  · rw [← h1]; exact this
  · rw [h1]; exact this
section
variable {f b : Nat → Nat} {G : Geo} {j : Nat} (h : ∀ i, i < G.size → f i = b (G.at j + i))
include h
theorem slot_ext {k : Nat} (hk : 11 + 17 * (k + 1) ≤ G.size) : ∀ i, i < 17 → f (11 + 17 * k + i) = b (G.slot j k + i) := fun i hi => by
  rw [h _ (by omega)]
  unfold Geo.slot
  congr 1
  omega
theorem evL_evsK : ∀ k, 11 + 17 * k ≤ G.size → evL f k = evsK b G j k
  | 0, _ => rfl
  | k + 1, hk => by
    simp only [evL, evsK]
    rw [evL_evsK k (by omega), evAt_ext (slot_ext h hk)]
theorem usedL_usedK : ∀ k, 11 + 17 * k ≤ G.size → usedL f 0 k = usedK b G j k
  | 0, _ => rfl
  | k + 1, hk => by
    simp only [usedL, usedK]
    rw [usedL_usedK k (by omega), freeAt_ext (slot_ext h hk)]
theorem nextL_nextK (id : Nat) : ∀ k, 11 + 17 * k ≤ G.size → nextL f id k = nextK b G j id k
  | 0, _ => rfl
  | k + 1, hk => by
    simp only [nextL, nextK]
    rw [nextL_nextK id k (by omega), evAt_ext (slot_ext h hk)]
    cases evAt b (G.slot j k) <;> rfl
theorem rawHd_ext (hs : 64 ≤ G.size) : rawHd f 0 = rawHd b (G.at j) := by
  unfold rawHd le4 le2
  simp only [Nat.zero_add]
  have e : ∀ i, i < 11 → f i = b (G.at j + i) := fun i hi => h i (by omega)
  rw [e 0 (by omega), e 1 (by omega), e 2 (by omega), e 3 (by omega), e 4 (by omega), e 5 (by omega), e 6 (by omega), e 7 (by omega), e 8 (by omega), e 9 (by omega)]
  simp only [Nat.add_assoc, Nat.add_zero, Nat.reduceAdd]
theorem okB_hd (hs : 64 ≤ G.size) : hd b G j = if okB f G.n j (rawHd f 0) = true then some (rawHd f 0) else none := by
  unfold hd okB
  rw [rawHd_ext h hs, h 10 (by omega)]
  by_cases hc : b (G.at j + 10) = 0 ∧ okHd G.n j (rawHd b (G.at j))
  · rw [if_pos hc, if_pos (decide_eq_true hc)]
  · rw [if_neg hc, if_neg (by simpa using hc)]
end
/-- What the log holds when k sectors, from its tail on, are loaded. -/
def accS (b : Nat → Nat) (G : Geo) (k : Nat) : LogS :=
  ⟨(newS b G).1, (newS b G).2, if (newS b G).1 < (newS b G).2 + k then usedK b G (((newS b G).1 - 1) % G.n) G.slots else 0,
    if (newS b G).1 < (newS b G).2 + k then nextOf b G (newS b G).1 else 1, recsK b G (newS b G).2 k⟩
theorem accS_zero {b : Nat → Nat} {G : Geo} (h : 0 < (newS b G).1) : accS b G 0 = ⟨(newS b G).1, (newS b G).2, 0, 1, []⟩ := by
  obtain ⟨x, hx, he⟩ := newS_some h
  have := (hd_ok hx).2.2.2.2.1
  unfold accS
  rw [he]
  simp only [Nat.add_zero]
  rw [if_neg (by omega), if_neg (by omega)]
  rfl
theorem accS_end {b : Nat → Nat} {G : Geo} (h : 0 < (newS b G).1) : accS b G ((newS b G).1 + 1 - (newS b G).2) = openS b G := by
  unfold accS openS
  rw [if_pos (by omega), if_pos (by omega), if_neg (by omega)]
/-- A sector that is skipped. -/
theorem accS_skip {b : Nat → Nat} {G : Geo} (hN : 0 < (newS b G).1) {k : Nat} (hk : (newS b G).2 + k ≤ (newS b G).1) (h : ∀ x, hd b G (((newS b G).2 + k - 1) % G.n) = some x → x.q ≠ (newS b G).2 + k) : accS b G (k + 1) = accS b G k := by
  obtain ⟨y, hy, he⟩ := newS_some hN
  have hlt : (newS b G).2 + k < (newS b G).1 := by
    rcases Nat.lt_or_eq_of_le hk with h1 | h1
    · exact h1
    · exfalso
      rw [h1] at h
      exact h y hy (by rw [he])
  unfold accS
  rw [if_neg (by omega), if_neg (by omega), if_neg (by omega), if_neg (by omega)]
  have hs : secR b G ((newS b G).2 + k) = [] := by
    unfold secR
    split
    · rename_i x hx
      rw [if_neg (h x hx)]
    · rfl
  simp only [recsK, hs, List.append_nil]
/-- A sector that is loaded. -/
theorem accS_load {b : Nat → Nat} {G : Geo} (hs : 64 ≤ G.size) (hN : 0 < (newS b G).1) {k : Nat} (hk : (newS b G).2 + k ≤ (newS b G).1) {x : Hd} (hx : hd b G (((newS b G).2 + k - 1) % G.n) = some x) (hq : x.q = (newS b G).2 + k)
    {f : Nat → Nat} (hf : ∀ i, i < G.size → f i = b (G.at (((newS b G).2 + k - 1) % G.n) + i)) : loadS (accS b G k) x f ((G.size - 11) / 17) = accS b G (k + 1) := by
  have hK : 11 + 17 * ((G.size - 11) / 17) ≤ G.size := by omega
  have hr : secR b G ((newS b G).2 + k) = (evL f ((G.size - 11) / 17)).map fun e => (x.q, e) := by
    unfold secR
    rw [hx]
    simp only
    rw [if_pos hq, hq, evL_evsK hf _ hK]
    rfl
  unfold loadS accS
  simp only [recsK, hr]
  by_cases hl : x.q = (newS b G).1
  · have h1 : (newS b G).2 + k = (newS b G).1 := by omega
    rw [if_pos hl, if_pos hl, if_neg (by omega), if_pos (by omega), if_pos (by omega), usedL_usedK hf _ hK, nextL_nextK hf _ _ hK]
    unfold nextOf
    rw [← h1, hx]
    rfl
  · rw [if_neg hl, if_neg hl, if_neg (by omega), if_neg (by omega), if_neg (by omega), if_neg (by omega)]
end Go.Proofs.Ytkdadnlleepkfaa
