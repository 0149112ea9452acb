/- The ring of sectors of an event log as plain data: what sectors with any contents hold, and what a write makes of it. No program stands here. -/
import Derived.Test.YtkdadnlleepkfaaEvP
namespace Go.Proofs.Ytkdadnlleepkfaa

structure Hd where
  q : Nat
  t : Nat
  id : Nat
/-- Where a log lies: its first sector, its sectors, their size. -/
structure Geo where
  first : Nat
  n : Nat
  size : Nat
def Geo.at (G : Geo) (j : Nat) : Nat := (G.first + j) * G.size
def Geo.slots (G : Geo) : Nat := (G.size - 11) / 17
def Geo.slot (G : Geo) (j i : Nat) : Nat := G.at j + 11 + 17 * i
def le2 (b : Nat → Nat) (a : Nat) : Nat := b a + 256 * b (a + 1)
def le4 (b : Nat → Nat) (a : Nat) : Nat := b a + 256 * b (a + 1) + 65536 * b (a + 2) + 16777216 * b (a + 3)
def rawHd (b : Nat → Nat) (a : Nat) : Hd := ⟨le4 b a, le4 b (a + 4), le2 b (a + 8)⟩
def okHd (n j : Nat) (h : Hd) : Prop := 1 ≤ h.q ∧ h.q ≤ 2147483648 ∧ (h.q - 1) % n = j ∧ 1 ≤ h.t ∧ h.t ≤ h.q ∧ h.q - h.t ≤ n - 2 ∧ 1 ≤ h.id ∧ h.id ≤ 65534
instance (n j : Nat) (h : Hd) : Decidable (okHd n j h) := by unfold okHd; exact inferInstance
/-- The header of sector j, if it is valid. -/
def hd (b : Nat → Nat) (G : Geo) (j : Nat) : Option Hd := if b (G.at j + 10) = 0 ∧ okHd G.n j (rawHd b (G.at j)) then some (rawHd b (G.at j)) else none
/-- The event of the slot at a, if it is valid. -/
def evAt (b : Nat → Nat) (a : Nat) : Option Evt :=
  if b (a + 16) = 0 then (match decEv fun i => b (a + i) with | some e => if e.id.val = 0 then none else some e | none => none) else none
def freeAt (b : Nat → Nat) (a : Nat) : Bool := (List.range 17).all fun i => decide (b (a + i) = 255)
/-- The events of the first k slots of sector j. -/
def evsK (b : Nat → Nat) (G : Geo) (j : Nat) : Nat → List Evt
  | 0 => []
  | k + 1 => evsK b G j k ++ (evAt b (G.slot j k)).toList
def usedK (b : Nat → Nat) (G : Geo) (j : Nat) : Nat → Nat
  | 0 => 0
  | k + 1 => if freeAt b (G.slot j k) then usedK b G j k else k + 1
def nextK (b : Nat → Nat) (G : Geo) (j : Nat) (id : Nat) : Nat → Nat
  | 0 => id
  | k + 1 => match evAt b (G.slot j k) with | some e => behindN e.id.val | none => nextK b G j id k
/-- The newest of the first k sectors: its number and its tail. -/
def newK (b : Nat → Nat) (G : Geo) : Nat → Nat × Nat
  | 0 => (0, 0)
  | k + 1 => match hd b G k with | some h => if (newK b G k).1 < h.q then (h.q, h.t) else newK b G k | none => newK b G k
def newS (b : Nat → Nat) (G : Geo) : Nat × Nat := newK b G G.n
def secR (b : Nat → Nat) (G : Geo) (s : Nat) : List (Nat × Evt) :=
  match hd b G ((s - 1) % G.n) with | some h => if h.q = s then (evsK b G ((s - 1) % G.n) G.slots).map (fun e => (s, e)) else [] | none => []
/-- The records of k sectors from number t on. -/
def recsK (b : Nat → Nat) (G : Geo) (t : Nat) : Nat → List (Nat × Evt)
  | 0 => []
  | k + 1 => recsK b G t k ++ secR b G (t + k)
/-- What a log keeps of its sectors. -/
structure LogS where
  newest : Nat
  tail : Nat
  used : Nat
  next : Nat
  recs : List (Nat × Evt)
def nextOf (b : Nat → Nat) (G : Geo) (q : Nat) : Nat := match hd b G ((q - 1) % G.n) with | some h => nextK b G ((q - 1) % G.n) h.id G.slots | none => 1
def openS (b : Nat → Nat) (G : Geo) : LogS :=
  if (newS b G).1 = 0 then ⟨0, 0, 0, 1, []⟩
  else ⟨(newS b G).1, (newS b G).2, usedK b G (((newS b G).1 - 1) % G.n) G.slots, nextOf b G (newS b G).1, recsK b G (newS b G).2 ((newS b G).1 + 1 - (newS b G).2)⟩
structure Geo.Ok (G : Geo) : Prop where
  n2 : 2 ≤ G.n
  s64 : 64 ≤ G.size

theorem hd_ok {b : Nat → Nat} {G : Geo} {j : Nat} {h : Hd} (e : hd b G j = some h) : okHd G.n j h := by
  unfold hd at e
  split at e
  · injection e with e
    subst e
    rename_i hc
    exact hc.2
  · cases e
theorem hd_uniq {b : Nat → Nat} {G : Geo} {i j : Nat} {h h' : Hd} (e : hd b G i = some h) (e' : hd b G j = some h') (hq : h.q = h'.q) : i = j ∧ h = h' := by
  have h1 := (hd_ok e).2.2.1
  have h2 := (hd_ok e').2.2.1
  have : i = j := by rw [← h1, ← h2, hq]
  subst this
  rw [e] at e'
  injection e' with e'
  exact ⟨rfl, e'⟩
theorem newK_spec (b : Nat → Nat) (G : Geo) : ∀ k, (∀ j, j < k → ∀ h, hd b G j = some h → h.q ≤ (newK b G k).1) ∧ (newK b G k = (0, 0) ∨ ∃ j, j < k ∧ ∃ h, hd b G j = some h ∧ newK b G k = (h.q, h.t))
  | 0 => ⟨fun j hj => by omega, .inl rfl⟩
  | k + 1 => by
    obtain ⟨h1, h2⟩ := newK_spec b G k
    cases e : hd b G k with
    | none =>
      have hk : newK b G (k + 1) = newK b G k := by simp only [newK, e]
      rw [hk]
      refine ⟨fun j hj h hh => ?_, ?_⟩
      · by_cases hjk : j = k
        · subst hjk; rw [e] at hh; cases hh
        · exact h1 j (by omega) h hh
      · rcases h2 with h2 | ⟨j, hj, h, hh, he⟩
        · exact .inl h2
        · exact .inr ⟨j, by omega, h, hh, he⟩
    | some x =>
      by_cases hlt : (newK b G k).1 < x.q
      · have hk : newK b G (k + 1) = (x.q, x.t) := by simp only [newK, e, if_pos hlt]
        rw [hk]
        refine ⟨fun j hj h hh => ?_, .inr ⟨k, by omega, x, e, rfl⟩⟩
        by_cases hjk : j = k
        · subst hjk; rw [e] at hh; injection hh with hh; rw [← hh]; exact Nat.le_refl _
        · have := h1 j (by omega) h hh
          show h.q ≤ x.q
          omega
      · have hk : newK b G (k + 1) = newK b G k := by simp only [newK, e, if_neg hlt]
        rw [hk]
        refine ⟨fun j hj h hh => ?_, ?_⟩
        · by_cases hjk : j = k
          · subst hjk; rw [e] at hh; injection hh with hh; rw [← hh]; omega
          · exact h1 j (by omega) h hh
        · rcases h2 with h2 | ⟨j, hj, h, hh, he⟩
          · exact .inl h2
          · exact .inr ⟨j, by omega, h, hh, he⟩
theorem newS_none {b : Nat → Nat} {G : Geo} (h : (newS b G).1 = 0) : newS b G = (0, 0) ∧ ∀ j, j < G.n → hd b G j = none := by
  obtain ⟨h1, h2⟩ := newK_spec b G G.n
  have h0 : (newK b G G.n).1 = 0 := h
  rcases h2 with h2 | ⟨j, hj, x, hx, he⟩
  · refine ⟨h2, fun j hj => ?_⟩
    cases e : hd b G j with
    | none => rfl
    | some x => have := h1 j hj x e; have := (hd_ok e).1; omega
  · have := (hd_ok hx).1
    rw [he] at h0
    simp only at h0
    omega
theorem newS_some {b : Nat → Nat} {G : Geo} (h : 0 < (newS b G).1) : ∃ x, hd b G (((newS b G).1 - 1) % G.n) = some x ∧ newS b G = (x.q, x.t) := by
  obtain ⟨h1, h2⟩ := newK_spec b G G.n
  rcases h2 with h2 | ⟨j, hj, x, hx, he⟩
  · have : (newS b G).1 = 0 := by show (newK b G G.n).1 = 0; rw [h2]
    omega
  · have he' : newS b G = (x.q, x.t) := he
    have hq : (newS b G).1 = x.q := by rw [he']
    refine ⟨x, ?_, he'⟩
    rw [hq, (hd_ok hx).2.2.1]
    exact hx
theorem newS_max {b : Nat → Nat} {G : Geo} {j : Nat} (hj : j < G.n) {x : Hd} (hx : hd b G j = some x) : x.q ≤ (newS b G).1 := (newK_spec b G G.n).1 j hj x hx
/-- The newest sector is told by its header and that no other one is newer. -/
theorem newS_is {b : Nat → Nat} {G : Geo} {j : Nat} (hj : j < G.n) {x : Hd} (hx : hd b G j = some x) (hmax : ∀ k, k < G.n → ∀ y, hd b G k = some y → y.q ≤ x.q) : newS b G = (x.q, x.t) := by
  have h1 := newS_max hj hx
  have h0 := (hd_ok hx).1
  obtain ⟨y, hy, he⟩ := newS_some (b := b) (G := G) (by omega)
  have hn : 0 < G.n := by omega
  have h2 := hmax _ (Nat.mod_lt _ hn) y hy
  have hq : (newS b G).1 = y.q := by rw [he]
  have : x = y := (hd_uniq hx hy (by omega)).2
  rw [he, this]
theorem newS_zero {b : Nat → Nat} {G : Geo} (h : ∀ j, j < G.n → hd b G j = none) (hn : 0 < G.n) : newS b G = (0, 0) := by
  rcases Nat.eq_zero_or_pos (newS b G).1 with h0 | h0
  · exact (newS_none h0).1
  · obtain ⟨x, hx, _⟩ := newS_some h0
    rw [h _ (Nat.mod_lt _ hn)] at hx
    cases hx
-- frames
theorem hd_congr {b c : Nat → Nat} {G : Geo} {j : Nat} (h : ∀ i, i < 11 → b (G.at j + i) = c (G.at j + i)) : hd b G j = hd c G j := by
  have e : rawHd b (G.at j) = rawHd c (G.at j) := by
    unfold rawHd le4 le2
    have := h 0 (by omega)
    rw [Nat.add_zero] at this
    simp only [Nat.add_assoc, this, h 1 (by omega), h 2 (by omega), h 3 (by omega), h 4 (by omega), h 5 (by omega), h 6 (by omega), h 7 (by omega), h 8 (by omega), h 9 (by omega)]
  unfold hd
  rw [e, h 10 (by omega)]
theorem evAt_congr {b c : Nat → Nat} {a : Nat} (h : ∀ i, i < 17 → b (a + i) = c (a + i)) : evAt b a = evAt c a := by
  unfold evAt
  rw [h 16 (by omega), decEv_congr (c := fun i => b (a + i)) (d := fun i => c (a + i)) (fun i hi => h i (by omega))]
theorem freeAt_congr {b c : Nat → Nat} {a : Nat} (h : ∀ i, i < 17 → b (a + i) = c (a + i)) : freeAt b a = freeAt c a := by
  unfold freeAt
  rw [Bool.eq_iff_iff, List.all_eq_true, List.all_eq_true]
  constructor
  · intro h1 i hi
    have := h1 i hi
    rwa [h i (List.mem_range.1 hi)] at this
  · intro h1 i hi
    have := h1 i hi
    rwa [← h i (List.mem_range.1 hi)] at this
theorem freeAt_iff {b : Nat → Nat} {a : Nat} : freeAt b a = true ↔ ∀ i, i < 17 → b (a + i) = 255 := by
  unfold freeAt
  rw [List.all_eq_true]
  exact ⟨fun h i hi => by simpa using h i (List.mem_range.2 hi), fun h i hi => by simpa using h i (List.mem_range.1 hi)⟩
theorem evAt_free {b : Nat → Nat} {a : Nat} (h : freeAt b a = true) : evAt b a = none := by
  unfold evAt
  rw [freeAt_iff.1 h 16 (by omega), if_neg (by decide)]
theorem slot_in {G : Geo} (ok : G.Ok) {i : Nat} (hi : i < G.slots) (j : Nat) : G.at j + 11 ≤ G.slot j i ∧ G.slot j i + 17 ≤ G.at j + G.size := by
  have h1 : G.slots * 17 ≤ G.size - 11 := Nat.div_mul_le_self _ _
  have h2 := ok.s64
  unfold Geo.slot
  omega
theorem at_lt {G : Geo} {j k : Nat} (h : j < k) : G.at j + G.size ≤ G.at k := by
  unfold Geo.at
  have : (G.first + j + 1) * G.size ≤ (G.first + k) * G.size := Nat.mul_le_mul_right _ (by omega)
  rw [Nat.succ_mul] at this
  exact this
theorem evsK_congr {b c : Nat → Nat} {G : Geo} (ok : G.Ok) {j : Nat} (h : ∀ i, i < G.size → b (G.at j + i) = c (G.at j + i)) : ∀ k, k ≤ G.slots → evsK b G j k = evsK c G j k ∧ usedK b G j k = usedK c G j k ∧ ∀ id, nextK b G j id k = nextK c G j id k
  | 0, _ => ⟨rfl, rfl, fun _ => rfl⟩
  | k + 1, hk => by
    obtain ⟨h1, h2, h3⟩ := evsK_congr ok h k (by omega)
    have hs := slot_in ok (show k < G.slots by omega) j
    have hb : ∀ i, i < 17 → b (G.slot j k + i) = c (G.slot j k + i) := fun i hi => by
      have := h (G.slot j k + i - G.at j) (by omega)
      rwa [show G.at j + (G.slot j k + i - G.at j) = G.slot j k + i by omega] at this
    have e1 := evAt_congr hb
    have e2 := freeAt_congr hb
    refine ⟨by simp only [evsK, h1, e1], by simp only [usedK, h2, e2], fun id => by simp only [nextK, h3, e1]⟩
/-- Two contents that are the same in all sectors but j. -/
def Alike (b c : Nat → Nat) (G : Geo) (j : Nat) : Prop := ∀ i, i < G.at j ∨ G.at j + G.size ≤ i → b i = c i
theorem Alike.sec {b c : Nat → Nat} {G : Geo} {j k : Nat} (h : Alike b c G j) (hk : k ≠ j) : ∀ i, i < G.size → b (G.at k + i) = c (G.at k + i) := fun i hi => by
  refine h _ ?_
  rcases Nat.lt_or_gt_of_ne hk with h1 | h1
  · have := at_lt (G := G) h1; left; omega
  · have := at_lt (G := G) h1; right; omega
theorem Alike.hd {b c : Nat → Nat} {G : Geo} (ok : G.Ok) {j k : Nat} (h : Alike b c G j) (hk : k ≠ j) : hd b G k = hd c G k := hd_congr fun i hi => h.sec hk i (by have := ok.s64; omega)
theorem Alike.secR {b c : Nat → Nat} {G : Geo} (ok : G.Ok) {j s : Nat} (h : Alike b c G j) (hk : (s - 1) % G.n ≠ j) : secR b G s = secR c G s := by
  unfold Go.Proofs.Ytkdadnlleepkfaa.secR
  rw [h.hd ok hk, (evsK_congr ok (h.sec hk) G.slots (Nat.le_refl _)).1]
theorem mod_ne {a b n : Nat} (h : a < b) (hn : b < a + n) : a % n ≠ b % n := fun e => by
  have h1 : (b - a) % n = 0 := by
    have := Nat.sub_mod_eq_zero_of_mod_eq (m := b) (n := a) (k := n) e.symm
    exact this
  have h2 := Nat.mod_eq_of_lt (show b - a < n by omega)
  omega
theorem recsK_alike {b c : Nat → Nat} {G : Geo} (ok : G.Ok) {j t : Nat} (h : Alike b c G j) : ∀ k, (∀ i, i < k → (t + i - 1) % G.n ≠ j) → recsK b G t k = recsK c G t k
  | 0, _ => rfl
  | k + 1, hk => by
    simp only [recsK]
    rw [recsK_alike ok h k (fun i hi => hk i (by omega)), h.secR ok (hk k (by omega))]
/-- Another sector's contents, as long as it has no valid header, or the one it had, change nothing. -/
theorem open_junk {b c : Nat → Nat} {G : Geo} (ok : G.Ok) (h : Alike b c G ((newS b G).1 % G.n)) (hj : hd c G ((newS b G).1 % G.n) = none ∨ hd c G ((newS b G).1 % G.n) = hd b G ((newS b G).1 % G.n)) : openS c G = openS b G := by
  have hn : 0 < G.n := by have := ok.n2; omega
  have hx : ∀ k, k < G.n → ∀ y, hd c G k = some y → hd b G k = some y := fun k hk y hy => by
    by_cases hkj : k = (newS b G).1 % G.n
    · subst hkj
      rcases hj with hj | hj
      · rw [hj] at hy; cases hy
      · rwa [hj] at hy
    · rwa [h.hd ok hkj]
  rcases Nat.eq_zero_or_pos (newS b G).1 with h0 | h0
  · have hz : newS c G = (0, 0) := newS_zero (fun k hk => by
      cases e : hd c G k with
      | none => rfl
      | some y => have := hx k hk y e; rw [(newS_none h0).2 k hk] at this; cases this) hn
    unfold openS
    rw [if_pos h0, if_pos (by rw [hz])]
  · obtain ⟨x, hxs, he⟩ := newS_some h0
    have hq : (newS b G).1 = x.q := by rw [he]
    have ht : (newS b G).2 = x.t := by rw [he]
    have o := hd_ok hxs
    have hne : ((newS b G).1 - 1) % G.n ≠ (newS b G).1 % G.n := mod_ne (by omega) (by have := ok.n2; omega)
    have hxc : hd c G (((newS b G).1 - 1) % G.n) = some x := by rw [← h.hd ok hne]; exact hxs
    have hnew : newS c G = (x.q, x.t) := newS_is (Nat.mod_lt _ hn) hxc (fun k hk y hy => by have := newS_max hk (hx k hk y hy); omega)
    have e2 : newS c G = newS b G := by rw [hnew, he]
    have hcong := evsK_congr ok (h.sec hne) G.slots (Nat.le_refl _)
    unfold openS
    rw [e2, if_neg (by omega), if_neg (by omega)]
    have e3 : nextOf c G (newS b G).1 = nextOf b G (newS b G).1 := by
      unfold nextOf
      rw [hxc, hxs]
      exact (hcong.2.2 _).symm
    have e4 : recsK c G (newS b G).2 ((newS b G).1 + 1 - (newS b G).2) = recsK b G (newS b G).2 ((newS b G).1 + 1 - (newS b G).2) :=
      (recsK_alike ok h _ (fun i hi => by
        refine mod_ne ?_ ?_
        · have := o.2.2.2.1; omega
        · have := o.2.2.2.2.2.1; have := o.2.2.2.1; have := ok.n2; omega)).symm
    rw [e3, e4, hcong.2.1]
end Go.Proofs.Ytkdadnlleepkfaa
