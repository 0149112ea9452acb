/- The ring of sectors: a new sector, a record more. No program stands here. -/
import Derived.Test.YtkdadnlleepkfaaRing
namespace Go.Proofs.Ytkdadnlleepkfaa

theorem used_le (b : Nat → Nat) (G : Geo) (j : Nat) : ∀ k, usedK b G j k ≤ k
  | 0 => Nat.le_refl _
  | k + 1 => by
    have := used_le b G j k
    simp only [usedK]
    split <;> omega
theorem used_free {b : Nat → Nat} {G : Geo} {j : Nat} : ∀ {k i : Nat}, usedK b G j k ≤ i → i < k → freeAt b (G.slot j i) = true
  | 0, i, _, hi => by omega
  | k + 1, i, h, hi => by
    cases e : freeAt b (G.slot j k) with
    | true =>
      by_cases hik : i = k
      · rw [hik]; exact e
      · have hu : usedK b G j (k + 1) = usedK b G j k := by simp only [usedK, e, if_true]
        exact used_free (k := k) (by omega) (by omega)
    | false =>
      have hu : usedK b G j (k + 1) = k + 1 := by simp only [usedK, e]; rfl
      omega
theorem used_stop {b : Nat → Nat} {G : Geo} {j : Nat} : ∀ {k : Nat}, ∀ m, usedK b G j k ≤ m → m ≤ k → usedK b G j m = usedK b G j k
  | 0, m, _, hm => by rw [show m = 0 by omega]
  | k + 1, m, h, hm => by
    by_cases hmk : m = k + 1
    · rw [hmk]
    · have hf := used_free (b := b) (G := G) (j := j) (k := k + 1) (i := k) (by omega) (by omega)
      have hu : usedK b G j (k + 1) = usedK b G j k := by simp only [usedK, hf, if_true]
      rw [hu]
      exact used_stop m (by omega) (by omega)
theorem all_free {b : Nat → Nat} {G : Geo} {j : Nat} : ∀ k, (∀ i, i < k → freeAt b (G.slot j i) = true) → evsK b G j k = [] ∧ usedK b G j k = 0 ∧ ∀ id, nextK b G j id k = id
  | 0, _ => ⟨rfl, rfl, fun _ => rfl⟩
  | k + 1, h => by
    obtain ⟨h1, h2, h3⟩ := all_free k (fun i hi => h i (by omega))
    have hf := h k (by omega)
    have he := evAt_free hf
    refine ⟨by simp only [evsK, h1, he]; rfl, by simp only [usedK, hf, h2, if_true], fun id => by simp only [nextK, he, h3]⟩
theorem secR_fst {b : Nat → Nat} {G : Geo} {s : Nat} : ∀ r ∈ secR b G s, r.1 = s := fun r hr => by
  unfold secR at hr
  split at hr
  · split at hr
    · obtain ⟨e, _, rfl⟩ := List.mem_map.1 hr
      rfl
    · cases hr
  · cases hr
theorem filter_recs (b : Nat → Nat) (G : Geo) {T t : Nat} (h : T ≤ t) : ∀ m, (recsK b G T m).filter (fun r => decide (t ≤ r.1)) = recsK b G t (T + m - t)
  | 0 => by rw [show T + 0 - t = 0 by omega]; rfl
  | m + 1 => by
    simp only [recsK]
    rw [List.filter_append, filter_recs b G h m]
    by_cases hm : t ≤ T + m
    · rw [show T + (m + 1) - t = (T + m - t) + 1 by omega]
      simp only [recsK]
      rw [show t + (T + m - t) = T + m by omega]
      congr 1
      rw [List.filter_eq_self]
      intro r hr
      rw [secR_fst r hr]
      exact decide_eq_true hm
    · rw [show T + (m + 1) - t = 0 by omega, show T + m - t = 0 by omega]
      simp only [recsK, List.nil_append]
      rw [List.filter_eq_nil_iff]
      intro r hr
      rw [secR_fst r hr]
      simpa using hm
/-- A new sector: its header is valid, its slots are free. -/
theorem open_new {b c : Nat → Nat} {G : Geo} (ok : G.Ok) {q t id : Nat} (hq : q = (newS b G).1 + 1) (htt : (newS b G).2 ≤ t) (h : Alike b c G ((newS b G).1 % G.n)) (hh : hd c G ((newS b G).1 % G.n) = some ⟨q, t, id⟩)
    (hf : ∀ i, i < G.slots → freeAt c (G.slot ((newS b G).1 % G.n) i) = true) : openS c G = ⟨q, t, 0, id, (openS b G).recs.filter fun r => decide (t ≤ r.1)⟩ := by
  have hn : 0 < G.n := by have := ok.n2; omega
  have hj := Nat.mod_lt (newS b G).1 hn
  have o := hd_ok hh
  obtain ⟨o1, o2, o3, o4, o5, o6, o7, o8⟩ := o
  simp only at o1 o2 o3 o4 o5 o6 o7 o8
  have hnew : newS c G = (q, t) := newS_is hj hh (fun k hk y hy => by
    by_cases hkj : k = (newS b G).1 % G.n
    · subst hkj
      rw [hh] at hy
      injection hy with hy
      rw [← hy]
      exact Nat.le_refl _
    · rw [← h.hd ok hkj] at hy
      have := newS_max hk hy
      show y.q ≤ q
      omega)
  obtain ⟨e1, e2, e3⟩ := all_free G.slots hf
  have hrec : recsK c G t (q + 1 - t) = recsK b G t (q - t) := by
    rw [show q + 1 - t = (q - t) + 1 by omega]
    simp only [recsK]
    rw [show t + (q - t) = q by omega]
    have hs : secR c G q = [] := by
      unfold secR
      rw [o3, hh, e1]
      simp
    rw [hs, List.append_nil]
    exact (recsK_alike ok h _ (fun i hi => mod_ne (by omega) (by have := ok.n2; omega))).symm
  have hflt : recsK b G t (q - t) = (openS b G).recs.filter fun r => decide (t ≤ r.1) := by
    unfold openS
    by_cases h0 : (newS b G).1 = 0
    · rw [if_pos h0]
      rw [show q - t = 0 by omega]
      rfl
    · rw [if_neg h0]
      simp only
      rw [filter_recs b G htt]
      obtain ⟨x, hx, he⟩ := newS_some (b := b) (G := G) (by omega)
      have ox := hd_ok hx
      have ht : (newS b G).2 = x.t := by rw [he]
      have hq2 : (newS b G).1 = x.q := by rw [he]
      rw [show (newS b G).2 + ((newS b G).1 + 1 - (newS b G).2) - t = q - t by have := ox.2.2.2.2.1; omega]
  have e4 : openS c G = ⟨q, t, usedK c G ((q - 1) % G.n) G.slots, nextOf c G q, recsK c G t (q + 1 - t)⟩ := by
    unfold openS
    rw [hnew, if_neg (by show ¬ q = 0; omega)]
  have e5 : nextOf c G q = id := by
    unfold nextOf
    rw [o3, hh]
    exact e3 id
  rw [e4, e5, o3, e2, hrec, hflt]
theorem newK_congr {b c : Nat → Nat} {G : Geo} : ∀ k, (∀ j, j < k → hd b G j = hd c G j) → newK b G k = newK c G k
  | 0, _ => rfl
  | k + 1, h => by
    have h1 := newK_congr k (fun j hj => h j (by omega))
    simp only [newK, h k (by omega), h1]
/-- One slot of the newest sector written, the first of the free ones at its end. -/
theorem open_slot {b c : Nat → Nat} {G : Geo} (ok : G.Ok) (h0 : 0 < (newS b G).1) (hu : (openS b G).used < G.slots)
    (h : ∀ i, i < G.slot (((newS b G).1 - 1) % G.n) (openS b G).used ∨ G.slot (((newS b G).1 - 1) % G.n) (openS b G).used + 17 ≤ i → b i = c i) :
    openS c G = ⟨(openS b G).newest, (openS b G).tail, if freeAt c (G.slot (((newS b G).1 - 1) % G.n) (openS b G).used) then (openS b G).used else (openS b G).used + 1,
      match evAt c (G.slot (((newS b G).1 - 1) % G.n) (openS b G).used) with | some e => behindN e.id.val | none => (openS b G).next,
      (openS b G).recs ++ (evAt c (G.slot (((newS b G).1 - 1) % G.n) (openS b G).used)).toList.map fun e => ((openS b G).newest, e)⟩ := by
  have hn : 0 < G.n := by have := ok.n2; omega
  obtain ⟨x, hx, he⟩ := newS_some h0
  have ox := hd_ok hx
  have ht : (newS b G).2 = x.t := by rw [he]
  have hq : (newS b G).1 = x.q := by rw [he]
  have hO : openS b G = ⟨(newS b G).1, (newS b G).2, usedK b G (((newS b G).1 - 1) % G.n) G.slots, nextOf b G (newS b G).1, recsK b G (newS b G).2 ((newS b G).1 + 1 - (newS b G).2)⟩ := by
    unfold openS
    rw [if_neg (by omega)]
  rw [hO] at h hu ⊢
  simp only at h hu ⊢
  generalize hj : ((newS b G).1 - 1) % G.n = j at h hu hx ⊢
  generalize hU : usedK b G j G.slots = U at h hu ⊢
  have hsl := slot_in ok hu j
  have hAl : Alike b c G j := fun i hi => h i (by omega)
  have hhd : ∀ k, hd b G k = hd c G k := fun k => by
    by_cases hkj : k = j
    · subst hkj
      exact hd_congr fun i hi => h _ (by omega)
    · exact hAl.hd ok hkj
  have hnew : newS c G = newS b G := (newK_congr G.n (fun k _ => hhd k)).symm
  have hoff : ∀ i, i ≠ U → ∀ m, m < 17 → b (G.slot j i + m) = c (G.slot j i + m) := fun i hi m hm => h _ (by unfold Geo.slot; omega)
  have hlow : ∀ k, k ≤ U → evsK c G j k = evsK b G j k ∧ usedK c G j k = usedK b G j k ∧ ∀ id, nextK c G j id k = nextK b G j id k := by
    intro k
    induction k with
    | zero => exact fun _ => ⟨rfl, rfl, fun _ => rfl⟩
    | succ k ih =>
      intro hk
      obtain ⟨i1, i2, i3⟩ := ih (by omega)
      have e1 := evAt_congr (hoff k (by omega))
      have e2 := freeAt_congr (hoff k (by omega))
      refine ⟨by simp only [evsK, i1, e1], by simp only [usedK, i2, e2], fun id => by simp only [nextK, i3, e1]⟩
  have hUU : usedK b G j U = U := by rw [used_stop (k := G.slots) U (by omega) (by omega)]; exact hU
  have hhigh : ∀ k, U + 1 ≤ k → k ≤ G.slots → evsK c G j k = evsK b G j k ++ (evAt c (G.slot j U)).toList ∧ usedK c G j k = (if freeAt c (G.slot j U) then U else U + 1) ∧ ∀ id, nextK c G j id k = match evAt c (G.slot j U) with | some e => behindN e.id.val | none => nextK b G j id k := by
    intro k
    induction k with
    | zero => intro h; omega
    | succ k ih =>
      intro hk hks
      have fb := used_free (b := b) (G := G) (j := j) (k := G.slots) (i := k) (by omega) (by omega)
      have eb := evAt_free fb
      by_cases hkU : k = U
      · subst hkU
        obtain ⟨i1, i2, i3⟩ := hlow k (Nat.le_refl _)
        refine ⟨by simp only [evsK, i1, eb]; simp, by simp only [usedK, i2, hUU], fun id => ?_⟩
        simp only [nextK, i3, eb]
        cases evAt c (G.slot j k) <;> rfl
      · obtain ⟨i1, i2, i3⟩ := ih (by omega) (by omega)
        have fc : freeAt c (G.slot j k) = true := by rw [← freeAt_congr (hoff k hkU)]; exact fb
        have ec := evAt_free fc
        refine ⟨by simp only [evsK, i1, eb, ec]; simp, by simp only [usedK, fc, i2, if_true], fun id => ?_⟩
        simp only [nextK, ec, eb, i3]
  obtain ⟨g1, g2, g3⟩ := hhigh G.slots (by omega) (Nat.le_refl _)
  have hnx : nextOf c G (newS b G).1 = match evAt c (G.slot j U) with | some e => behindN e.id.val | none => nextOf b G (newS b G).1 := by
    unfold nextOf
    rw [hj, ← hhd j, hx]
    exact g3 x.id
  have hrec : recsK c G (newS b G).2 ((newS b G).1 + 1 - (newS b G).2) = recsK b G (newS b G).2 ((newS b G).1 + 1 - (newS b G).2) ++ (evAt c (G.slot j U)).toList.map fun e => ((newS b G).1, e) := by
    rw [show (newS b G).1 + 1 - (newS b G).2 = ((newS b G).1 - (newS b G).2) + 1 by have := ox.2.2.2.2.1; omega]
    simp only [recsK]
    rw [show (newS b G).2 + ((newS b G).1 - (newS b G).2) = (newS b G).1 by have := ox.2.2.2.2.1; omega]
    rw [← recsK_alike ok hAl _ (fun i hi => by rw [← hj]; exact mod_ne (by have := ox.2.2.2.1; have := ox.2.2.2.2.1; omega) (by have := ox.2.2.2.2.2.1; have := ox.2.2.2.1; have := ok.n2; omega)), List.append_assoc]
    congr 1
    unfold secR
    rw [hj, ← hhd j, hx]
    simp only
    rw [if_pos hq.symm, if_pos hq.symm, g1, List.map_append]
  unfold openS
  rw [hnew, if_neg (by omega), hj, g2, hnx, hrec]
/-- The ID for the next record, told by the records. -/
theorem nextK_last (b : Nat → Nat) (G : Geo) (j id : Nat) : ∀ k, nextK b G j id k = match (evsK b G j k).getLast? with | some e => behindN e.id.val | none => id
  | 0 => rfl
  | k + 1 => by
    have ih := nextK_last b G j id k
    cases e : evAt b (G.slot j k) with
    | none => simp only [nextK, evsK, e, Option.toList_none, List.append_nil, ih]
    | some x => simp only [nextK, evsK, e, Option.toList_some, List.getLast?_concat]
theorem evAt_some {b : Nat → Nat} {a : Nat} {e : Evt} (h : evAt b a = some e) : validE e = true ∧ e.id.val ≠ 0 ∧ b (a + 16) = 0 := by
  unfold evAt at h
  split at h
  · rename_i h16
    split at h
    · rename_i x hx
      split at h
      · cases h
      · injection h with h
        subst h
        exact ⟨decEv_valid hx, by assumption, h16⟩
    · cases h
  · cases h
/-- The next ID is one that an event may have. -/
theorem next_rng (b : Nat → Nat) (G : Geo) : 1 ≤ (openS b G).next ∧ (openS b G).next ≤ 65534 := by
  unfold openS
  split
  · exact ⟨by decide, by decide⟩
  · rename_i h0
    obtain ⟨x, hx, he⟩ := newS_some (b := b) (G := G) (by omega)
    have ox := hd_ok hx
    simp only
    unfold nextOf
    rw [hx]
    simp only
    have key : ∀ k, 1 ≤ nextK b G (((newS b G).1 - 1) % G.n) x.id k ∧ nextK b G (((newS b G).1 - 1) % G.n) x.id k ≤ 65534 := by
      intro k
      induction k with
      | zero => exact ⟨ox.2.2.2.2.2.2.1, ox.2.2.2.2.2.2.2⟩
      | succ k ih =>
        simp only [nextK]
        split
        · rename_i e he
          have h1 := (validE_iff e).1 (evAt_some he).1
          unfold behindN
          split <;> omega
        · exact ih
    exact key _
end Go.Proofs.Ytkdadnlleepkfaa
