/- What Add leaves of a filled log when the power fails, as plain data. No program stands here. -/
import Derived.Test.YtkdadnlleepkfaaEventlogOrder
namespace Go.Proofs.Ytkdadnlleepkfaa
set_option linter.unusedVariables false
set_option linter.unusedSimpArgs false
/-- The records of a filled log, without those of its oldest sector, or with one more. -/
structure Aft (ev : Nat → Evt) (x : Evt) (a b : Nat) (g : Bool) (S : LogS) : Prop where
  recs : S.recs.map (·.2) = addedJ ev a b ++ (if g then [withId x (b + 1)] else [])
  next : S.next = if g then b + 2 else b + 1
  newest : S.newest ≤ b + 1
theorem base_fill {G : Geo} {L : LogP} {ev : Nat → Evt} {b : Nat} {S0 : LogS} (hN : 2 ≤ G.n) (hK : 1 ≤ G.slots) (hs : L.s = fillS G.slots G.n ev b) (h : baseS G L = some S0) :
    S0.newest ≤ b + 1 ∧ ∃ a', S0.recs.map (·.2) = addedJ ev a' b ∧ (a' = (fillT G.slots G.n b - 1) * G.slots ∨ L.over = true ∧ a' = (fillT G.slots G.n b - 1) * G.slots + G.slots ∧ (fillT G.slots G.n b - 1) * G.slots + G.slots ≤ b) := by
  have hA := fill_a (K := G.slots) (N := G.n) (i := b) hK hN
  have hnw : L.s.newest ≤ b := by rw [hs]; exact fillS_newest _ _ _ _ hK
  have hrc : L.s.recs = recsAB G.slots ev ((fillT G.slots G.n b - 1) * G.slots) b := by rw [hs]; rfl
  have htl : L.s.tail = fillT G.slots G.n b := by rw [hs]; rfl
  have hus : L.s.used = fillU G.slots b := by rw [hs]; rfl
  have hqe : L.s.newest = fillQ G.slots b := by rw [hs]; rfl
  unfold baseS at h
  split at h
  · rename_i hnd
    cases ht : tailL G L with
    | none => rw [ht] at h; cases h
    | some t =>
      rw [ht] at h
      injection h with h
      subst h
      have key : ∀ c, c = (t - 1) * G.slots → (fillT G.slots G.n b - 1) * G.slots ≤ c → c ≤ b → 1 ≤ t → (grownS L.s t).recs.map (·.2) = addedJ ev c b := by
        intro c hc h1 h2 h3
        show (L.s.recs.filter fun x => decide (t ≤ x.1)).map (·.2) = _
        rw [hrc, recsAB_filter (by omega) h1 h2 hc h3, recs_added]
      refine ⟨by show L.s.newest + 1 ≤ b + 1; omega, (t - 1) * G.slots, ?_⟩
      rcases Nat.eq_zero_or_pos b with h0 | h0
      · subst h0
        have e1 : L.s.tail = 0 := by rw [htl]; rfl
        have e2 : t = 1 := by
          unfold tailL at ht
          rw [e1, if_neg (by omega)] at ht
          injection ht with ht
          rw [← ht]; rfl
        subst e2
        have e3 : (fillT G.slots G.n 0 - 1) * G.slots = 0 := by rw [← htl, e1]; simp
        exact ⟨key _ rfl (by omega) (by omega) (by omega), .inl (by omega)⟩
      · have ht1 : 1 ≤ fillT G.slots G.n b := by unfold fillT; rw [if_neg (by omega)]; omega
        have hq1 : 1 ≤ fillQ G.slots b := by
          unfold fillQ
          exact (Nat.le_div_iff_mul_le (by omega)).2 (by omega)
        have htq : fillT G.slots G.n b ≤ fillQ G.slots b := by unfold fillT; rw [if_neg (by omega)]; omega
        have hmx : max L.s.tail 1 = fillT G.slots G.n b := by rw [htl]; omega
        have hbq : b = G.slots * fillQ G.slots b := by
          unfold needG at hnd
          have hu : fillU G.slots b = G.slots := by
            rw [hqe, hus] at hnd
            simp only [Bool.or_eq_true, decide_eq_true_eq] at hnd
            omega
          unfold fillU at hu
          rw [if_neg (by omega)] at hu
          obtain ⟨c, hc⟩ : ∃ c, fillQ G.slots b = c + 1 := ⟨fillQ G.slots b - 1, by omega⟩
          rw [hc, Nat.add_sub_cancel] at hu
          rw [hc, Nat.mul_add]
          omega
        unfold tailL at ht
        rw [hmx] at ht
        split at ht
        · cases ho : L.over with
          | false => rw [ho] at ht; cases ht
          | true =>
            rw [ho] at ht
            injection ht with ht
            subst ht
            have e : (fillT G.slots G.n b + 1 - 1) * G.slots = (fillT G.slots G.n b - 1) * G.slots + G.slots := by
              obtain ⟨c, hc⟩ : ∃ c, fillT G.slots G.n b = c + 1 := ⟨fillT G.slots G.n b - 1, by omega⟩
              rw [hc, Nat.add_sub_cancel, Nat.add_sub_cancel, Nat.add_mul, Nat.one_mul]
            have hle : (fillT G.slots G.n b + 1 - 1) * G.slots ≤ b := by
              rw [Nat.add_sub_cancel]
              have := Nat.mul_le_mul_right G.slots htq
              rw [Nat.mul_comm (fillQ G.slots b)] at this
              omega
            exact ⟨key _ rfl (by omega) hle (by omega), .inr ⟨rfl, e, by omega⟩⟩
        · injection ht with ht
          subst ht
          exact ⟨key _ rfl (Nat.le_refl _) (by omega) (by omega), .inl rfl⟩
  · injection h with h
    subst h
    exact ⟨by omega, _, by rw [hrc, recs_added], .inl rfl⟩
theorem behindN_two {b : Nat} (h : b ≤ 1000) : behindN (b + 1) = b + 2 := behindN_add (by omega)
/-- What Add leaves of a filled log, read again. -/
theorem atom_ok {G : Geo} {D : Dev} {L : LogP} {ev : Nat → Evt} {b : Nat} {k : Int} {x : Evt} (h : Sync G D L) (he : L.ended = false) (hf : Few D k) (hb : b ≤ 1000) (hs : L.s = fillS G.slots G.n ev b) (hv : validE x = true) (hid : x.id.val = 0) :
    ∃ (a : Nat) (g : Bool) (c : Int), (addL G D L x).1 = (if c = 0 then b + 1 else 0, c) ∧ Fits G (addL G D L x).2.1 ∧ Aft ev x a b g (openS (byt (addL G D L x).2.1) G) ∧
      (c = 9 ∧ L.over = false ∧ a = (fillT G.slots G.n b - 1) * G.slots ∧ g = false ∨ c = 0 ∧ g = true ∨ c = 10) ∧
      (a = (fillT G.slots G.n b - 1) * G.slots ∨ L.over = true ∧ a = (fillT G.slots G.n b - 1) * G.slots + G.slots ∧ (fillT G.slots G.n b - 1) * G.slots + G.slots ≤ b) := by
  have hK : 1 ≤ G.slots := by have := slots_pos h.fit; omega
  have hN := h.fit.n2
  have hsp := addL_spec h he hf hv hid
  have hnw : L.s.newest ≤ b := by rw [hs]; exact fillS_newest _ _ _ _ hK
  have hnx : L.s.next = b + 1 := by rw [hs]; rfl
  have hrc : L.s.recs.map (·.2) = addedJ ev ((fillT G.slots G.n b - 1) * G.slots) b := by rw [hs]; exact recs_added _ _ _ _
  have same : ∀ S, S = L.s → Aft ev x ((fillT G.slots G.n b - 1) * G.slots) b false S := by
    intro S hS
    subst hS
    exact ⟨by rw [hrc]; simp, by rw [hnx]; simp, by omega⟩
  generalize addL G D L x = R at hsp ⊢
  have more : ∀ S0, baseS G L = some S0 → ∀ a', S0.recs.map (·.2) = addedJ ev a' b → S0.newest ≤ b + 1 → Aft ev x a' b true (moreS S0 x) := by
    intro S0 hb0 a' ha hn0
    have hn1 := base_next hb0
    refine ⟨?_, ?_, hn0⟩
    · show (S0.recs ++ [(S0.newest, withId x S0.next)]).map (·.2) = _
      rw [List.map_append, ha, hn1, hnx]
      simp
    · show behindN S0.next = _
      rw [hn1, hnx, behindN_two hb]
      simp
  rcases hsp.out with ⟨r, _, S0, hb0, hL⟩ | ⟨r, hd, hL, hn, ht⟩ | ⟨_, _, _, hq⟩ | ⟨r, hd, hL, ho⟩
  · obtain ⟨h1, a', h2, h3⟩ := base_fill hN hK hs hb0
    have hen : R.2.2.ended = false := by rw [hL]; exact he
    refine ⟨a', true, 0, by rw [r, hnx]; rfl, hsp.fit, ?_, .inr (.inl ⟨rfl, rfl⟩), h3⟩
    rw [← hsp.sync.s hen, hL]
    exact more S0 hb0 a' h2 h1
  · refine ⟨_, false, 9, by rw [r]; rfl, hsp.fit, same _ ?_, .inl ⟨rfl, ?_, rfl, rfl⟩, .inl rfl⟩
    · rw [hd]; exact (h.s he).symm
    · unfold tailL at ht
      split at ht
      · cases ho : L.over with
        | true => rw [ho] at ht; cases ht
        | false => rfl
      · cases ht
  · omega
  · rcases ho with ho | ⟨S0, hb0, ho⟩
    · exact ⟨_, false, 10, by rw [r]; rfl, hsp.fit, same _ ho, .inr (.inr rfl), .inl rfl⟩
    · obtain ⟨h1, a', h2, h3⟩ := base_fill hN hK hs hb0
      rcases ho with ho | ho
      · refine ⟨a', false, 10, by rw [r]; rfl, hsp.fit, ⟨?_, ?_, ?_⟩, .inr (.inr rfl), h3⟩
        · rw [ho.2.2.2, h2]; simp
        · rw [ho.2.2.1, base_next hb0, hnx]; rfl
        · rw [ho.1]; exact h1
      · refine ⟨a', true, 10, by rw [r]; rfl, hsp.fit, ?_, .inr (.inr rfl), h3⟩
        rw [ho]
        exact more S0 hb0 a' h2 h1
/-- What the next event is told. -/
theorem atom_next {G : Geo} {DA : Dev} {ov : Bool} {S : LogS} {k : Int} {x : Evt} (hc : Calm DA) (hs : Sync G DA (mkL ov S)) (hf : Few DA k) (hn : S.newest ≤ 2000) (hv : validE x = true) (hid : x.id.val = 0) :
    ∃ c, (addL G DA (mkL ov S) x).1 = (if c = 0 then S.next else 0, c) ∧ (c = 0 ∨ c = 9 ∧ ov = false) := by
  have hcl := calm_addL (G := G) hc (mkL ov S) x
  have hsp := addL_spec hs rfl hf hv hid
  rcases hsp.out with ⟨r, _⟩ | ⟨r, _, _, _, ht⟩ | ⟨_, _, _, hq⟩ | ⟨_, hd, _⟩
  · exact ⟨0, by rw [r]; rfl, .inl rfl⟩
  · refine ⟨9, by rw [r]; rfl, .inr ⟨rfl, ?_⟩⟩
    unfold tailL at ht
    split at ht
    · cases ov with
      | true => cases ht
      | false => rfl
    · cases ht
  · have hq' : 2147483648 ≤ S.newest := hq
    omega
  · rw [hcl.1] at hd; cases hd
end Go.Proofs.Ytkdadnlleepkfaa
