/- The events of a scan, sensor by sensor: what an observer can keep of them, plain. -/
import Derived.Test.YtijjkonephjodaaGreatDoorMoLaw
import Derived.Test.YtijjkonephjodaaGreatDoorMoWat
import Derived.Test.YtijjkonephjodaaGreatDoorMoNum
namespace Go.Proofs.YtijjkonephjodaaGreatDoor
open Go.RowKit
set_option linter.unusedVariables false
set_option linter.unusedSimpArgs false
def ixE (e : Evt) : Nat := (evIx e).1
def atE (e : Evt) : Int := 20 * (e.sen.val : Int) + ixE e
def updO (on : Nat → Nat → Bool) (e : Evt) : Nat → Nat → Bool := fun n i => if n = e.sen.val ∧ i = ixE e then !e.de else on n i
def onE (on : Nat → Nat → Bool) (E : List Evt) : Nat → Nat → Bool := E.foldl updO on
def lastE (last : Int) (E : List Evt) : Int := E.foldl (fun _ e => atE e) last
/-- What is said of one event. -/
def EvOk (on : Nat → Nat → Bool) (last : Int) (e : Evt) : Prop := (evIx e).2.2 = true ∧ last < atE e ∧ on e.sen.val (ixE e) = e.de ∧ e.id.val = 0 ∧ e.time.val = 0
/-- The events alternate, in their order. -/
def AltOk (on : Nat → Nat → Bool) (last : Int) : List Evt → Prop
  | [] => True
  | e :: E => EvOk on last e ∧ AltOk (updO on e) (atE e) E
theorem AltOk.append : ∀ {E1 E2 : List Evt} {on : Nat → Nat → Bool} {last : Int}, AltOk on last E1 → AltOk (onE on E1) (lastE last E1) E2 → AltOk on last (E1 ++ E2)
  | [], _, _, _, _, h2 => h2
  | e :: E1, E2, on, last, h1, h2 => ⟨h1.1, AltOk.append h1.2 h2⟩
theorem AltOk.get : ∀ {E : List Evt} {on : Nat → Nat → Bool} {last : Int}, AltOk on last E → ∀ k, k < E.length → EvOk (onE on (E.take k)) (lastE last (E.take k)) (E.getD k evE.dflt)
  | [], _, _, _, k, hk => by simp at hk
  | e :: E, on, last, h, 0, _ => h.1
  | e :: E, on, last, h, k + 1, hk => AltOk.get h.2 k (by simpa using hk)
theorem onE_append (on : Nat → Nat → Bool) (E1 E2 : List Evt) : onE on (E1 ++ E2) = onE (onE on E1) E2 := List.foldl_append
theorem lastE_append (last : Int) (E1 E2 : List Evt) : lastE last (E1 ++ E2) = lastE (lastE last E1) E2 := List.foldl_append
theorem take_snocV (E : List Evt) {k : Nat} (h : k < E.length) : E.take (k + 1) = E.take k ++ [E.getD k evE.dflt] := by
  rw [List.take_succ_eq_append_getElem h, List.getD_eq_getElem?_getD, List.getElem?_eq_getElem h]; rfl
theorem evIx_sta (st sn ix : Nat) (a : Bool) (h : ix ≤ 14) : evIx (staE st sn ix a) = (ix, false, true) := by
  have h8 : ix % 256 = ix := by omega
  unfold evIx staE f8
  simp only [h8]
  rw [if_neg (by decide), if_pos ⟨by decide, h⟩]
theorem evIx_thr (st sn ix : Nat) (a : Bool) (r lim : Nat) (h : ix < 6) : evIx (thrE st sn ix a r lim) = (ix, true, true) := by
  have key : ∀ j : Fin 6, offX ((80 + offL.getD j.val 0) % 256) = j.val := by decide +kernel
  have h1 := key ⟨ix, h⟩
  unfold evIx thrE f8
  simp only at h1 ⊢
  rw [if_pos (by decide), h1, if_pos h]
/-- How many bits a sensor has. -/
def kS (S : Sen) : Nat := if S.disc then 15 else 6
theorem oneE_ix {S : Sen} {raw : Nat} {ix : Nat} {a : Bool} (h : ix < kS S) : evIx (oneE S raw ⟨ix, a⟩) = (ix, !S.disc, true) := by
  unfold oneE
  unfold kS at h
  cases hd : S.disc with
  | true => rw [hd] at h; simp only [if_true] at h ⊢; rw [Int.toNat_natCast]; exact evIx_sta _ _ _ _ (by omega)
  | false => rw [hd] at h; simp only [if_false, Bool.false_eq_true] at h ⊢; rw [Int.toNat_natCast]; exact evIx_thr _ _ _ _ _ _ h
theorem oneE_rest {S : Sen} {raw : Nat} {c : Chg} (hn : S.number < 256) : (oneE S raw c).sen.val = S.number ∧ (oneE S raw c).de = !c.on ∧ (oneE S raw c).id.val = 0 ∧ (oneE S raw c).time.val = 0 := by
  unfold oneE
  split
  · exact ⟨Nat.mod_eq_of_lt hn, rfl, rfl, rfl⟩
  · exact ⟨Nat.mod_eq_of_lt hn, rfl, rfl, rfl⟩
theorem evsM_append (S : Sen) (a b : List Chg) (raw : Nat) : evsM S (a ++ b) raw = evsM S a raw ++ evsM S b raw := by
  unfold evsM
  rw [List.filter_append, List.map_append]
/-- The events of one sensor. -/
theorem alt_sensor {S : Sen} {raw a b : Nat} (hn : S.number < 256) (hw : S.asrt = bitN S ∧ S.deas = bitN S) (ha : a &&& bitN S = a) (hb : b &&& bitN S = b) {on : Nat → Nat → Bool} {last : Int} (hon : ∀ i, i < 15 → on S.number i = a.testBit i) (hl : last < 20 * (S.number : Int)) :
    ∀ k, k ≤ kS S → AltOk on last (evsM S (chL a b k) raw) ∧ (∀ i, i < 15 → onE on (evsM S (chL a b k) raw) S.number i = if i < k then b.testBit i else a.testBit i) ∧ (∀ n, n ≠ S.number → ∀ i, onE on (evsM S (chL a b k) raw) n i = on n i) ∧ lastE last (evsM S (chL a b k) raw) < 20 * (S.number : Int) + k
  | 0, _ => ⟨trivial, fun i hi => by simpa [chL, evsM, onE] using hon i hi, fun n hn i => rfl, by simpa [chL, evsM, lastE] using hl⟩
  | k + 1, hk => by
    obtain ⟨h1, h2, h3, h4⟩ := alt_sensor hn hw ha hb hon hl k (by omega)
    have hk15 : k < 15 := by unfold kS at hk; split at hk <;> omega
    rw [chL, evsM_append]
    cases hx : (a ^^^ b).testBit k with
    | false =>
      have hab : a.testBit k = b.testBit k := by
        rw [Nat.testBit_xor] at hx
        cases h5 : a.testBit k <;> cases h6 : b.testBit k <;> rw [h5, h6] at hx <;> first | rfl | cases hx
      rw [if_neg (by simp)]
      rw [show evsM S [] raw = [] from rfl, List.append_nil]
      refine ⟨h1, fun i hi => ?_, h3, by push_cast; omega⟩
      rw [h2 i hi]
      rcases Nat.lt_trichotomy i k with h5 | h5 | h5
      · rw [if_pos h5, if_pos (by omega)]
      · subst h5; rw [if_neg (by omega), if_pos (by omega)]; exact hab
      · rw [if_neg (by omega), if_neg (by omega)]
    | true =>
      have hab : a.testBit k = !b.testBit k := by
        rw [Nat.testBit_xor] at hx
        cases h5 : a.testBit k <;> cases h6 : b.testBit k <;> rw [h5, h6] at hx <;> first | rfl | cases hx
      have hbit : (bitN S).testBit k = true := by
        have h5 := congrArg (fun x => x.testBit k) ha
        have h6 := congrArg (fun x => x.testBit k) hb
        simp only [Nat.testBit_and] at h5 h6
        cases h7 : (bitN S).testBit k with
        | true => rfl
        | false => rw [h7, Bool.and_false] at h5 h6; rw [← h5, ← h6] at hab; cases hab
      rw [if_pos rfl]
      have hen : evsM S [⟨(k : Int), b.testBit k⟩] raw = [oneE S raw ⟨(k : Int), b.testBit k⟩] := by
        unfold evsM
        have : enB S ⟨(k : Int), b.testBit k⟩ = true := by
          unfold enB
          simp only [Int.toNat_natCast]
          rw [hw.1, hw.2]
          split <;> exact hbit
        rw [List.filter_cons, if_pos this]
        rfl
      rw [hen]
      have e1 := oneE_ix (S := S) (raw := raw) (a := b.testBit k) (show k < kS S by omega)
      obtain ⟨e2, e3, e4, e5⟩ := oneE_rest (S := S) (raw := raw) (c := ⟨(k : Int), b.testBit k⟩) hn
      have e6 : ixE (oneE S raw ⟨(k : Int), b.testBit k⟩) = k := by unfold ixE; rw [e1]
      generalize oneE S raw ⟨(k : Int), b.testBit k⟩ = e at e1 e2 e3 e4 e5 e6
      have hat : atE e = 20 * (S.number : Int) + k := by unfold atE; rw [e2, e6]
      refine ⟨AltOk.append h1 ⟨⟨by rw [e1], by rw [hat]; exact h4, ?_, e4, e5⟩, trivial⟩, fun i hi => ?_, fun n hnn i => ?_, ?_⟩
      · rw [e2, e6, h2 k hk15, if_neg (by omega), e3]; exact hab
      · rw [onE_append]
        show updO (onE on (evsM S (chL a b k) raw)) e S.number i = _
        unfold updO
        by_cases hik : i = k
        · subst hik
          rw [if_pos ⟨e2.symm, e6.symm⟩, e3, if_pos (by omega), Bool.not_not]
        · rw [if_neg (by rintro ⟨_, h⟩; rw [e6] at h; exact hik h), h2 i hi]
          by_cases h5 : i < k
          · rw [if_pos h5, if_pos (by omega)]
          · rw [if_neg h5, if_neg (by omega)]
      · rw [onE_append]
        show updO (onE on (evsM S (chL a b k) raw)) e n i = _
        unfold updO
        rw [if_neg (by rintro ⟨h, _⟩; rw [e2] at h; exact hnn h)]
        exact h3 n hnn i
      · rw [lastE_append]
        show atE e < _
        rw [hat]
        push_cast
        omega
end Go.Proofs.YtijjkonephjodaaGreatDoor
