/- Monitors whose sensors sleep, plain. -/
import Derived.Test.YtijjkonephjodaaGreatDoorMoLaw
namespace Go.Proofs.YtijjkonephjodaaGreatDoor
open Go.RowKit
set_option linter.unusedVariables false
set_option linter.unusedSimpArgs false
/-- A window of at most one sample, and a state that its reading leaves as it is. -/
def CalmS (x : SenX) (W : List Int) (s : Nat) : Prop := W.length ≤ 1 ∧ (x.S.disc = false → (W.length : Int) = x.S.samples → (stepN x.S x.P s (medV x.S.conv.sgn W).toNat).1 = s ∧ (stepN x.S x.P s (medV x.S.conv.sgn W).toNat).2.1 = [])
def Calm (l : List SenX) (F : List FltX) (st : List Nat) : Prop := ∀ j, j < l.length → CalmS (l.getD j default) (F.getD j default).W (st.getD j 0)
theorem valid_samples {S : Sen} {P : List Pt} (h : validB S P = true) : 1 ≤ S.samples := by
  unfold validB at h
  simp only [Bool.and_eq_true, decide_eq_true_eq] at h
  have := h.1.2
  omega
theorem CalmS.nil {x : SenX} (h : validB x.S x.P = true) (s : Nat) : CalmS x [] s := ⟨by simp, fun _ hl => by have := valid_samples h; simp at hl; omega⟩
theorem chL_same (a : Nat) : ∀ k, chL a a k = []
  | 0 => rfl
  | k + 1 => by rw [chL, chL_same a k, Nat.xor_self, Nat.zero_testBit]; rfl
theorem step_again {S : Sen} {P : List Pt} (h : validB S P = true) (hd : S.disc = false) {s : Nat} (hs : s &&& (255 - S.mask) = 0) (r : Nat) : (stepN S P (stepN S P s r).1 r).1 = (stepN S P s r).1 ∧ (stepN S P (stepN S P s r).1 r).2.1 = [] := by
  have hm : S.mask < 256 := by have := (validB_ana h hd).2.2.1; omega
  have ha := (validB_ana h hd).1
  have e1 : stepN S P s r = (nextN S s (numI S.conv.sgn r), chL s (nextN S s (numI S.conv.sgn r)) 6, 0) := by unfold stepN; rw [ha, if_pos rfl, if_pos hs]
  have e2 : stepN S P (nextN S s (numI S.conv.sgn r)) r = (nextN S (nextN S s (numI S.conv.sgn r)) (numI S.conv.sgn r), chL (nextN S s (numI S.conv.sgn r)) (nextN S (nextN S s (numI S.conv.sgn r)) (numI S.conv.sgn r)) 6, 0) := by unfold stepN; rw [ha, if_pos rfl, if_pos (next_mask S s _ hm)]
  rw [e1, e2]
  simp only
  rw [next_again]
  exact ⟨rfl, chL_same _ _⟩
/-- A full window is readable. -/
theorem readV_full {S : Sen} {P : List Pt} {W : List Int} {n : Int} (hf : fltB S P W n = true) : (readV S P W n).2 = decide ((W.length : Int) = S.samples) ∧ ((W.length : Int) = S.samples → (readV S P W n).1 = medV S.conv.sgn W) := by
  unfold readV
  rw [rdB_eq, hf, Bool.true_and]
  constructor
  · split
    · rename_i h; rw [h]
    · rename_i h; simp only [Bool.not_eq_true] at h; rw [h]
  · intro h
    rw [if_pos (by simpa using h)]
theorem fltB_valid {S : Sen} {P : List Pt} {W : List Int} {n : Int} (h : fltB S P W n = true) : validB S P = true := by
  rw [fltB_eq, Bool.and_eq_true] at h
  exact h.1
/-- After a first step: calm. -/
theorem calm_first {x : SenX} {n : Int} {smp : Smp} (hf : fltB x.S x.P [] n = true) : CalmS x (stepR x.S x.P [] n 0 smp).2.2.1.1 (stepR x.S x.P [] n 0 smp).2.2.2 := by
  have hv := fltB_valid hf
  unfold stepR
  cases hd : x.S.disc with
  | true =>
    simp only [if_true]
    split
    · exact ⟨by simp, fun h => by rw [hd] at h; cases h⟩
    · exact ⟨by simp, fun h => by rw [hd] at h; cases h⟩
  | false =>
    simp only [if_false, Bool.false_eq_true]
    have hf2 := fltB_step (r := smp.raw.val) (ok := smp.ok) hf
    have hr := readV_full hf2
    have hl : (stepF x.S.samples [] n smp.raw.val smp.ok).1.length ≤ 1 := by
      unfold stepF
      split
      · unfold nextW; split <;> simp
      · split <;> simp
    generalize stepF x.S.samples [] n smp.raw.val smp.ok = N at hf2 hr hl
    split
    · rename_i h
      rw [hr.1, decide_eq_true_eq] at h
      rw [hr.2 h]
      refine ⟨hl, fun _ _ => ?_⟩
      exact step_again hv hd (by simp) _
    · rename_i h
      rw [hr.1, decide_eq_true_eq] at h
      exact ⟨hl, fun _ h2 => absurd h2 h⟩
/-- A step without a sample. -/
theorem calm_miss {x : SenX} {W : List Int} {n : Int} {s : Nat} {smp : Smp} (hx : smp.ok = false) (hf : fltB x.S x.P W n = true) (hc : CalmS x W s) : (stepR x.S x.P W n s smp).1 = [] ∧ (stepR x.S x.P W n s smp).2.2.2 = s ∧ CalmS x (stepR x.S x.P W n s smp).2.2.1.1 s := by
  have hv := fltB_valid hf
  unfold stepR
  rw [hx]
  cases hd : x.S.disc with
  | true => exact ⟨rfl, rfl, hc⟩
  | false =>
    simp only [if_false, Bool.false_eq_true]
    have hf2 := fltB_step (r := smp.raw.val) (ok := false) hf
    have hr := readV_full hf2
    have hW : (stepF x.S.samples W n smp.raw.val false).1 = [] ∨ (stepF x.S.samples W n smp.raw.val false).1 = W := by
      unfold stepF
      rw [if_neg (by simp)]
      split
      · exact .inl rfl
      · exact .inr rfl
    generalize stepF x.S.samples W n smp.raw.val false = N at hf2 hr hW
    have hc2 : CalmS x N.1 s := by
      rcases hW with h | h
      · rw [h]; exact CalmS.nil hv s
      · rw [h]; exact hc
    split
    · rename_i h
      rw [hr.1, decide_eq_true_eq] at h
      rw [hr.2 h]
      have h2 := hc2.2 hd h
      exact ⟨h2.2, h2.1, by rw [h2.1]; exact hc2⟩
    · exact ⟨rfl, rfl, hc2⟩
section
variable {w wr : World} {mb fb sb : Nat} {vs va : Value} {l : List SenX} {A : List Asc} {F F' : List FltX} {st st' : List Nat} {ab : List Ent} {host : Bool} {X : List Smp} {vo : Value}
/-- A first scan leaves a calm monitor. -/
theorem Calm.first (h : MonAt w mb fb sb vs va l A (List.replicate l.length zFlt) (List.replicate l.length 0)) (hS : ScRel w mb fb sb vs va l A (List.replicate l.length zFlt) (List.replicate l.length 0) ab host X l.length vo F' st' wr) : Calm l F' st' := fun j hj => by
  obtain ⟨h1, _, h3⟩ := hS.lt j hj
  have hw : ((List.replicate l.length zFlt).getD j default).W = [] ∧ ((List.replicate l.length (0 : Nat)).getD j 0) = 0 := by
    rw [List.getD_eq_getElem?_getD, List.getElem?_replicate_of_lt hj, List.getD_eq_getElem?_getD, List.getElem?_replicate_of_lt hj]
    exact ⟨rfl, rfl⟩
  have hf := h.fok j (by rw [h.flen]; exact hj)
  unfold scanAt scan1 at h1 h3
  rw [hw.1] at hf h1 h3
  rw [hw.2] at h1 h3
  rw [h1, h3]
  split
  · exact calm_first hf
  · exact CalmS.nil (h.valid hj) 0
theorem Calm.zero (h : MonAt w mb fb sb vs va l A (List.replicate l.length zFlt) (List.replicate l.length 0)) : Calm l (List.replicate l.length zFlt) (List.replicate l.length 0) := fun j hj => by
  have e1 : ((List.replicate l.length zFlt).getD j default) = zFlt := by rw [List.getD_eq_getElem?_getD, List.getElem?_replicate_of_lt hj]; rfl
  have e2 : ((List.replicate l.length (0 : Nat)).getD j 0) = 0 := by rw [List.getD_eq_getElem?_getD, List.getElem?_replicate_of_lt hj]; rfl
  rw [e1, e2]
  exact CalmS.nil (h.valid hj) 0
theorem scanE_nil (h : ∀ j, j < l.length → (scanAt A ab host X l F st j).1 = []) : ∀ k, k ≤ l.length → scanE A ab host X l F st k = []
  | 0, _ => rfl
  | k + 1, hk => by rw [scanE, scanE_nil h k (by omega), h k (by omega)]; rfl
theorem states_same {a b : List Nat} (hl : a.length = b.length) (h : ∀ j, j < a.length → a.getD j 0 = b.getD j 0) : a = b := by
  refine List.ext_getElem hl fun j h1 h2 => ?_
  have := h j h1
  rw [List.getD_eq_getElem?_getD, List.getElem?_eq_getElem h1, List.getD_eq_getElem?_getD, List.getElem?_eq_getElem h2] at this
  exact this
/-- A scan in which no sensor is scanned, or in which no sample came. -/
theorem Calm.next (h : MonAt w mb fb sb vs va l A F st) (hc : Calm l F st) (hS : ScRel w mb fb sb vs va l A F st ab host X l.length vo F' st' wr) (hX : (∀ j, j < l.length → onB A ab host (l.getD j default).S = false) ∨ X = []) :
    scanE A ab host X l F st l.length = [] ∧ st' = st ∧ Calm l F' st := by
  have key : ∀ j, j < l.length → (scanAt A ab host X l F st j).1 = [] ∧ (scanAt A ab host X l F st j).2.2 = st.getD j 0 ∧ CalmS (l.getD j default) (scanAt A ab host X l F st j).2.1.1 (st.getD j 0) := fun j hj => by
    have hf := h.fok j (by rw [h.flen]; exact hj)
    unfold scanAt scan1
    cases hon : onB A ab host (l.getD j default).S with
    | false =>
      rw [if_neg (by simp)]
      exact ⟨rfl, rfl, CalmS.nil (h.valid hj) _⟩
    | true =>
      rw [if_pos rfl]
      rcases hX with hX | hX
      · rw [hX j hj] at hon; cases hon
      · have hpk : (pickX X (l.getD j default).S.number).ok = false := by rw [hX]; rfl
        have hm := calm_miss hpk hf (hc j hj)
        refine ⟨?_, hm.2.1, hm.2.2⟩
        simp only
        rw [hm.1]
        rfl
  refine ⟨scanE_nil (fun j hj => (key j hj).1) _ (Nat.le_refl _), states_same (by rw [hS.mon.slen, h.slen]) (fun j hj => ?_), fun j hj => ?_⟩
  · rw [(hS.lt j (by rw [← hS.mon.slen]; exact hj)).2.2, (key j (by rw [← hS.mon.slen]; exact hj)).2.1]
  · rw [(hS.lt j hj).1]
    exact (key j hj).2.2
theorem onB_asleep {S : Sen} (h : S.host = true) : onB A ab false S = false := by unfold onB; rw [h]; simp
theorem onB_absent {S : Sen} (hA : chkE A = 0) (h : entS S ∈ ab) : onB A ab host S = false := by
  unfold onB
  have : presR A ab (entS S) = false := by
    unfold presR
    rw [if_pos hA]
    cases hp : presB A ab (entS S) with
    | false => rfl
    | true => exact absurd h (presB_iff.1 hp).1
  rw [this]
  rfl
/-- A reading of a calm monitor is that of a single sample. -/
theorem calm_read (h : MonAt w mb fb sb vs va l A F st) (hc : Calm l F st) {j : Nat} (hj : j < l.length) (hn : numIdx l (l.getD j default).S.number = j) (hr : (readM l F (l.getD j default).S.number).2 = true) : (l.getD j default).S.samples ≤ 1 := by
  unfold readM at hr
  rw [hn, if_pos hj] at hr
  split at hr
  · cases hr
  · have hf := h.fok j (by rw [h.flen]; exact hj)
    rw [(readV_full hf).1, decide_eq_true_eq] at hr
    have := (hc j hj).1
    omega
end
end Go.Proofs.YtijjkonephjodaaGreatDoor
