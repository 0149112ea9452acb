/- The events of a whole scan alternate, plain. -/
import Derived.Test.YtijjkonephjodaaGreatDoorMoAlP
import Derived.Test.YtijjkonephjodaaGreatDoorMoSlP
namespace Go.Proofs.YtijjkonephjodaaGreatDoor
open Go.RowKit
set_option linter.unusedVariables false
set_option linter.unusedSimpArgs false
theorem sub_zero16 {s m : Nat} (hm : m ≤ 65535) (h : s &&& m = s) : s &&& (65535 - m) = 0 := by
  refine Nat.eq_of_testBit_eq fun i => ?_
  have h1 := congrArg (fun x => x.testBit i) h
  simp only [Nat.testBit_and] at h1
  rw [show 65535 - m = 2 ^ 16 - (m + 1) by omega, Nat.testBit_and, Nat.testBit_two_pow_sub_succ (by omega), Nat.zero_testBit]
  cases h2 : s.testBit i <;> cases h3 : m.testBit i <;> rw [h2, h3] at h1 <;> simp at h1 ⊢
theorem sub_zero8 {s m : Nat} (hm : m ≤ 255) (h : s &&& m = s) : s &&& (255 - m) = 0 := by
  refine Nat.eq_of_testBit_eq fun i => ?_
  have h1 := congrArg (fun x => x.testBit i) h
  simp only [Nat.testBit_and] at h1
  rw [show 255 - m = 2 ^ 8 - (m + 1) by omega, Nat.testBit_and, Nat.testBit_two_pow_sub_succ (by omega), Nat.zero_testBit]
  cases h2 : s.testBit i <;> cases h3 : m.testBit i <;> rw [h2, h3] at h1 <;> simp at h1 ⊢
/-- The form of a step: the changes between two states. -/
theorem stepR_form {S : Sen} {P : List Pt} {W : List Int} {n : Int} {s : Nat} {smp : Smp} (hv : validB S P = true) (hs : s &&& bitN S = s) (hx : S.disc = true → smp.sts.val &&& (65535 - S.states) = 0) :
    (stepR S P W n s smp).1 = chL s (stepR S P W n s smp).2.2.2 (kS S) ∧ (stepR S P W n s smp).2.2.2 &&& bitN S = (stepR S P W n s smp).2.2.2 := by
  unfold stepR kS
  cases hd : S.disc with
  | true =>
    simp only [if_true]
    have hb : bitN S = S.states := by unfold bitN; rw [hd]; rfl
    have hst : S.states ≤ 32767 := by
      have h := hv
      unfold validB at h
      rw [hd, if_pos rfl, Bool.and_eq_true] at h
      have h2 := h.2
      unfold discB at h2
      simp only [Bool.and_eq_true, decide_eq_true_eq] at h2
      exact h2.1.2.2
    rw [hb] at hs ⊢
    split
    · have hdg : digB S P = true := by unfold digB; rw [hd, hv]; rfl
      have h0 : (s ||| smp.sts.val) &&& (65535 - S.states) = 0 := by
        rw [Nat.and_comm, Nat.and_or_distrib_left, Nat.and_comm, sub_zero16 (by omega) hs, Nat.and_comm, hx hd]
        rfl
      have e : dstepN S P s smp.sts.val = (smp.sts.val, chL s smp.sts.val 15, 0) := by unfold dstepN; rw [hdg, if_pos rfl, if_pos h0]
      rw [e]
      refine ⟨rfl, ?_⟩
      refine Nat.eq_of_testBit_eq fun i => ?_
      have h1 := congrArg (fun x => x.testBit i) (hx hd)
      rw [show 65535 - S.states = 2 ^ 16 - (S.states + 1) by omega] at h1
      simp only [Nat.testBit_and, Nat.testBit_two_pow_sub_succ (show S.states < 2 ^ 16 by omega), Nat.zero_testBit] at h1
      rw [Nat.testBit_and]
      have hlt : i < 16 ∨ smp.sts.val.testBit i = false := by
        rcases Nat.lt_or_ge i 16 with h | h
        · exact .inl h
        · exact .inr (Nat.testBit_lt_two_pow (Nat.lt_of_lt_of_le smp.sts.isLt (show 2 ^ 16 ≤ 2 ^ i from Nat.pow_le_pow_right (by omega) h)))
      rcases hlt with h | h
      · rw [decide_eq_true h, Bool.true_and] at h1
        cases h2 : smp.sts.val.testBit i <;> cases h3 : S.states.testBit i <;> rw [h2, h3] at h1 <;> simp at h1 ⊢
      · rw [h]; rfl
    · exact ⟨(chL_same _ _).symm, hs⟩
  | false =>
    simp only [if_false, Bool.false_eq_true]
    have hb : bitN S = S.mask := by unfold bitN; rw [hd]; rfl
    have hm := (validB_ana hv hd).2.2.1
    rw [hb] at hs ⊢
    split
    · refine ⟨?_, step_bits⟩
      unfold stepN
      rw [(validB_ana hv hd).1, if_pos rfl, if_pos (sub_zero8 (by omega) hs)]
    · exact ⟨(chL_same _ _).symm, hs⟩
theorem chkM_all {l : List SenX} {X : List Smp} (h : chkM l X = 0) {i : Nat} (hi : i < X.length) : chkAt l X i = 0 := by
  unfold chkM at h
  cases hf : ((List.range X.length).map (chkAt l X)).find? fun c => c != 0 with
  | none =>
    rw [List.find?_eq_none] at hf
    have := hf (chkAt l X i) (List.mem_map.2 ⟨i, List.mem_range.2 hi, rfl⟩)
    simpa using this
  | some c =>
    rw [hf] at h
    have h1 := List.find?_some hf
    simp at h h1
    exact absurd h h1
theorem chkM_pick {l : List SenX} {X : List Smp} (hg : ∀ i, i < l.length → goodS l i = true) (h0 : chkM l X = 0) {j : Nat} (hj : j < l.length) : (pickX X (l.getD j default).S.number).sts.val &&& (65535 - (l.getD j default).S.states) = 0 := by
  unfold pickX
  split
  · rename_i hi
    have h1 := chkM_all h0 hi
    have hn : numX X (smpIdx X (l.getD j default).S.number) = (l.getD j default).S.number := by
      have := List.findIdx_getElem (p := isNumX (l.getD j default).S.number) (xs := X) (w := hi)
      unfold numX
      rw [List.getD_eq_getElem?_getD, List.getElem?_eq_getElem hi]
      exact of_decide_eq_true this
    have hij : numIdx l (l.getD j default).S.number = j := ((num_only hg hj).1 rfl).symm
    unfold chkAt at h1
    rw [hn, hij] at h1
    split at h1
    · cases h1
    · (try rw [if_pos hj] at h1)
      split at h1
      · cases h1
      · split at h1
        · rename_i h2; exact h2
        · cases h1
  · show 0 &&& _ = 0
    simp
section
variable {w wr : World} {mb fb sb : Nat} {vs va : Value} {l : List SenX} {A : List Asc} {F F' : List FltX} {st st' : List Nat} {ab : List Ent} {host : Bool} {X : List Smp} {vo : Value}
/-- What a scan makes of one sensor, as a change of its state. -/
theorem scanAt_form (h : MonAt w mb fb sb vs va l A F st) (h0 : chkM l X = 0) {j : Nat} (hj : j < l.length) :
    ∃ raw, (scanAt A ab host X l F st j).1 = evsM (l.getD j default).S (chL (st.getD j 0) (scanAt A ab host X l F st j).2.2 (kS (l.getD j default).S)) raw ∧ (scanAt A ab host X l F st j).2.2 &&& bitN (l.getD j default).S = (scanAt A ab host X l F st j).2.2 := by
  unfold scanAt scan1
  split
  · obtain ⟨h1, h2⟩ := stepR_form (W := (F.getD j default).W) (n := (F.getD j default).n) (smp := pickX X (l.getD j default).S.number) (h.valid hj) (h.sbit j hj) (fun _ => chkM_pick h.good h0 hj)
    exact ⟨_, by simp only; rw [← h1], h2⟩
  · exact ⟨0, by simp only; rw [chL_same]; rfl, h.sbit j hj⟩
theorem alt_scan (h : MonAt w mb fb sb vs va l A F st) (hW : ∀ j, j < l.length → Wat (l.getD j default)) (hN : ∀ j, j < l.length → (l.getD j default).S.number < 256) (h0 : chkM l X = 0) {on : Nat → Nat → Bool} (hon : ∀ j, j < l.length → ∀ i, i < 15 → on (numS l j) i = (st.getD j 0).testBit i) :
    ∀ k, k ≤ l.length → AltOk on (-1) (scanE A ab host X l F st k) ∧ (∀ t, t < l.length → ∀ i, i < 15 → onE on (scanE A ab host X l F st k) (numS l t) i = if t < k then (scanAt A ab host X l F st t).2.2.testBit i else (st.getD t 0).testBit i) ∧ ∀ t, k ≤ t → t < l.length → lastE (-1) (scanE A ab host X l F st k) < 20 * (numS l t : Int)
  | 0, _ => ⟨trivial, fun t ht i hi => by rw [if_neg (by omega)]; exact hon t ht i hi, fun t _ _ => by show (-1 : Int) < _; omega⟩
  | k + 1, hk => by
    obtain ⟨h1, h2, h3⟩ := alt_scan h hW hN h0 hon k (by omega)
    have hkl : k < l.length := by omega
    obtain ⟨raw, e1, e2⟩ := scanAt_form (ab := ab) (host := host) h h0 hkl
    have hs := alt_sensor (raw := raw) (hN k hkl) (hW k hkl) (h.sbit k hkl) e2 (on := onE on (scanE A ab host X l F st k)) (last := lastE (-1) (scanE A ab host X l F st k)) (fun i hi => by have := h2 k hkl i hi; rw [if_neg (by omega)] at this; exact this) (h3 k (Nat.le_refl _) hkl) (kS (l.getD k default).S) (Nat.le_refl _)
    rw [← e1] at hs
    obtain ⟨a1, a2, a3, a4⟩ := hs
    rw [scanE]
    have hb15 : ∀ i, i < 15 → onE (onE on (scanE A ab host X l F st k)) (scanAt A ab host X l F st k).1 (numS l k) i = (scanAt A ab host X l F st k).2.2.testBit i := fun i hi => by
      have h4 := a2 i hi
      rw [show numS l k = (l.getD k default).S.number from rfl, h4]
      split
      · rfl
      · rename_i hik
        have key : ∀ z : Nat, z &&& bitN (l.getD k default).S = z → z.testBit i = false := fun z hz => by
          have h5 := congrArg (fun x => x.testBit i) hz
          simp only [Nat.testBit_and] at h5
          have h6 : (bitN (l.getD k default).S).testBit i = false := by
            unfold kS at hik
            split at hik
            · omega
            · rename_i hd
              have hb : bitN (l.getD k default).S = (l.getD k default).S.mask := by unfold bitN; rw [if_neg hd]
              rw [hb]
              have hm := (validB_ana (h.valid hkl) (by simpa using hd)).2.2.1
              exact Nat.testBit_lt_two_pow (Nat.lt_of_lt_of_le hm (show 2 ^ 6 ≤ 2 ^ i from Nat.pow_le_pow_right (by omega) (by omega)))
          rw [h6, Bool.and_false] at h5
          exact h5.symm
        rw [key _ (h.sbit k hkl), key _ e2]
    refine ⟨AltOk.append h1 a1, fun t ht i hi => ?_, fun t ht htl => ?_⟩
    · rw [onE_append]
      by_cases htk : t = k
      · subst htk; rw [hb15 i hi, if_pos (by omega)]
      · have hne : numS l t ≠ (l.getD k default).S.number := fun he => by
          rcases Nat.lt_or_ge t k with h5 | h5
          · have := goodS_lt h.good k hkl t h5
            have h6 : numS l t = numS l k := he
            omega
          · have := goodS_lt h.good t ht k (by omega)
            have h6 : numS l t = numS l k := he
            omega
        rw [a3 _ hne, h2 t ht i hi]
        by_cases h5 : t < k
        · rw [if_pos h5, if_pos (by omega)]
        · rw [if_neg h5, if_neg (by omega)]
    · rw [lastE_append]
      have h5 := goodS_lt h.good t htl k (by omega)
      have h6 : (numS l k : Int) = ((l.getD k default).S.number : Int) := rfl
      have h7 : kS (l.getD k default).S ≤ 15 := by unfold kS; split <;> omega
      omega
/-- The readings of events are those of the monitor. -/
theorem scan_reads (h : MonAt w mb fb sb vs va l A F st) (hN : ∀ j, j < l.length → (l.getD j default).S.number < 256) (h0 : chkM l X = 0) (hS : ScRel w mb fb sb vs va l A F st ab host X l.length vo F' st' wr) :
    ∀ k, k ≤ l.length → ∀ e, e ∈ scanE A ab host X l F st k → (evIx e).2.1 = true → (readM l F' e.sen.val).2 = true ∧ e.d1 = f8 (readM l F' e.sen.val).1.toNat
  | 0, _, e, he, _ => by simp [scanE] at he
  | k + 1, hk, e, he, ha => by
    rw [scanE, List.mem_append] at he
    rcases he with he | he
    · exact scan_reads h hN h0 hS k (by omega) e he ha
    · have hkl : k < l.length := by omega
      obtain ⟨f1, f2, _⟩ := hS.lt k hkl
      unfold scanAt scan1 at he f1 f2
      split at he
      · rename_i hon
        rw [if_pos hon] at f1 f2
        simp only at he f1 f2
        have hin := stepR_in (S := (l.getD k default).S) (P := (l.getD k default).P) (W := (F.getD k default).W) (n := (F.getD k default).n) (s := st.getD k 0) (x := pickX X (l.getD k default).S.number)
        unfold evsM at he
        obtain ⟨c, hc, rfl⟩ := List.mem_map.1 he
        have hc2 := (List.mem_filter.1 hc).1
        obtain ⟨i, hi, hci⟩ := List.getElem_of_mem hc2
        have hidx := hin.1 i hi
        rw [List.getD_eq_getElem?_getD, List.getElem?_eq_getElem hi, Option.getD_some, hci] at hidx
        obtain ⟨ix, hix⟩ := Int.eq_ofNat_of_zero_le hidx.1
        have hce : c = ⟨(ix : Int), c.on⟩ := by cases c; simp only at hix; rw [hix]
        have hxk : ix < kS (l.getD k default).S := by
          have := hidx.2
          unfold kS
          split at this <;> (rename_i hd; first | rw [if_pos hd] | rw [if_neg hd]) <;> omega
        have e1 := oneE_ix (S := (l.getD k default).S) (raw := (stepR (l.getD k default).S (l.getD k default).P (F.getD k default).W (F.getD k default).n (st.getD k 0) (pickX X (l.getD k default).S.number)).2.1.toNat) (a := c.on) hxk
        rw [← hce] at e1
        rw [e1] at ha
        have hd : (l.getD k default).S.disc = false := by simpa using ha
        obtain ⟨e2, _⟩ := oneE_rest (S := (l.getD k default).S) (raw := (stepR (l.getD k default).S (l.getD k default).P (F.getD k default).W (F.getD k default).n (st.getD k 0) (pickX X (l.getD k default).S.number)).2.1.toNat) (c := c) (hN k hkl)
        rw [e2]
        have hrm : readM l F' (l.getD k default).S.number = readV (l.getD k default).S (l.getD k default).P (F'.getD k default).W (F'.getD k default).n := by
          have hni : numIdx l (l.getD k default).S.number = k := ((num_only h.good hkl).1 rfl).symm
          unfold readM
          rw [hni, if_pos hkl, hd, if_neg (by simp)]
        rw [hrm, f1, f2]
        have hsr : (stepR (l.getD k default).S (l.getD k default).P (F.getD k default).W (F.getD k default).n (st.getD k 0) (pickX X (l.getD k default).S.number)).1 ≠ [] := fun h9 => by rw [h9] at hc2; simp at hc2
        have hd1 : ∀ raw, (oneE (l.getD k default).S raw c).d1 = f8 raw := fun raw => by unfold oneE; rw [hd, if_neg (by simp)]; rfl
        rw [hd1]
        unfold stepR at hsr ⊢
        rw [hd, if_neg (by simp)] at hsr ⊢
        split at hsr
        · rename_i hr
          rw [if_pos hr]
          exact ⟨hr, rfl⟩
        · exact absurd rfl hsr
      · simp at he
end
end Go.Proofs.YtijjkonephjodaaGreatDoor
