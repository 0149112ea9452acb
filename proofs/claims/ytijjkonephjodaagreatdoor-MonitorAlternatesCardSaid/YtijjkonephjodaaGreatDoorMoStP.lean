/- A step of a monitor, as plain data; another filter at a place. -/
import Derived.Test.YtijjkonephjodaaGreatDoorMoSmp
import Derived.Test.YtijjkonephjodaaGreatDoorMoEvs
import Derived.Test.YtijjkonephjodaaGreatDoorJoAF
import Derived.Test.YtijjkonephjodaaGreatDoorJoAE
namespace Go.Proofs.YtijjkonephjodaaGreatDoor
open Go.RowKit
set_option linter.unusedVariables false
set_option linter.unusedSimpArgs false
/-- What a step gives: the changes, the reading, the filter, the state. -/
noncomputable def stepR (S : Sen) (P : List Pt) (W : List Int) (n : Int) (s : Nat) (x : Smp) : List Chg × Int × (List Int × Int) × Nat :=
  if S.disc then (if x.ok then ((dstepN S P s x.sts.val).2.1, 0, (W, n), (dstepN S P s x.sts.val).1) else ([], 0, (W, n), s))
  else if (readV S P (stepF S.samples W n x.raw.val x.ok).1 (stepF S.samples W n x.raw.val x.ok).2).2 then
    ((stepN S P s (readV S P (stepF S.samples W n x.raw.val x.ok).1 (stepF S.samples W n x.raw.val x.ok).2).1.toNat).2.1, (readV S P (stepF S.samples W n x.raw.val x.ok).1 (stepF S.samples W n x.raw.val x.ok).2).1, stepF S.samples W n x.raw.val x.ok,
      (stepN S P s (readV S P (stepF S.samples W n x.raw.val x.ok).1 (stepF S.samples W n x.raw.val x.ok).2).1.toNat).1)
  else ([], 0, stepF S.samples W n x.raw.val x.ok, s)
theorem fltB_step {S : Sen} {P : List Pt} {W : List Int} {n r : Int} {ok : Bool} (h : fltB S P W n = true) : fltB S P (stepF S.samples W n r ok).1 (stepF S.samples W n r ok).2 = true := by
  rw [fltB_eq, Bool.and_eq_true, decide_eq_true_eq] at h
  obtain ⟨hv, h1, h2, h3, h4⟩ := h
  have hs : 1 ≤ S.samples := by
    unfold validB at hv
    simp only [Bool.and_eq_true, decide_eq_true_eq] at hv
    have := hv.1.2
    omega
  rw [fltB_eq, hv, Bool.true_and, decide_eq_true_eq]
  unfold stepF
  split
  · unfold nextW
    split
    · simp; omega
    · simp; omega
  · split
    · simp; omega
    · simp only; omega
theorem bytes_step {S : Sen} {W : List Int} {n : Int} {r : Nat} {ok : Bool} (hr : r < 256) (h : Bytes W) : Bytes (stepF S.samples W n r ok).1 := by
  have hw : Bytes (W ++ [(r : Int)]) := fun i => by
    rw [List.getD_eq_getElem?_getD]
    rcases Nat.lt_trichotomy i W.length with h1 | h1 | h1
    · rw [List.getElem?_append_left h1, ← List.getD_eq_getElem?_getD]; exact h i
    · subst h1; simp; omega
    · rw [List.getElem?_eq_none (by simp; omega)]; simp
  unfold stepF
  split
  · unfold nextW
    split
    · intro i
      have := hw (i + 1)
      rw [List.getD_eq_getElem?_getD] at this ⊢
      rwa [List.getElem?_drop, Nat.add_comm]
    · exact hw
  · split
    · intro i; simp
    · exact h
theorem dstep_bits {S : Sen} {P : List Pt} {a b : Nat} (hs : S.states < 65536) (ha : a < 65536) (hb : b < 65536) : (dstepN S P a b).1 &&& S.states = (dstepN S P a b).1 := by
  unfold dstepN
  split
  · split
    · rename_i h1 h2
      refine sub_bits hb hs ?_
      refine Nat.eq_of_testBit_eq fun i => ?_
      have h3 : ((a ||| b) &&& (65535 - S.states)).testBit i = false := by rw [h2]; simp
      rw [Nat.testBit_and, Nat.testBit_or] at h3
      rw [Nat.testBit_and, Nat.zero_testBit]
      cases h4 : b.testBit i
      · rfl
      · rw [h4, Bool.or_true, Bool.true_and] at h3; rw [h3]; rfl
    · simp
  · simp
theorem step_bits {S : Sen} {P : List Pt} {s r : Nat} : (stepN S P s r).1 &&& S.mask = (stepN S P s r).1 := by
  unfold stepN
  split
  · split
    · refine Nat.eq_of_testBit_eq fun i => ?_
      simp only
      rw [Nat.testBit_and, next_bit]
      cases S.mask.testBit i <;> simp
    · simp
  · simp
section
variable {w w' : World} {mb fb sb : Nat} {vs va : Value} {l : List SenX} {A : List Asc} {F : List FltX} {st : List Nat}
theorem cellsE_set {α : Type} {E : Elt α} (hk : ∀ a, (E.enc a).length = E.k) (hp : 0 < E.k) : ∀ (F : List α) (i : Nat) (f : α) (j : Nat), i < F.length → (cellsE E (F.set i f))[j]? = if i * E.k ≤ j ∧ j < i * E.k + E.k then (E.enc f)[j - i * E.k]? else (cellsE E F)[j]? := by
  intro F i f j hi
  have hl1 := cellsE_length hk F
  have hl2 := cellsE_length hk (F.set i f)
  rw [List.length_set] at hl2
  rcases Nat.lt_or_ge j (F.length * E.k) with hj | hj
  · have hq : j / E.k < F.length := Nat.div_lt_of_lt_mul (by rw [Nat.mul_comm]; exact hj)
    have hm : j % E.k < E.k := Nat.mod_lt _ hp
    have he : j / E.k * E.k + j % E.k = j := by rw [Nat.mul_comm]; exact Nat.div_add_mod j E.k
    have h1 := cellsE_get hk (F.set i f) (j / E.k) (by rw [List.length_set]; exact hq) (j % E.k) hm
    have h2 := cellsE_get hk F (j / E.k) hq (j % E.k) hm
    rw [he] at h1 h2
    rw [h1]
    by_cases hji : j / E.k = i
    · have hb : i * E.k ≤ j ∧ j < i * E.k + E.k := by rw [← hji]; omega
      rw [if_pos hb, List.getD_eq_getElem?_getD, hji, List.getElem?_set_self hi]
      congr 1
      rw [← hji]; omega
    · have hb : ¬ (i * E.k ≤ j ∧ j < i * E.k + E.k) := fun ⟨h3, h4⟩ => hji (by
        have := Nat.div_mul_le_self j E.k
        have h5 : j / E.k = i := by
          refine Nat.le_antisymm (Nat.lt_succ_iff.1 (Nat.div_lt_of_lt_mul (by rw [Nat.mul_comm, Nat.succ_mul]; exact h4))) ((Nat.le_div_iff_mul_le hp).2 h3)
        exact h5)
      rw [if_neg hb, h2, List.getD_eq_getElem?_getD, List.getElem?_set_ne (fun h => hji h.symm), ← List.getD_eq_getElem?_getD]
  · have hb : ¬ (i * E.k ≤ j ∧ j < i * E.k + E.k) := fun ⟨_, h4⟩ => by
      have : (i + 1) * E.k ≤ F.length * E.k := Nat.mul_le_mul_right _ hi
      rw [Nat.succ_mul] at this
      omega
    rw [if_neg hb, List.getElem?_eq_none (by omega), List.getElem?_eq_none (by omega)]
/-- Another filter at a place. -/
theorem MonAt.putF (h : MonAt w mb fb sb vs va l A F st) {i : Nat} (hi : i < l.length) {f : FltX} (hf : IsFlt w f.win f.W f.n) (hb : fltB (l.getD i default).S (l.getD i default).P f.W f.n = true) (ho : ∀ k, f.win.ownBlock = some k → k ≠ fb ∧ k ≠ sb) :
    MonAt (w.setCells fb (i * 2) [f.win, .int .i64 f.n]) mb fb sb vs va l A (F.set i f) st := by
  have M : Mods [fb] w (w.setCells fb (i * 2) [f.win, .int .i64 f.n]) := Mods.setCells _ _ _
  have hF : i < F.length := by rw [h.flen]; exact hi
  have hR : (w.setCells fb (i * 2) [f.win, .int .i64 f.n]).heap[fb]? = some (.cells (cellsE fltE (F.set i f)).toArray 123 (0, 0)) := by
    rw [heap_setCells _ _ _ _ h.flt]
    congr 2
    refine Array.ext_getElem? fun j => ?_
    have hl1 := cellsE_length fltOk.len F
    refine Eq.trans ?_ (Eq.trans (cellsE_set fltOk.len fltOk.pos F i f j hF).symm (by simp))
    rcases Nat.lt_or_ge j (cellsE fltE F).toArray.size with hj | hj
    · rw [get_setAll _ _ _ _ hj, List.getElem?_toArray]
      rfl
    · rw [Array.getElem?_eq_none (by rw [size_setAll]; exact hj)]
      rw [List.size_toArray] at hj
      have : (i + 1) * 2 ≤ F.length * 2 := Nat.mul_le_mul_right _ hF
      have hk : fltE.k = 2 := rfl
      rw [hk] at hl1 ⊢
      rw [if_neg (by omega), List.getElem?_eq_none hj]
  have gd : ∀ j, (F.set i f).getD j default = if j = i then f else F.getD j default := fun j => by
    rw [List.getD_eq_getElem?_getD, List.getElem?_set]
    by_cases hji : i = j
    · subst hji; rw [if_pos rfl, if_pos hF, if_pos rfl]; rfl
    · rw [if_neg hji, if_neg (fun h => hji h.symm), List.getD_eq_getElem?_getD]
  refine ⟨M.heap h.blk (by simpa using h.mfs.1), ⟨h.sens.rd.mods senOk M (fun _ k hk => by simpa using (h.oS k hk).1), fun i hi => (h.sens.is i hi).mods M (fun _ k hk => by simpa using (h.oP i hi k hk).1)⟩, h.good, h.most, h.asc.mods ascOk M (fun _ k hk => by simpa using (h.oA k hk).1), h.chk, h.amost, hR, by rw [List.length_set]; exact h.flen, fun j hj => ?_, fun j hj => ?_, h.sts.mods M (by simpa using fun h2 => h.mfs.2.2 h2.symm), h.slen, h.sbit, h.mfs, h.oS, h.oA, h.oP, fun j hj => ?_⟩
  · rw [List.length_set] at hj
    rw [gd j]
    split
    · exact hf.mods M (fun _ k hk => by simpa using (ho k hk).1)
    · exact (h.isf j hj).mods M (fun _ k hk => by simpa using (h.oF j hj k hk).1)
  · rw [List.length_set] at hj
    rw [gd j]
    split
    · rename_i hji; rw [hji]; exact hb
    · exact h.fok j hj
  · rw [List.length_set] at hj
    rw [gd j]
    split
    · exact ho
    · exact h.oF j hj
theorem MonAt.there (h : MonAt w mb fb sb vs va l A F st) {i : Nat} (hi : i < l.length) : w.there fb (i * 2) 2 := fun j hj => by
  have h1 := h.fr hi
  have hl : (fltE.enc (F.getD i default)).length = 2 := rfl
  have h2 := h1 j _ (List.getElem?_eq_getElem (by rw [hl]; exact hj))
  exact ⟨by rw [h2]; rfl, froz_blk h.flt _⟩
end
end Go.Proofs.YtijjkonephjodaaGreatDoor
