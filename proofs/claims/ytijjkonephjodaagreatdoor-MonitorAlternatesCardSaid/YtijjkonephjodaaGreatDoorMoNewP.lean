/- A new monitor: what is asked of memory, plain. -/
import Derived.Test.YtijjkonephjodaaGreatDoorMoStP
namespace Go.Proofs.YtijjkonephjodaaGreatDoor
open Go.RowKit
set_option linter.unusedVariables false
set_option linter.unusedSimpArgs false
theorem validB_pts {S : Sen} {P : List Pt} (h : validB S P = true) : P.length ≤ 12 := by
  unfold validB at h
  simp only [Bool.and_eq_true] at h
  have h2 := h.2
  cases hd : S.disc with
  | true =>
    rw [hd] at h2
    have h3 : discB S P = true := h2
    unfold discB at h3
    simp only [Bool.and_eq_true, decide_eq_true_eq] at h3
    have := h3.1.1.1.2.2.2.2.2.2
    omega
  | false =>
    rw [hd] at h2
    have h3 : analogB S P = true := h2
    unfold analogB at h3
    simp only [Bool.and_eq_true, decide_eq_true_eq] at h3
    have h4 := h3.1.1.1.1.1
    unfold convB at h4
    split at h4
    · simp only [Bool.and_eq_true, decide_eq_true_eq] at h4
      have := h4.2
      omega
    · unfold tableB at h4
      simp only [Bool.and_eq_true, decide_eq_true_eq] at h4
      exact h4.2.1.2
/-- The sensor with its points elsewhere. -/
def withPts (S : Sen) (v : Value) : Sen := { S with conv := { S.conv with pts := v } }
theorem validB_with (S : Sen) (v : Value) (P : List Pt) : validB (withPts S v) P = validB S P := rfl
theorem bitN_with (S : Sen) (v : Value) : bitN (withPts S v) = bitN S := rfl
/-- The same sensors, their points elsewhere. -/
def Twin (l l' : List SenX) : Prop := l'.length = l.length ∧ ∀ i, i < l.length → (l'.getD i default).P = (l.getD i default).P ∧ ∃ v, (l'.getD i default).S = withPts (l.getD i default).S v
theorem Twin.refl (l : List SenX) : Twin l l := ⟨rfl, fun i hi => ⟨rfl, _, rfl⟩⟩
theorem Twin.num {l l' : List SenX} (h : Twin l l') {i : Nat} (hi : i < l.length) : numS l' i = numS l i := by
  obtain ⟨_, v, hv⟩ := h.2 i hi
  unfold numS
  rw [hv]
  rfl
theorem Twin.good {l l' : List SenX} (h : Twin l l') {i : Nat} (hi : i < l.length) : goodS l' i = goodS l i := by
  obtain ⟨hp, v, hv⟩ := h.2 i hi
  unfold goodS
  rw [hp, hv, validB_with, h.num hi]
  cases i with
  | zero => rfl
  | succ i => rw [show i + 1 - 1 = i by omega, h.num (by omega)]
/-- Another points' slice at a place. -/
theorem Twin.set {l l' : List SenX} (h : Twin l l') {k : Nat} (hk : k < l.length) (v : Value) (ho : v.oneCell' = true) : Twin l (l'.set k ⟨withPts (l'.getD k default).S v, (l'.getD k default).P, ho⟩) := by
  refine ⟨by rw [List.length_set]; exact h.1, fun i hi => ?_⟩
  rw [List.getD_eq_getElem?_getD, List.getElem?_set]
  split
  · rename_i hki
    subst hki
    rw [if_pos (by rw [h.1]; exact hk)]
    obtain ⟨hp, u, hu⟩ := h.2 k hk
    refine ⟨hp, v, ?_⟩
    show withPts (l'.getD k default).S v = _
    rw [hu]
    rfl
  · rw [← List.getD_eq_getElem?_getD]
    exact h.2 i hi
theorem made_at {z : Array Value} {n i : Nat} {v : Value} (hi : i < n) (h : z[i % z.size]? = some v) : (madeCells z n)[i]? = some v := by
  have hlt : i % z.size < z.size := by
    rcases Nat.lt_or_ge (i % z.size) z.size with h1 | h1
    · exact h1
    · rw [Array.getElem?_eq_none h1] at h; cases h
  unfold madeCells
  rw [Array.getElem?_map, Array.getElem?_range, if_pos hi]
  simp only [Option.map_some, Option.some.injEq]
  rw [getElem!_pos z _ hlt]
  rw [Array.getElem?_eq_getElem hlt] at h
  exact Option.some.inj h
theorem madeF (n : Nat) : madeCells (Value.agg #[.slice none 0 0, .int .i64 0]).cells (n * 2) = (cellsE fltE (List.replicate n zFlt)).toArray := by
  refine Array.ext_getElem? fun j => ?_
  refine Eq.trans ?_ (List.getElem?_toArray (xs := cellsE fltE (List.replicate n zFlt)) (i := j)).symm
  have hl := cellsE_length fltOk.len (List.replicate n zFlt)
  rw [List.length_replicate] at hl
  have hk : fltE.k = 2 := rfl
  rcases Nat.lt_or_ge j (n * 2) with hj | hj
  · have he : j / 2 * 2 + j % 2 = j := by omega
    have hg := cellsE_get fltOk.len (List.replicate n zFlt) (j / 2) (by rw [List.length_replicate]; omega) (j % 2) (by rw [hk]; omega)
    rw [hk, he] at hg
    rw [hg]
    have hx : (List.replicate n zFlt).getD (j / 2) fltE.dflt = zFlt := by
      rw [List.getD_eq_getElem?_getD, List.getElem?_replicate_of_lt (by omega)]
      rfl
    rw [hx]
    rcases (show j % 2 = 0 ∨ j % 2 = 1 by omega) with h2 | h2
    · rw [h2]
      exact made_at hj (by show (#[Value.slice none 0 0, .int .i64 0] : Array Value)[j % 2]? = _; rw [h2]; rfl)
    · rw [h2]
      exact made_at hj (by show (#[Value.slice none 0 0, .int .i64 0] : Array Value)[j % 2]? = _; rw [h2]; rfl)
  · rw [Array.getElem?_eq_none (by rw [size_madeCells]; exact hj), List.getElem?_eq_none (by rw [hl, hk]; exact hj)]
set_option maxRecDepth 100000 in
theorem makeF (w : World) (n : Nat) (hn : n ≤ 1000) : (Instr.makeSlice 112 (.int .i64 (n : Nat)) (.int .i64 (n : Nat))).run Tryz.prog w = .ok (.slice (some ⟨w.heap.size, 0, none⟩) n n) (w.alloc (.cells (cellsE fltE (List.replicate n zFlt)).toArray 123)) := by
  obtain ⟨i0, hi, hz0, hz1, hz2⟩ := info_parts Tryz.infoFz
  have h := run_makeSlice (P := Tryz.prog) (w := w) 112 123 i0 _ Tryz.underlying112 hi hz0 .i64 .i64 (n : Nat) (n : Nat) (by omega) (Int.le_refl _) (by rw [hz1, Int.toNat_natCast]; omega) (by rw [hz2]; omega) (by omega)
  rw [Int.toNat_natCast, hz1, madeF] at h
  exact h
/-- One cell of one element is written anew. -/
theorem OwnE.put {α : Type} {E : Elt α} {P : Program} (hk : E.Ok P) {w : World} {B g cap : Nat} {l : List α} (h : OwnE E w B (.slice (some ⟨g, 0, none⟩) l.length cap) l) {i j : Nat} {u : Value} {a : α} (hi : i < l.length) (hj : j < E.k)
    (he : ∀ d, E.enc a = (E.enc (l.getD i d)).set j u) : OwnE E (w.setCell ⟨g, i * E.k + j, none⟩ u) B (.slice (some ⟨g, 0, none⟩) (l.set i a).length cap) (l.set i a) := by
  obtain ⟨hl, h⟩ := h
  rcases h with ⟨h0, _⟩ | ⟨g', cap', cur, hv, hb, hg, h1, h2, h3, h4⟩
  · cases h0
  · injection hv with e1 e2 e3
    injection e1 with e1
    injection e1 with e1 _ _
    subst e1 e3
    have hp := hk.pos
    have hc : cellsE E (l.set i a) = (cellsE E l).set (i * E.k + j) u := by
      refine List.ext_getElem? fun q => ?_
      rw [cellsE_set hk.len hp l i a q hi, List.getElem?_set]
      have hil : (i + 1) * E.k ≤ l.length * E.k := Nat.mul_le_mul_right _ hi
      rw [Nat.succ_mul] at hil
      by_cases hq : i * E.k ≤ q ∧ q < i * E.k + E.k
      · rw [if_pos hq, he E.dflt, List.getElem?_set]
        have hg2 := cellsE_get hk.len l i hi (q - i * E.k) (by omega)
        rw [show i * E.k + (q - i * E.k) = q by omega] at hg2
        by_cases hqj : i * E.k + j = q
        · rw [if_pos (by omega), if_pos hqj, if_pos (by rw [hk.len]; exact hj), if_pos (by rw [hl]; omega)]
        · rw [if_neg (by omega), if_neg hqj, hg2]
      · rw [if_neg hq, if_neg (by omega)]
    refine ⟨by rw [hc, List.length_set, List.length_set, hl], .inr ⟨g, cap, cur.setIfInBounds (i * E.k + j) u, rfl, hb, heap_setCell hg, by rw [List.length_set]; exact h1, h2, by rw [Array.size_setIfInBounds]; exact h3, ?_⟩⟩
    rw [hc, List.length_set, Array.toList_setIfInBounds, List.take_set, h4]
end Go.Proofs.YtijjkonephjodaaGreatDoor
