/- Joined texts. The bytes of a conversion, decoded, are the conversion; cut off, nothing; and the bytes of what was decoded are those that were read. Plain laws. | The bytes of a conversion: how many, and that they are bytes. | The reference's Same of conversions: contract. | What Encode and Decode of a conversion give, whatever comes in; a byte of the call's own, set. -/
import Derived.Test.YtijjkonephjodaaCdx
import Derived.Test.YtijjkonephjodaaConvEnc
import Derived.Test.YtijjkonephjodaaRdd
import Derived.Test.YtijjkonephjodaaRefConv
import Derived.Test.YtijjkonephjodaaReady
import Derived.BigGuardPart
import Derived.Test.YtijjkonephjodaaEnx
namespace Go.Proofs.Ytijjkonephjodaa
open Go.RowKit

theorem leL_cons (v : Int) (n : Nat) : leL v (n + 1) = v % 256 :: leL (v / 256) n := by
  unfold leL
  rw [List.range_succ_eq_map, List.map_cons, List.map_map]
  congr 1
  · simp
  · refine List.map_congr_left fun i _ => ?_
    show v / 256 ^ (i + 1) % 256 = v / 256 / 256 ^ i % 256
    rw [Int.ediv_ediv_of_nonneg (by decide), Int.pow_succ, Int.mul_comm]
theorem sgnL_leL : ∀ (n : Nat) (v : Int), -(128 * 256 ^ n) ≤ v ∧ v < 128 * 256 ^ n → sgnL (leL v (n + 1)) = v
  | 0, v, h => by
    have e : leL v 1 = [v % 256] := by rw [leL_cons]; rfl
    rw [e, sgnL_one]
    simp at h
    split <;> omega
  | n + 1, v, h => by
    rw [leL_cons, sgnL_cons _ (by intro h0; have := leL_length (v / 256) (n + 1); rw [h0] at this; simp at this)]
    rw [Int.pow_succ] at h
    rw [sgnL_leL n (v / 256) (by generalize (256 : Int) ^ n = p at h ⊢; omega)]
    omega
theorem leL_sgnL : ∀ {A : List Int}, Bytes A → leL (sgnL A) A.length = A
  | [], _ => rfl
  | [x], h => by
    have hx := h 0
    simp only [List.getD_cons_zero] at hx
    show leL (sgnL [x]) 1 = [x]
    rw [leL_cons, sgnL_one]
    congr 1
    split <;> omega
  | b :: c :: l, h => by
    have hb := h 0
    simp only [List.getD_cons_zero] at hb
    have ih := leL_sgnL (A := c :: l) (fun i => h (i + 1))
    rw [List.length_cons, leL_cons, sgnL_cons b (by simp)]
    have e1 : (b + 256 * sgnL (c :: l)) % 256 = b := by omega
    have e2 : (b + 256 * sgnL (c :: l)) / 256 = sgnL (c :: l) := by omega
    rw [e1, e2, ih]
theorem sgn2 (v : Int) (h : -512 ≤ v ∧ v ≤ 511) : sgnL (leL v 2) = v := sgnL_leL 1 v (by omega)
theorem sgn6 (v : Int) (h : -1000000000000 ≤ v ∧ v ≤ 1000000000000) : sgnL (leL v 6) = v := sgnL_leL 5 v (by omega)
theorem sgn1 (v : Int) (h : -3 ≤ v ∧ v ≤ 3) : sgnL [v % 256] = v := by rw [sgnL_one]; split <;> omega
theorem ptsL_cons (p : Pt) (P : List Pt) : ptsL (p :: P) = (p.raw : Int) :: leL p.val 6 ++ ptsL P := by simp [ptsL]
theorem ptsL_drop : ∀ (P : List Pt) (i : Nat), i < P.length → (ptsL P).drop (7 * i) = ((P.getD i default).raw : Int) :: leL (P.getD i default).val 6 ++ ptsL (P.drop (i + 1))
  | p :: P, 0, _ => by rw [ptsL_cons]; simp
  | p :: P, i + 1, h => by
    have ih := ptsL_drop P i (by simpa using h)
    rw [ptsL_cons, show 7 * (i + 1) = ((p.raw : Int) :: leL p.val 6).length + 7 * i by simp [leL_length]; omega, List.drop_length_add_append]
    simpa using ih
theorem convB_f15 {C : Conv} {P : List Pt} (h : convB C P = true) : 1 ≤ C.form ∧ C.form ≤ 5 := by
  by_cases h5 : C.form = 5
  · omega
  · have := convB_lin h h5; omega
theorem convB_nums {C : Conv} {P : List Pt} (h : convB C P = true) : (-512 ≤ C.m ∧ C.m ≤ 511) ∧ (-512 ≤ C.b ∧ C.b ≤ 511) ∧ (-3 ≤ C.k1 ∧ C.k1 ≤ 3) ∧ (-3 ≤ C.k2 ∧ C.k2 ≤ 3) := by
  unfold convB at h
  split at h
  · simp only [Bool.and_eq_true, decide_eq_true_eq, facB, powB] at h
    omega
  · simp only [Bool.and_eq_true, decide_eq_true_eq] at h
    omega
theorem convB_zero {C : Conv} {P : List Pt} (h : convB C P = true) (h5 : C.form = 5) : C.m = 0 ∧ C.b = 0 ∧ C.k1 = 0 ∧ C.k2 = 0 := by
  unfold convB at h
  rw [if_neg (by omega)] at h
  simp only [Bool.and_eq_true, decide_eq_true_eq] at h
  exact h.1.2
theorem convB_vals {C : Conv} {P : List Pt} (h : convB C P = true) (i : Nat) : -1000000000000 ≤ (P.getD i default).val ∧ (P.getD i default).val ≤ 1000000000000 := by
  rcases Nat.lt_or_ge i P.length with hi | hi
  · by_cases h5 : C.form = 5
    · unfold convB at h
      rw [if_neg (by omega)] at h
      simp only [Bool.and_eq_true, tableB, List.all_eq_true] at h
      have := h.2.2 i (List.mem_range.2 hi)
      simp only [ptB, Bool.and_eq_true, decide_eq_true_eq] at this
      exact this.1
    · have := (convB_lin h h5).2
      subst this
      simp at hi
  · rw [List.getD_eq_getElem?_getD, List.getElem?_eq_none hi]; simp [default]
/-- With other points. -/
def Conv.with (C : Conv) (pv : Value) : Conv := ⟨C.form, C.sgn, C.m, C.b, C.k1, C.k2, pv⟩
theorem conv_head {C : Conv} {P : List Pt} (h : convB C P = true) (R : List Int) : (convL C P ++ R).getD 0 0 = C.form + (if C.sgn then 128 else 0) ∧ ((convL C P ++ R).getD 0 0 % 128 = C.form) ∧ decide (128 ≤ (convL C P ++ R).getD 0 0) = C.sgn := by
  have e : (convL C P ++ R).getD 0 0 = C.form + (if C.sgn then 128 else 0) := by simp [convL]
  have hf := convB_f15 h
  refine ⟨e, ?_, ?_⟩
  · rw [e]; split <;> omega
  · rw [e]
    cases C.sgn
    · simp; omega
    · simp; omega
theorem dec_enc {C : Conv} {P : List Pt} (h : convB C P = true) (R : List Int) (pv : Value) :
    lenC (convL C P ++ R) = (((convL C P).length : Int), 0) ∧ decC (convL C P ++ R) pv = C.with pv ∧ decP (convL C P ++ R) = P := by
  obtain ⟨e0, e1, e2⟩ := conv_head h R
  have hf := convB_f15 h
  have hn : convL C P ++ R ≠ [] := by simp [convL]
  have hv := convB_nums h
  by_cases h5 : C.form = 5
  · have e3 : convL C P ++ R = (5 + if C.sgn then 128 else 0) :: (P.length : Int) :: (ptsL P ++ R) := by unfold convL; rw [if_pos h5, h5]; rfl
    have e4 : (convL C P ++ R).getD 1 0 = P.length := by rw [e3]; simp
    have e5 : (convL C P ++ R).length ≠ 1 := by rw [e3]; simp
    have hp := convB_tab h h5
    refine ⟨?_, ?_, ?_⟩
    · rw [lenC_tab hn (by rw [e1, h5]) e5 (by rw [e4]; omega), e4]
      unfold convL
      rw [if_pos h5, List.length_cons, List.length_cons, ptsL_length]
      congr 1
      omega
    · unfold decC Conv.with
      obtain ⟨z1, z2, z3, z4⟩ := convB_zero h h5
      rw [if_pos (by rw [e1, h5]), e2, h5, z1, z2, z3, z4]
    · unfold decP
      rw [if_pos (by rw [e1, h5]), e4, Int.toNat_natCast]
      unfold ptsOf
      refine List.ext_getElem (by simp) fun i h1 h2 => ?_
      rw [List.getElem_map, List.getElem_range]
      have hg : P.getD i default = P[i] := by rw [List.getD_eq_getElem?_getD, List.getElem?_eq_getElem h2]; rfl
      have hd := ptsL_drop P i h2
      have hk : 7 * i ≤ (ptsL P).length := by rw [ptsL_length]; omega
      have hd2 : (convL C P ++ R).drop (2 + 7 * i) = (P[i].raw : Int) :: (leL P[i].val 6 ++ (ptsL (P.drop (i + 1)) ++ R)) := by
        rw [e3, show 2 + 7 * i = 7 * i + 1 + 1 by omega, List.drop_succ_cons, List.drop_succ_cons, List.drop_append_of_le_length hk, hd, hg]
        simp
      have hd3 : (convL C P ++ R).drop (3 + 7 * i) = leL P[i].val 6 ++ (ptsL (P.drop (i + 1)) ++ R) := by
        rw [show 3 + 7 * i = (2 + 7 * i) + 1 by omega, ← List.drop_drop, hd2]
        simp
      have g0 : (convL C P ++ R).getD (2 + 7 * i) 0 = (P[i].raw : Int) := by
        have := congrArg (fun l => l.getD 0 0) hd2
        simpa [List.getD_eq_getElem?_getD] using this
      have g1 : signA (convL C P ++ R) (3 + 7 * i) 6 = P[i].val := by
        unfold signA
        rw [hd3, List.take_append_of_le_length (by rw [leL_length]; omega), List.take_of_length_le (by rw [leL_length]; omega)]
        have := convB_vals h i
        rw [hg] at this
        exact sgn6 _ this
      rw [g0, g1, Int.toNat_natCast]
  · obtain ⟨hf4, rfl⟩ := convB_lin h h5
    have e3 : convL C [] = [C.form + if C.sgn then 128 else 0] ++ leL C.m 2 ++ leL C.b 2 ++ [C.k1 % 256] ++ [C.k2 % 256] := by unfold convL; rw [if_neg h5]; simp
    refine ⟨?_, ?_, ?_⟩
    · rw [lenC_lin hn (by omega) (by omega) (by omega)]
      rw [e3]
      simp [leL_length]
    · unfold decC Conv.with
      rw [if_neg (by omega), e1, e2]
      have em : leL C.m 2 = [C.m % 256, C.m / 256 % 256] := by rw [leL_cons, leL_cons]; rfl
      have eb : leL C.b 2 = [C.b % 256, C.b / 256 % 256] := by rw [leL_cons, leL_cons]; rfl
      have s1 : signA (convL C [] ++ R) 1 2 = C.m := by
        unfold signA; rw [e3, em, eb]; simp; rw [← em]; exact sgn2 _ hv.1
      have s2 : signA (convL C [] ++ R) 3 2 = C.b := by
        unfold signA; rw [e3, em, eb]; simp; rw [← eb]; exact sgn2 _ hv.2.1
      have s3 : signA (convL C [] ++ R) 5 1 = C.k1 := by
        unfold signA; rw [e3, em, eb]; simp; exact sgn1 _ hv.2.2.1
      have s4 : signA (convL C [] ++ R) 6 1 = C.k2 := by
        unfold signA; rw [e3, em, eb]; simp; exact sgn1 _ hv.2.2.2
      rw [s1, s2, s3, s4]
    · unfold decP
      rw [if_neg (by omega)]
theorem with_eq (C : Conv) (pv : Value) : (C.with pv).form = C.form ∧ (C.with pv).sgn = C.sgn ∧ (C.with pv).m = C.m ∧ (C.with pv).b = C.b ∧ (C.with pv).k1 = C.k1 ∧ (C.with pv).k2 = C.k2 := ⟨rfl, rfl, rfl, rfl, rfl, rfl⟩
theorem dec_enc_ok {C : Conv} {P : List Pt} (h : convB C P = true) (R : List Int) : errC (convL C P ++ R) = 0 := by
  obtain ⟨h1, h2, h3⟩ := dec_enc h R (.slice none 0 0)
  rw [errC_val h1 (by rw [List.length_append]; omega), h2, h3, convB_pts (with_eq C _), h]
  rfl
theorem dec_cut {C : Conv} {P : List Pt} (h : convB C P = true) {k : Nat} (hk : k < (convL C P).length) : errC ((convL C P).take k) = 4 := by
  obtain ⟨e0, e1, e2⟩ := conv_head h []
  rw [List.append_nil] at e0 e1 e2
  have hf := convB_f15 h
  by_cases h0 : k = 0
  · subst h0
    exact errC_len (lenC_nil (by simp)) (by decide)
  have hl : ((convL C P).take k).length = k := by simp; omega
  have hn : (convL C P).take k ≠ [] := by intro h; rw [h] at hl; simp at hl; omega
  have g0 : ((convL C P).take k).getD 0 0 = (convL C P).getD 0 0 := by simp [List.getD_eq_getElem?_getD, show 0 < k by omega]
  by_cases h5 : C.form = 5
  · by_cases hk1 : k = 1
    · exact errC_len (lenC_one hn (by rw [g0, e1, h5]) (by rw [hl, hk1])) (by decide)
    · have g1 : ((convL C P).take k).getD 1 0 = P.length := by
        simp [List.getD_eq_getElem?_getD, show 1 < k by omega, convL, h5]
      have hp := convB_tab h h5
      refine errC_cut (lenC_tab hn (by rw [g0, e1, h5]) (by rw [hl]; exact hk1) (by rw [g1]; omega)) ?_
      rw [hl, g1]
      unfold convL at hk
      rw [if_pos h5, List.length_cons, List.length_cons, ptsL_length] at hk
      omega
  · refine errC_cut (lenC_lin hn (by rw [g0, e1]; omega) (by rw [g0, e1]; omega) (by rw [g0, e1]; omega)) ?_
    rw [hl]
    unfold convL at hk
    rw [if_neg h5] at hk
    simp [leL_length] at hk
    omega
/-- The bytes of what was decoded. -/
theorem take_drop_getD {A : List Int} {i n : Nat} (h : i + (n + 1) ≤ A.length) : (A.drop i).take (n + 1) = A.getD i 0 :: (A.drop (i + 1)).take n := by
  rw [drop_step (by omega), List.take_succ_cons]
theorem ptsL_ptsOf {A : List Int} (hb : Bytes A) : ∀ k, 2 + 7 * k ≤ A.length → ptsL (ptsOf A k) = (A.drop 2).take (7 * k)
  | 0, _ => by simp [ptsOf, ptsL]
  | k + 1, h => by
    have ih := ptsL_ptsOf hb k (by omega)
    have e : ptsOf A (k + 1) = ptsOf A k ++ [⟨(A.getD (2 + 7 * k) 0).toNat, signA A (3 + 7 * k) 6⟩] := by simp [ptsOf, List.range_succ]
    have e2 : ptsL (ptsOf A (k + 1)) = ptsL (ptsOf A k) ++ (((A.getD (2 + 7 * k) 0).toNat : Int) :: leL (signA A (3 + 7 * k) 6) 6) := by rw [e]; simp [ptsL]
    rw [e2, ih, show 7 * (k + 1) = 7 * k + 7 by omega, List.take_add]
    congr 1
    have hx := hb (2 + 7 * k)
    rw [Int.toNat_of_nonneg hx.1, List.drop_drop, take_drop_getD (by omega)]
    congr 1
    have hl : ((A.drop (3 + 7 * k)).take 6).length = 6 := by simp; omega
    have := leL_sgnL (A := (A.drop (3 + 7 * k)).take 6) ((hb.drop _).take _)
    rw [hl] at this
    unfold signA
    rw [this, show 2 + 7 * k + 1 = 3 + 7 * k by omega]
theorem errC_zero {A : List Int} (h : errC A = 0) : (lenC A).2 = 0 ∧ (lenC A).1 ≤ A.length ∧ convB (decC A (.slice none 0 0)) (decP A) = true := by
  unfold errC at h
  split at h
  · exact absurd h (by assumption)
  · rename_i h1
    split at h
    · simp at h
    · split at h
      · exact ⟨by simpa using h1, by omega, by assumption⟩
      · simp at h
theorem decC_pts (A : List Int) (pv pv' : Value) : convB (decC A pv) (decP A) = convB (decC A pv') (decP A) := by
  unfold decC
  split <;> exact convB_pts ⟨rfl, rfl, rfl, rfl, rfl, rfl⟩
theorem sgn1_mod {A : List Int} (hb : Bytes A) (i : Nat) (hi : i < A.length) : signA A i 1 % 256 = A.getD i 0 := by
  have hx := hb i
  unfold signA
  rw [show (A.drop i).take 1 = [A.getD i 0] by rw [take_drop_getD (by omega)]; rfl, sgnL_one]
  split <;> omega
theorem enc_dec {A : List Int} (hb : Bytes A) (h : errC A = 0) (pv : Value) : convL (decC A pv) (decP A) = A.take (lenC A).1.toNat ∧ (lenC A).1.toNat ≤ A.length := by
  obtain ⟨h1, h2, h3⟩ := errC_zero h
  obtain ⟨hn, hf, hc⟩ := lenC_facts h1
  have hp : 0 < A.length := List.length_pos_iff.2 hn
  have hx := hb 0
  have e0 : A.getD 0 0 % 128 + (if decide (128 ≤ A.getD 0 0) = true then 128 else 0) = A.getD 0 0 := by
    by_cases hh : 128 ≤ A.getD 0 0
    · rw [if_pos (by simpa using hh)]; omega
    · rw [if_neg (by simpa using hh)]; omega
  refine ⟨?_, by omega⟩
  rcases hc with ⟨h5, hl⟩ | ⟨h5, hy2, hy12, hl⟩
  · have hl7 : 7 ≤ A.length := by omega
    have ed : decC A pv = ⟨A.getD 0 0 % 128, decide (128 ≤ A.getD 0 0), signA A 1 2, signA A 3 2, signA A 5 1, signA A 6 1, pv⟩ := by unfold decC; rw [if_neg h5]
    rw [ed, hl]
    unfold convL
    simp only
    rw [if_neg h5, e0, sgn1_mod hb 5 (by omega), sgn1_mod hb 6 (by omega)]
    have l2 : ∀ i, i + 2 ≤ A.length → leL (signA A i 2) 2 = [A.getD i 0, A.getD (i + 1) 0] := fun i hi => by
      have hl : ((A.drop i).take 2).length = 2 := by simp; omega
      have := leL_sgnL (A := (A.drop i).take 2) ((hb.drop _).take _)
      rw [hl] at this
      unfold signA
      rw [this, take_drop_getD (by omega), take_drop_getD (by omega)]
      simp
    rw [l2 1 (by omega), l2 3 (by omega)]
    rw [show Int.toNat 7 = 7 from rfl, show A.take 7 = (A.drop 0).take (6 + 1) by simp]
    rw [take_drop_getD (by omega), take_drop_getD (by omega), take_drop_getD (by omega), take_drop_getD (by omega), take_drop_getD (by omega), take_drop_getD (by omega), take_drop_getD (by omega)]
    simp
  · have ed : decC A pv = ⟨5, decide (128 ≤ A.getD 0 0), 0, 0, 0, 0, pv⟩ := by unfold decC; rw [if_pos h5]
    have ep : decP A = ptsOf A (A.getD 1 0).toNat := by unfold decP; rw [if_pos h5]
    rw [ed, ep, hl]
    unfold convL
    simp only [if_true]
    rw [h5] at e0
    rw [e0]
    have hlen : (ptsOf A (A.getD 1 0).toNat).length = (A.getD 1 0).toNat := by simp [ptsOf]
    rw [hlen, Int.toNat_of_nonneg (by omega), ptsL_ptsOf hb _ (by omega)]
    rw [show (2 + 7 * A.getD 1 0).toNat = 7 * (A.getD 1 0).toNat + 1 + 1 by omega]
    rw [show A.take (7 * (A.getD 1 0).toNat + 1 + 1) = (A.drop 0).take (7 * (A.getD 1 0).toNat + 1 + 1) by simp]
    rw [take_drop_getD (by omega), take_drop_getD (by omega)]
end Go.Proofs.Ytijjkonephjodaa

namespace Go.Proofs.Ytijjkonephjodaa

open Go.RowKit
theorem Conv.infoCC (C : Conv) : (Try.prog.info? 26).map (·.size) = some C.cells.size := by
  show _ = some 7
  kernel_rfl
/-- A struct that is read whole under a guard. -/
theorem wpList_load_rowG {P : Program} {ops : Array Oper} {rest : List Oper} {o : Oper} {a : Act} {w : World} {Q : Exit → Act → World → Prop} (hw : Region.wanted o (yielded ops a.tmps) = true) (ty : TypeId) (x : Operand) (ho : o.op = .load ty x)
    (g : Nat) (hx : a.eval x = .pointer (some ⟨g, 0, none⟩)) (t : TypeId) (cs : Array Value) (fr : Nat × Nat) (d : TypeDesc) (hg : w.heap[g]? = some (.cells cs t fr))
    (hu : P.underlying ty = some d) (hd : (match d with | .struct _ | .array _ _ => true | _ => false) = true) (hi : (P.info? ty).map (·.size) = some cs.size)
    (h : wpList P ops Q rest (a.put o.dst (.agg cs)) w) : wpList P ops Q (o :: rest) a w :=
  wpList_step fun _ hK => by rw [if_pos hw]; exact wp_load_row ty x ho g hx t cs fr d hg hu hd hi (hK _ _ h)
theorem wpList_load_convG {ops : Array Oper} {rest : List Oper} {o : Oper} {a : Act} {w : World} {Q : Exit → Act → World → Prop} (hw : Region.wanted o (yielded ops a.tmps) = true) (x : Operand) (ho : o.op = .load 26 x)
    {g : Nat} {C : Conv} {fr : Nat × Nat} (hb : w.heap[g]? = some (.cells C.cells 26 fr)) (hx : a.eval x = .pointer (some ⟨g, 0, none⟩)) (h : wpList Try.prog ops Q rest (a.put o.dst (.agg C.cells)) w) : wpList Try.prog ops Q (o :: rest) a w :=
  wpList_load_rowG hw _ x ho g hx _ _ _ _ hb Try.underlying26 rfl C.infoCC h
theorem convL_len {C : Conv} {P : List Pt} (h : convB C P = true) : 1 ≤ (convL C P).length ∧ (convL C P).length ≤ 86 := by
  unfold convL
  by_cases h5 : C.form = 5
  · have := convB_tab h h5
    rw [if_pos h5, List.length_cons, List.length_cons, ptsL_length]
    omega
  · rw [if_neg h5]
    simp [leL_length]
theorem of_bytes {l : List Int} (h : Bytes l) : ∀ x ∈ l, 0 ≤ x ∧ x ≤ 255 := fun x hx => by
  obtain ⟨i, hi, rfl⟩ := List.mem_iff_getElem.1 hx
  have := h i
  rw [List.getD_eq_getElem?_getD, List.getElem?_eq_getElem hi] at this
  exact this
theorem convL_byt {C : Conv} {P : List Pt} (h : convB C P = true) (hr : ∀ i, (P.getD i default).raw < 256) : ∀ x ∈ convL C P, 0 ≤ x ∧ x ≤ 255 := by
  have hf := convB_f15 h
  intro x hx
  unfold convL at hx
  rw [List.mem_cons] at hx
  rcases hx with rfl | hx
  · split <;> omega
  · by_cases h5 : C.form = 5
    · have hl := convB_tab h h5
      rw [if_pos h5, List.mem_cons] at hx
      rcases hx with rfl | hx
      · omega
      · unfold ptsL at hx
        rw [List.mem_flatMap] at hx
        obtain ⟨p, hp, hx⟩ := hx
        rw [List.mem_cons] at hx
        rcases hx with rfl | hx
        · obtain ⟨i, hi, rfl⟩ := List.mem_iff_getElem.1 hp
          have := hr i
          rw [List.getD_eq_getElem?_getD, List.getElem?_eq_getElem hi] at this
          have h2 : (P[i]).raw < 256 := this
          omega
        · exact leL_bytes _ _ x hx
    · rw [if_neg h5] at hx
      simp only [List.mem_append, List.mem_cons, List.not_mem_nil, or_false] at hx
      rcases hx with (hx | hx) | hx | hx
      · exact leL_bytes _ _ x hx
      · exact leL_bytes _ _ x hx
      · omega
      · omega
end Go.Proofs.Ytijjkonephjodaa

namespace Go.Proofs.Ytijjkonephjodaa
open Go.RowKit

instance : DecidableEq Pt := fun a b => decidable_of_iff (a.raw = b.raw ∧ a.val = b.val) ⟨fun h => by cases a; cases b; simp at h; rw [h.1, h.2], fun h => by rw [h]; exact ⟨rfl, rfl⟩⟩
/-- Two conversions are equal. -/
def sameC (C : Conv) (P : List Pt) (C' : Conv) (P' : List Pt) : Bool :=
  decide (C.form = C'.form) && decide (C.sgn = C'.sgn) && decide (C.m = C'.m) && decide (C.b = C'.b) && decide (C.k1 = C'.k1) && decide (C.k2 = C'.k2) && decide (P = P')
theorem sameC_refl {C C' : Conv} {P : List Pt} (h : C'.form = C.form ∧ C'.sgn = C.sgn ∧ C'.m = C.m ∧ C'.b = C.b ∧ C'.k1 = C.k1 ∧ C'.k2 = C.k2) : sameC C P C' P = true := by
  obtain ⟨h1, h2, h3, h4, h5, h6⟩ := h
  simp [sameC, h1, h2, h3, h4, h5, h6]
theorem pt_neq (x y x' y' : Int) (w : World) :
    (binOp .neq 115 (.agg #[.int .u8 x, .int .i64 y]) (.agg #[.int .u8 x', .int .i64 y'])).run Try.prog w = .ok (.bool (!(x == x' && y == y'))) w := by
  simp [go_sem, part]
  by_cases h : x = x' <;> by_cases h2 : y = y' <;> simp [h, h2]
set_option maxRecDepth 100000 in
set_option maxHeartbeats 4000000 in
theorem same04_ok (w : World) (C C' : Conv) (P P' : List Pt) (h : IsConv w C P) (h' : IsConv w C' P') :
    Calls Try.prog 62 #[.agg C.cells, .agg C'.cells] w fun e w' => e = .returned (.bool (sameC C P C' P')) ∧ Mods [] w w' := by
  have hl := h.pok.len
  have hl' := h'.pok.len
  have RD := Lib.hid h.rd
  have RD' := Lib.hid h'.rd
  have PO := Lib.hid h.pok
  have PO' := Lib.hid h'.pok
  obtain ⟨ad, cap, hpts⟩ := h.rd.len
  obtain ⟨ad', cap', hpts'⟩ := h'.rd.len
  clear h h'
  have HS := Lib.hid (show sameC C P C' P' = (decide (C.form = C'.form) && decide (C.sgn = C'.sgn) && decide (C.m = C'.m) && decide (C.b = C'.b) && decide (C.k1 = C'.k1) && decide (C.k2 = C'.k2) && decide (P = P')) from rfl)
  generalize sameC C P C' P' = B at HS ⊢
  obtain ⟨form, sgn, m, b, k1, k2, pts⟩ := C
  obtain ⟨form', sgn', m', b', k1', k2', pts'⟩ := C'
  simp only at hpts hpts' HS RD RD'
  subst hpts hpts'
  unfold Conv.cells
  simp only
  by_cases hh : form = form' ∧ sgn = sgn' ∧ m = m' ∧ b = b' ∧ k1 = k1' ∧ k2 = k2' ∧ P.length = P'.length
  · obtain ⟨rfl, rfl, rfl, rfl, rfl, rfl, hpl⟩ := hh
    have HS := Lib.hid (show B = decide (P = P') by rw [HS.out]; simp)
    have hpe : ((P.length : Int) != (P'.length : Int)) = false := by rw [hpl]; simp
    replace hpl := Lib.hid hpl
    go_enter Try.func62, Try.ntmps62
    go_wp2_with fail
    have H0 := heap_alloc (o' := .cells #[.int .i64 form, .bool sgn, .int .i64 m, .int .i64 b, .int .i64 k1, .int .i64 k2, .slice ad' P'.length cap'] 26) (heap_alloc_new w (.cells #[.int .i64 form, .bool sgn, .int .i64 m, .int .i64 b, .int .i64 k1, .int .i64 k2, .slice ad P.length cap] 26))
    have H1 := heap_alloc_new (w.alloc (.cells #[.int .i64 form, .bool sgn, .int .i64 m, .int .i64 b, .int .i64 k1, .int .i64 k2, .slice ad P.length cap] 26)) (.cells #[.int .i64 form, .bool sgn, .int .i64 m, .int .i64 b, .int .i64 k1, .int .i64 k2, .slice ad' P'.length cap'] 26)
    rw [World.size_alloc] at H1
    have M0 := ((Mods.refl (S := []) (w := w)).alloc (.cells #[.int .i64 form, .bool sgn, .int .i64 m, .int .i64 b, .int .i64 k1, .int .i64 k2, .slice ad P.length cap] 26)).alloc (.cells #[.int .i64 form, .bool sgn, .int .i64 m, .int .i64 b, .int .i64 k1, .int .i64 k2, .slice ad' P'.length cap'] 26)
    generalize (w.alloc (.cells #[.int .i64 form, .bool sgn, .int .i64 m, .int .i64 b, .int .i64 k1, .int .i64 k2, .slice ad P.length cap] 26)).alloc (.cells #[.int .i64 form, .bool sgn, .int .i64 m, .int .i64 b, .int .i64 k1, .int .i64 k2, .slice ad' P'.length cap'] 26) = w1 at H0 H1 M0 ⊢
    clear hpe
    generalize w.heap.size = g at H0 H1 ⊢
    go_loopw [5] (fun i wr => ∃ k : Nat, k ≤ P.length ∧ i = .int .i64 k ∧ Mods [] w wr ∧ wr.heap[g]? = some (.cells #[.int .i64 form, .bool sgn, .int .i64 m, .int .i64 b, .int .i64 k1, .int .i64 k2, .slice ad P.length cap] 26 (0, 0)) ∧ wr.heap[g + 1]? = some (.cells #[.int .i64 form, .bool sgn, .int .i64 m, .int .i64 b, .int .i64 k1, .int .i64 k2, .slice ad' P'.length cap'] 26 (0, 0)) ∧ Hid (∀ j, j < k → P.getD j default = P'.getD j default)) (fun i _ => P.length - (intOf i).toNat)
    case atStart => exact ⟨0, Nat.zero_le _, rfl, M0, H0, H1, fun j hj => by omega⟩
    case round =>
      obtain ⟨k, hk, rfl, M1, G0, G1, hs⟩ := hrel
      clear M0 H0 H1
      have z6 : wr.cell? ⟨g, 6, none⟩ = some (.slice ad P.length cap) := cell_blk G0 6
      by_cases hlt : k < P.length
      · obtain ⟨_, _, he, _, _, hc⟩ := RD.out.mods0 M1
        obtain ⟨bb, off, rfl, x0, x1⟩ := hc k hlt
        injection he with he1 he2 he3
        subst he1 he3
        obtain ⟨_, _, he', _, _, hc'⟩ := RD'.out.mods0 M1
        obtain ⟨bb', off', rfl, y0, y1⟩ := hc' k (by rw [← hpl.out]; exact hlt)
        injection he' with he1' he2' he3'
        subst he1' he3'
        clear hc he2 hc' he2'
        have z6' : wr.cell? ⟨g + 1, 6, none⟩ = some (.slice (some ⟨bb', off', none⟩) P'.length cap') := cell_blk G1 6
        obtain ⟨p, hp⟩ : ∃ p, p = P.getD k default := ⟨_, rfl⟩
        obtain ⟨p', hp'⟩ : ∃ p', p' = P'.getD k default := ⟨_, rfl⟩
        rw [← hp] at x0 x1
        rw [← hp'] at y0 y1
        replace hp := Lib.hid hp
        replace hp' := Lib.hid hp'
        have hne := fun W => pt_neq (p.raw : Int) p.val (p'.raw : Int) p'.val W
        have HEQ := Lib.hid (show ((p.raw : Int) == (p'.raw : Int) && p.val == p'.val) = decide (p = p') by
          cases p; cases p'
          simp
          rw [Bool.eq_iff_iff]
          simp
          intro _
          omega)
        have i1 : (0 : Int) ≤ (k : Int) := by omega
        have i2 : (k : Int) < (P.length : Int) := by omega
        have i3 : (k : Int) < (P'.length : Int) := by rw [← hpl.out]; omega
        have MM := Lib.hid M1
        have HG0 := Lib.hid G0
        have HG1 := Lib.hid G1
        clear M1 G0 G1
        cases hb : decide (p = p') with
        | true =>
          rw [hb] at HEQ
          rw [HEQ.out] at hne
          have hpp := Lib.hid (of_decide_eq_true hb)
          clear hb HEQ
          go_wp2_with fail
          go_quiet (fail)
          go_wp2_with fail
          exact ⟨⟨k + 1, by omega, by go_num, MM.out.drewN _, HG0.out, HG1.out, fun j hj => by
            rcases Nat.lt_or_ge j k with h1 | h1
            · exact hs.out j h1
            · obtain rfl : j = k := by omega
              rw [← hp.out, ← hp'.out, hpp.out]⟩, by simp only [intOf]; omega⟩
        | false =>
          rw [hb] at HEQ
          rw [HEQ.out] at hne
          have hpp := Lib.hid (of_decide_eq_false hb)
          clear hb HEQ
          go_wp2_with fail
          go_quiet (fail)
          go_wp2_with fail
          go_ret
          exact ⟨ret_bool (by rw [HS.out]; exact (decide_eq_false (fun h => hpp.out (by rw [hp.out, hp'.out, h]))).symm), MM.out.drewN _⟩
      · have hkl : k = P.length := by omega
        have HPE := Lib.hid (show P = P' from by
          refine List.ext_getElem hpl.out fun i h1 h2 => ?_
          have := hs.out i (by omega)
          simpa [List.getD_eq_getElem?_getD, h1, h2] using this)
        have MM := Lib.hid M1
        clear M1 G0 G1
        go_wp2_with fail
        go_ret
        exact ⟨ret_bool (by rw [HS.out]; exact (decide_eq_true HPE.out).symm), MM.out⟩
  · have hh := Lib.hid hh
    have hF := Lib.hid (show B = false by
      rw [HS.out]
      rw [Bool.eq_false_iff]
      intro h
      simp only [Bool.and_eq_true, decide_eq_true_eq] at h
      exact hh.out ⟨h.1.1.1.1.1.1, h.1.1.1.1.1.2, h.1.1.1.1.2, h.1.1.1.2, h.1.1.2, h.1.2, by rw [h.2]⟩)
    go_enter Try.func62, Try.ntmps62
    go_wp2_with fail
    all_goals first
      | (go_ret; exact ⟨ret_bool hF.out.symm, (Mods.refl.alloc _).alloc _⟩)
      | (exfalso; refine hh.out ?_; simp_all; done)
      | (exfalso; refine hh.out ?_; simp_all; omega)
end Go.Proofs.Ytijjkonephjodaa

namespace Go.Proofs.Ytijjkonephjodaa
open Go.RowKit

def encA (ok : Bool) (A : List Int) : List Int := if ok then A else []
def encE (ok : Bool) : Int := if ok then 0 else 1
def EncAny (w : World) (ok : Bool) (A : List Int) (e : Ending) (w' : World) : Prop := ∃ v', e = .returned (.tuple #[v', .int .i64 (encE ok)]) ∧ OwnB w' w.heap.size v' (encA ok A) ∧ Mods [] w w'
theorem encAny {w w' : World} {ok : Bool} {A : List Int} {e : Ending} (h : EncRes w ok A e w') : EncAny w ok A e w' := by
  unfold EncRes at h
  cases ok with
  | true => rw [if_pos rfl] at h; exact h
  | false => rw [if_neg (by decide)] at h; obtain ⟨rfl, M⟩ := h; exact ⟨_, rfl, OwnB.nil _ _, M⟩
/-- What Decode gives. -/
def resC (A : List Int) (pv : Value) : Conv := if errC A = 0 then decC A pv else zK
def resP (A : List Int) : List Pt := if errC A = 0 then decP A else []
def resN (A : List Int) : Int := if errC A = 0 then (lenC A).1 else 0
theorem dec_is {w : World} {A : List Int} {pv : Value} (hb : Bytes A) (h : errC A = 0) (rd : RdPts w pv (decP A)) : IsConv w (decC A pv) (decP A) := by
  obtain ⟨h1, h2, h3⟩ := errC_zero h
  rw [decC_pts A _ pv] at h3
  have hn := convB_nums h3
  have hf := convB_f15 h3
  have hp : PtsOk (decP A) := by
    unfold decP
    split
    · rename_i h5
      obtain ⟨_, _, hc⟩ := lenC_facts h1
      rcases hc with ⟨h6, _⟩ | ⟨_, a, b, c⟩
      · exact absurd h5 h6
      · exact ptsOf_ok hb (by omega) (by omega)
    · exact PtsOk.nil
  have hpts : (decC A pv).pts = pv := by unfold decC; split <;> rfl
  exact ⟨by rw [hpts]; exact rd, hp, i64_small (by omega), i64_small (by omega), i64_small (by omega), i64_small (by omega), i64_small (by omega)⟩
def DecAny (w : World) (A : List Int) (e : Ending) (w' : World) : Prop :=
  ∃ pv, e = .returned (.tuple #[.agg (resC A pv).cells, .int .i64 (resN A), .int .i64 (errC A)]) ∧ IsConv w' (resC A pv) (resP A) ∧ Mods [] w w'
theorem decAny {w w' : World} {A : List Int} {e : Ending} (hb : Bytes A) (h : DecRes w A e w') : DecAny w A e w' := by
  unfold DecRes at h
  unfold DecAny resC resP resN
  by_cases h0 : errC A = 0
  · rw [if_pos h0] at h
    obtain ⟨pv, rfl, O, M⟩ := h
    refine ⟨pv, ?_, ?_, M⟩
    · rw [if_pos h0, if_pos h0, h0]
    · rw [if_pos h0, if_pos h0]
      exact dec_is hb h0 O.rd
  · rw [if_neg h0] at h
    obtain ⟨rfl, M⟩ := h
    refine ⟨.slice none 0 0, ?_, ?_, M⟩
    · rw [if_neg h0, if_neg h0]
    · rw [if_neg h0, if_neg h0]
      exact ⟨RdPts.nil _, PtsOk.nil, i64_small (x := 0) (by decide), i64_small (x := 0) (by decide), i64_small (x := 0) (by decide), i64_small (x := 0) (by decide), i64_small (x := 0) (by decide)⟩
theorem res_same (A : List Int) (pv pv' : Value) : sameC (resC A pv) (resP A) (resC A pv') (resP A) = true := by
  refine sameC_refl ?_
  unfold resC
  split
  · unfold decC
    split <;> exact ⟨rfl, rfl, rfl, rfl, rfl, rfl⟩
  · exact ⟨rfl, rfl, rfl, rfl, rfl, rfl⟩
theorem u8s_set (A : List Int) (k : Nat) (x : Int) : u8s (A.set k x) = (u8s A).set k (.int .u8 x) := by unfold u8s; rw [List.map_set]
/-- A byte of the call's own, set. -/
theorem OwnB.set {w : World} {B g cap : Nat} {A : List Int} (h : OwnB w B (.slice (some ⟨g, 0, none⟩) A.length cap) A) {k : Nat} (hk : k < A.length) (x : Int) :
    OwnB (w.setCell ⟨g, k, none⟩ (.int .u8 x)) B (.slice (some ⟨g, 0, none⟩) A.length cap) (A.set k x) ∧ ∃ c, w.heap[g]? = some (.cells c 5 (0, 0)) ∧ k < c.size := by
  obtain ⟨hl, h⟩ := h
  rcases h with ⟨h0, _⟩ | ⟨g', cap', cur, hv, hb, hg, h1, h2, h3, h4⟩
  · cases h0
  · injection hv with e1 e2 e3
    injection e1 with e1
    injection e1 with e1 _ _
    subst e1 e3
    rw [u8s_length] at h1 h4
    refine ⟨⟨by rw [u8s_set, List.length_set]; omega, .inr ⟨g, cap, cur.setIfInBounds k (.int .u8 x), by rw [u8s_set, List.length_set, u8s_length], hb, heap_setCell hg, by rw [u8s_set, List.length_set, u8s_length]; exact h1, h2, by rw [Array.size_setIfInBounds]; exact h3, ?_⟩⟩, cur, hg, by omega⟩
    rw [u8s_set, List.length_set, u8s_length, Array.toList_setIfInBounds, ← h4, Nat.mul_one]
    rw [List.take_set]
end Go.Proofs.Ytijjkonephjodaa
