/- The bytes of a sensor record, decoded, are the record; and the bytes of what was decoded are those that were read. Plain laws. -/
import Derived.Test.YtijjkonephjodaaSenDec0
import Derived.Test.YtijjkonephjodaaBkx
import Derived.Test.YtijjkonephjodaaEnx
namespace Go.Proofs.Ytijjkonephjodaa
open Go.RowKit

def nmX (X : List Int) : ByteArray := strOf ((X.drop 8).take (b8 X 7))
def rsX (X : List Int) : List Int := X.drop (8 + b8 X 7)
def dsX (X : List Int) : Bool := decide (X.getD 6 0 % 2 = 1)
def senX (X : List Int) (pv : Value) : Sen := restS (hdrS X (nmX X)) (rsX X) pv
def ptsX (X : List Int) : List Pt := restP (dsX X) (rsX X)
/-- What is wrong with a record's bytes, opened. -/
def errX (X : List Int) : Int :=
  if X.getD 0 0 ≠ 1 ∨ 32 ≤ X.getD 6 0 then 6 else if X.length < 8 + b8 X 7 then 4
  else if restErr (dsX X) (rsX X) ≠ 0 then restErr (dsX X) (rsX X) else if validB (senX X (.slice none 0 0)) (ptsX X) then 0 else 1
/-- What is wrong with a record's bytes. -/
def errS (A : List Int) : Int := if A.length < 9 then 4 else if sum8 A ≠ 0 then 5 else errX A.dropLast
theorem foldl_push : ∀ (ns : List Int) (r : ByteArray), (ns.foldl (fun r n => r.push (UInt8.ofNat n.toNat)) r).data.toList = r.data.toList ++ ns.map fun n => UInt8.ofNat n.toNat
  | [], r => by simp
  | n :: ns, r => by
    rw [List.foldl_cons, foldl_push ns]
    obtain ⟨d⟩ := r
    simp [ByteArray.push]
theorem strOf_data (ns : List Int) : (strOf ns).data.toList = ns.map fun n => UInt8.ofNat n.toNat := by
  unfold strOf
  rw [foldl_push]
  rfl
theorem strOf_size (ns : List Int) : (strOf ns).size = ns.length := by
  have := congrArg List.length (strOf_data ns)
  rw [List.length_map, Array.length_toList] at this
  exact this
theorem strOf_nameL (s : ByteArray) : strOf (nameL s) = s := by
  have h : (strOf (nameL s)).data.toList = s.data.toList := by
    rw [strOf_data, nameL, List.map_map]
    conv => rhs; rw [← List.map_id s.data.toList]
    refine List.map_congr_left fun b _ => ?_
    simp
  have h2 := Array.toList_inj.1 h
  cases hs : strOf (nameL s)
  cases s
  rw [hs] at h2
  simp at h2
  rw [h2]
theorem nameL_strOf {ns : List Int} (hb : ∀ x ∈ ns, 0 ≤ x ∧ x ≤ 255) : nameL (strOf ns) = ns := by
  rw [nameL, strOf_data, List.map_map]
  conv => rhs; rw [← List.map_id ns]
  refine List.map_congr_left fun x hx => ?_
  have := hb x hx
  simp
  omega
theorem validB_parts {S : Sen} {P : List Pt} (hv : validB S P = true) : S.name.size ≤ 16 ∧ (S.samples = 1 ∨ S.samples = 3 ∨ S.samples = 5) ∧ (S.disc = false → convB S.conv P = true ∧ S.states = 0) ∧
    (S.disc = true → S.conv.form = 0 ∧ S.conv.sgn = false ∧ S.conv.m = 0 ∧ S.conv.b = 0 ∧ S.conv.k1 = 0 ∧ S.conv.k2 = 0 ∧ P = [] ∧ S.mask = 0 ∧ S.r0 = 0 ∧ S.r1 = 0 ∧ S.r2 = 0 ∧ S.r3 = 0 ∧ S.r4 = 0 ∧ S.r5 = 0 ∧ S.hl = 0 ∧ S.hu = 0) := by
  unfold validB at hv
  simp only [Bool.and_eq_true, nameB, decide_eq_true_eq] at hv
  refine ⟨hv.1.1.1.2, hv.1.2, fun hd => ?_, fun hd => ?_⟩
  · have := hv.2
    rw [hd] at this
    simp only [Bool.false_eq_true, if_false, analogB, Bool.and_eq_true, decide_eq_true_eq] at this
    exact ⟨this.1.1.1.1.1, this.1.1.1.2⟩
  · have := hv.2
    rw [hd] at this
    simp only [if_true, discB, Bool.and_eq_true, decide_eq_true_eq] at this
    obtain ⟨⟨⟨⟨h1, h2, h3, h4, h5, h6, h7⟩, h8⟩, _⟩, _⟩ := this
    exact ⟨h1, h2, h3, h4, h5, h6, List.eq_nil_of_length_eq_zero h7, h8⟩
/-- With other points. -/
def Sen.with (S : Sen) (pv : Value) : Sen := { S with conv := S.conv.with pv }
theorem validB_with (S : Sen) (P : List Pt) (pv : Value) : validB (S.with pv) P = validB S P := rfl
def tailL (S : Sen) (P : List Pt) : List Int := if S.disc then twoL [S.states, S.asrt, S.deas] else convL S.conv P ++ ([(S.mask : Int)] ++ rawsL S ++ [(S.hl : Int), (S.hu : Int)] ++ twoL [S.asrt, S.deas])
theorem senL_tail (S : Sen) (P : List Pt) : senL S P = headL S (flagS S) ++ (nameL S.name ++ tailL S P) := by
  unfold senL tailL
  cases S.disc <;> simp
theorem flagS_facts {S : Sen} {P : List Pt} (hv : validB S P = true) : flagS S < 32 ∧ 0 ≤ flagS S ∧ decide (flagS S % 2 = 1) = S.disc ∧ decide (flagS S / 2 % 2 = 1) = S.host ∧ flagS S / 4 = S.samples := by
  have hs := (validB_parts hv).2.1
  unfold flagS
  cases S.disc <;> cases S.host <;> simp <;> rcases hs with h | h | h <;> rw [h] <;> decide
theorem w16_two (l : List Nat) (R : List Int) (i : Nat) (hi : i < l.length) (h : l.getD i 0 < 65536) : w16 (twoL l ++ R) (2 * i) = l.getD i 0 := by
  induction l generalizing i with
  | nil => simp at hi
  | cons a l ih =>
    have e : twoL (a :: l) ++ R = ((a : Int) % 256) :: ((a : Int) / 256) :: (twoL l ++ R) := by simp [twoL]
    rw [e]
    cases i with
    | zero =>
      simp at h
      simp [w16]
      omega
    | succ i =>
      have := ih i (by simpa using hi) (by simpa using h)
      rw [show 2 * (i + 1) = 2 * i + 1 + 1 by omega]
      simpa [w16] using this
theorem sdec_enc {w : World} {S : Sen} {P : List Pt} (hS : IsSen w S P) (hv : validB S P = true) (pv : Value) :
    (senL S P).getD 0 0 = 1 ∧ (senL S P).getD 6 0 < 32 ∧ 8 + b8 (senL S P) 7 ≤ (senL S P).length ∧ restErr (dsX (senL S P)) (rsX (senL S P)) = 0 ∧ ptsX (senL S P) = P ∧ senX (senL S P) pv = S.with (senX (senL S P) pv).conv.pts := by
  obtain ⟨hn, hsm, hA, hD⟩ := validB_parts hv
  obtain ⟨f1, f2, f3, f4, f5⟩ := flagS_facts hv
  have eX := senL_tail S P
  generalize senL S P = X at eX ⊢
  have x0 : X.getD 0 0 = 1 := by rw [eX]; rfl
  have x1 : b8 X 1 = S.number := by rw [eX]; rfl
  have x2 : b8 X 2 = S.type := by rw [eX]; rfl
  have x3 : b8 X 3 = S.unit := by rw [eX]; rfl
  have x4 : b8 X 4 = S.eid := by rw [eX]; rfl
  have x5 : b8 X 5 = S.einst := by rw [eX]; rfl
  have x6 : X.getD 6 0 = flagS S := by rw [eX]; rfl
  have x7 : b8 X 7 = S.name.size := by rw [eX]; rfl
  have d8 : X.drop 8 = nameL S.name ++ tailL S P := by rw [eX]; rfl
  have hnm : nmX X = S.name := by
    unfold nmX
    rw [x7, d8, List.take_append_of_le_length (by rw [nameL_length]; omega), List.take_of_length_le (by rw [nameL_length]; omega), strOf_nameL]
  have hrs : rsX X = tailL S P := by
    unfold rsX
    rw [x7, ← List.drop_drop, d8, ← nameL_length, List.drop_left]
  have hds : dsX X = S.disc := by unfold dsX; rw [x6, f3]
  have hlen : 8 + b8 X 7 ≤ X.length := by rw [x7, eX, List.length_append, List.length_append, nameL_length]; simp [headL]
  refine ⟨x0, by rw [x6]; exact f1, hlen, ?_⟩
  have hst := hS.states
  have has := hS.asrt
  have hde := hS.deas
  unfold senX ptsX
  rw [hrs, hds, hnm]
  have eh : hdrS X S.name = ⟨S.number, S.type, S.unit, S.name, S.eid, S.einst, S.disc, zC, 0, 0, 0, 0, 0, 0, 0, 0, 0, 0, 0, 0, S.host, S.samples⟩ := by
    unfold hdrS
    rw [x1, x2, x3, x4, x5, x6, f3, f4, f5]
  rw [eh]
  cases hd : S.disc with
  | true =>
    obtain ⟨c1, c2, c3, c4, c5, c6, rfl, z1, z2, z3, z4, z5, z6, z7, z8, z9⟩ := hD hd
    have et : tailL S [] = twoL [S.states, S.asrt, S.deas] := by unfold tailL; rw [if_pos hd]
    have hl6 : (tailL S []).length = 6 := by rw [et, twoL_length]; rfl
    have w0 := w16_two [S.states, S.asrt, S.deas] [] 0 (by simp) hst
    have w1 := w16_two [S.states, S.asrt, S.deas] [] 1 (by simp) has
    have w2 := w16_two [S.states, S.asrt, S.deas] [] 2 (by simp) hde
    rw [List.append_nil, ← et] at w0 w1 w2
    refine ⟨?_, ?_, ?_⟩
    · unfold restErr; rw [if_pos rfl, if_neg (by omega), if_neg (by omega)]
    · unfold restP; rw [if_pos rfl]
    · unfold restS Sen.with Conv.with
      rw [if_pos rfl]
      simp only [Nat.mul_zero, Nat.mul_one, Nat.reduceMul] at w0 w1 w2
      rw [w0, w1, w2, c1, c2, c3, c4, c5, c6, z1, z2, z3, z4, z5, z6, z7, z8, z9, hd]
      rfl
  | false =>
    obtain ⟨hc, hz⟩ := hA hd
    have et : tailL S P = convL S.conv P ++ ([(S.mask : Int)] ++ rawsL S ++ [(S.hl : Int), (S.hu : Int)] ++ twoL [S.asrt, S.deas]) := by unfold tailL; rw [if_neg (by rw [hd]; decide)]
    obtain ⟨q1, q2, q3⟩ := dec_enc hc ([(S.mask : Int)] ++ rawsL S ++ [(S.hl : Int), (S.hu : Int)] ++ twoL [S.asrt, S.deas]) pv
    have q0 := dec_enc_ok hc ([(S.mask : Int)] ++ rawsL S ++ [(S.hl : Int), (S.hu : Int)] ++ twoL [S.asrt, S.deas])
    rw [← et] at q0 q1 q2 q3
    have hdr : (tailL S P).drop (lenC (tailL S P)).1.toNat = [(S.mask : Int)] ++ rawsL S ++ [(S.hl : Int), (S.hu : Int)] ++ twoL [S.asrt, S.deas] := by
      rw [q1]
      simp only [Int.toNat_natCast]
      rw [et, List.drop_left]
    refine ⟨?_, ?_, ?_⟩
    · unfold restErr
      rw [if_neg (by decide), if_neg (by rw [q0]; simp), hdr]
      simp [rawsL, twoL]
    · unfold restP; rw [if_neg (by decide), q3]
    · unfold restS Sen.with
      rw [if_neg (by simp), hdr, q2]
      unfold ana13
      have a9 : w16 ([(S.mask : Int)] ++ rawsL S ++ [(S.hl : Int), (S.hu : Int)] ++ twoL [S.asrt, S.deas]) 9 = S.asrt := by
        simp [w16, rawsL, twoL]; omega
      have a11 : w16 ([(S.mask : Int)] ++ rawsL S ++ [(S.hl : Int), (S.hu : Int)] ++ twoL [S.asrt, S.deas]) 11 = S.deas := by
        simp [w16, rawsL, twoL]; omega
      rw [a9, a11]
      simp only [hz, hd]
      rfl
theorem sdec_enc_ok {w : World} {S : Sen} {P : List Pt} (hS : IsSen w S P) (hv : validB S P = true) : errX (senL S P) = 0 := by
  obtain ⟨h1, h2, h3, h4, h5, h6⟩ := sdec_enc hS hv (.slice none 0 0)
  unfold errX
  rw [if_neg (by omega), if_neg (by omega), if_neg (by rw [h4]; simp), h6, validB_with, h5, if_pos hv]
theorem sum_seal (A : List Int) : sum8 (seal8 A) = 0 := by
  unfold seal8 sum8
  rw [List.sum_append]
  simp
  omega
theorem senL_len {S : Sen} {P : List Pt} (hv : validB S P = true) : 9 ≤ (senL S P).length ∧ (senL S P).length ≤ 123 := by
  obtain ⟨hn, hsm, hA, hD⟩ := validB_parts hv
  have hn1 : 1 ≤ S.name.size := by
    unfold validB at hv
    simp only [Bool.and_eq_true, nameB, decide_eq_true_eq] at hv
    exact hv.1.1.1.1
  rw [senL_tail, List.length_append, List.length_append, nameL_length]
  have h8 : (headL S (flagS S)).length = 8 := rfl
  unfold tailL
  cases hd : S.disc with
  | true => rw [if_pos rfl, twoL_length]; simp only [List.length_cons, List.length_nil]; omega
  | false =>
    have hc := (hA hd).1
    have : (convL S.conv P).length ≤ 86 := by
      unfold convL
      by_cases h5 : S.conv.form = 5
      · have := convB_tab hc h5
        rw [if_pos h5, List.length_cons, List.length_cons, ptsL_length]; omega
      · rw [if_neg h5, List.length_cons, List.length_append, List.length_append, leL_length, leL_length]; simp
    rw [if_neg (by decide)]
    simp only [List.length_append, twoL_length, rawsL, List.length_cons, List.length_nil]
    omega
theorem seal_dropLast (A : List Int) : (seal8 A).dropLast = A := by unfold seal8; simp
theorem errS_seal {w : World} {S : Sen} {P : List Pt} (hS : IsSen w S P) (hv : validB S P = true) : errS (seal8 (senL S P)) = 0 := by
  have := senL_len hv
  unfold errS
  rw [if_neg (by simp [seal8]; omega), if_neg (by rw [sum_seal]; simp), seal_dropLast, sdec_enc_ok hS hv]
theorem sum_set : ∀ (A : List Int) (i : Nat) (y : Int), i < A.length → (A.set i y).sum = A.sum - A.getD i 0 + y
  | a :: A, 0, y, _ => by simp; omega
  | a :: A, i + 1, y, h => by
    have := sum_set A i y (by simpa using h)
    simp only [List.set_cons_succ, List.sum_cons, List.getD_cons_succ, this]
    omega
theorem sum8_set {A : List Int} (hb : Bytes A) (h : sum8 A = 0) {i : Nat} (hi : i < A.length) {y : Int} (hy : 0 ≤ y ∧ y ≤ 255) (hne : y ≠ A.getD i 0) : sum8 (A.set i y) ≠ 0 := by
  have hx := hb i
  unfold sum8 at h ⊢
  rw [sum_set A i y hi]
  omega
theorem seal_of {A : List Int} (hb : Bytes A) (hn : A ≠ []) (h : sum8 A = 0) : seal8 A.dropLast = A := by
  have e := List.dropLast_concat_getLast hn
  have hl := hb (A.length - 1)
  have eg : A.getD (A.length - 1) 0 = A.getLast hn := by
    rw [List.getLast_eq_getElem, List.getD_eq_getElem?_getD, List.getElem?_eq_getElem (by have := List.length_pos_iff.2 hn; omega)]
    rfl
  rw [eg] at hl
  have hs : sum8 A.dropLast = A.getLast hn := by
    unfold sum8 at h ⊢
    have : A.sum = A.dropLast.sum + A.getLast hn := by
      conv => lhs; rw [← e]
      rw [List.sum_append]
      simp
    omega
  unfold seal8
  rw [hs]
  exact e
theorem b8_cast {A : List Int} (hb : Bytes A) (i : Nat) : ((b8 A i : Nat) : Int) = A.getD i 0 := (u8_getD hb i).symm
theorem two_w16 {A : List Int} (hb : Bytes A) (i : Nat) : twoL [w16 A i] = [A.getD i 0, A.getD (i + 1) 0] := by
  have h0 := hb i
  have h1 := hb (i + 1)
  have hw := w16_eq hb i
  have e : twoL [w16 A i] = [(w16 A i : Int) % 256, (w16 A i : Int) / 256] := by simp [twoL]
  rw [e, hw]
  congr 1
  · omega
  · congr 1; omega
theorem list_getD (A : List Int) : ∀ n, n ≤ A.length → A.take n = (List.range n).map fun i => A.getD i 0 := fun n hn => by
  refine List.ext_getElem (by simp; omega) fun i h1 h2 => ?_
  simp at h1
  simp [List.getD_eq_getElem?_getD, show i < A.length by omega]
theorem senc_dec {X : List Int} (hb : Bytes X) (h : errX X = 0) (pv : Value) : senL (senX X pv) (ptsX X) = X ∧ validB (senX X pv) (ptsX X) = true := by
  unfold errX at h
  split at h
  · simp at h
  rename_i h1
  split at h
  · simp at h
  rename_i h2
  split at h
  · exact absurd h (by assumption)
  rename_i h3
  split at h
  rotate_left
  · simp at h
  rename_i h4
  have h3' : restErr (dsX X) (rsX X) = 0 := Decidable.of_not_not h3
  have hx0 : X.getD 0 0 = 1 := by omega
  have hx6 : X.getD 6 0 < 32 := by omega
  have hb6 := hb 6
  have hvv : validB (senX X pv) (ptsX X) = true := by
    rw [← h4]
    unfold senX restS
    split
    · rfl
    · unfold validB analogB discB ana13
      show _ = _
      have := decC_pts (rsX X) pv (.slice none 0 0)
      have e2 : ptsX X = decP (rsX X) := by
        rename_i hd
        unfold ptsX restP
        rw [if_neg (by exact hd)]
      rw [e2]
      unfold decC at this ⊢
      split <;> rfl
  refine ⟨?_, hvv⟩
  have hrb : Bytes (rsX X) := hb.drop _
  have hsd : (senX X pv).disc = dsX X := by
    unfold senX restS
    split
    · rfl
    · rfl
  have hname : (senX X pv).name = nmX X := by unfold senX restS; split <;> rfl
  have hhead : headL (senX X pv) (flagS (senX X pv)) = X.take 8 := by
    rw [list_getD X 8 (by omega)]
    have hf : flagS (senX X pv) = X.getD 6 0 := by
      have : flagS (senX X pv) = 4 * (X.getD 6 0 / 4) + (if dsX X then 1 else 0) + (if decide (X.getD 6 0 / 2 % 2 = 1) then 2 else 0) := by
        unfold senX restS; split <;> rfl
      rw [this]
      unfold dsX
      simp only [decide_eq_true_eq]
      split <;> split <;> omega
    have hn : (nmX X).size = b8 X 7 := by
      unfold nmX
      rw [strOf_size]
      simp
      omega
    have hh : headL (senX X pv) (flagS (senX X pv)) = [1, (b8 X 1 : Int), b8 X 2, b8 X 3, b8 X 4, b8 X 5, flagS (senX X pv), ((nmX X).size : Nat)] := by
      unfold headL
      rw [hname]
      unfold senX restS
      split <;> rfl
    rw [hh, hf, hn, b8_cast hb, b8_cast hb, b8_cast hb, b8_cast hb, b8_cast hb, b8_cast hb, ← hx0]
    rfl
  have hnm : nameL (senX X pv).name = (X.drop 8).take (b8 X 7) := by
    rw [hname]
    refine nameL_strOf fun x hx => ?_
    obtain ⟨i, hi, rfl⟩ := List.getElem_of_mem hx
    have := ((hb.drop 8).take (b8 X 7)) i
    rw [List.getD_eq_getElem?_getD, List.getElem?_eq_getElem hi] at this
    exact this
  have htl : tailL (senX X pv) (ptsX X) = X.drop (8 + b8 X 7) := by
    show _ = rsX X
    unfold tailL
    rw [hsd]
    cases hd : dsX X with
    | true =>
      rw [if_pos rfl]
      unfold restErr at h3'
      rw [hd, if_pos rfl] at h3'
      have hl6 : (rsX X).length = 6 := by
        split at h3'
        · simp at h3'
        · split at h3'
          · simp at h3'
          · omega
      have e : senX X pv = { hdrS X (nmX X) with states := w16 (rsX X) 0, asrt := w16 (rsX X) 2, deas := w16 (rsX X) 4 } := by
        unfold senX restS
        rw [if_pos (show (hdrS X (nmX X)).disc = true from hd)]
      rw [e]
      show twoL [w16 (rsX X) 0, w16 (rsX X) 2, w16 (rsX X) 4] = rsX X
      rw [show twoL [w16 (rsX X) 0, w16 (rsX X) 2, w16 (rsX X) 4] = twoL [w16 (rsX X) 0] ++ (twoL [w16 (rsX X) 2] ++ twoL [w16 (rsX X) 4]) by simp [twoL]]
      rw [two_w16 hrb, two_w16 hrb, two_w16 hrb]
      conv => rhs; rw [← List.take_of_length_le (Nat.le_of_eq hl6), list_getD _ 6 (by omega)]
      rfl
    | false =>
      rw [if_neg (by decide)]
      unfold restErr at h3'
      rw [hd, if_neg (by decide)] at h3'
      have e : senX X pv = ana13 (hdrS X (nmX X)) (decC (rsX X) pv) ((rsX X).drop (lenC (rsX X)).1.toNat) := by
        unfold senX restS
        rw [if_neg (show ¬ (hdrS X (nmX X)).disc = true by rw [show (hdrS X (nmX X)).disc = dsX X from rfl, hd]; decide)]
      have e2 : ptsX X = decP (rsX X) := by unfold ptsX restP; rw [hd, if_neg (by decide)]
      split at h3'
      · exact absurd h3' (by assumption)
      rename_i hc
      have hc := Decidable.of_not_not hc
      obtain ⟨g1, g2⟩ := enc_dec hrb hc pv
      have hl13 : ((rsX X).drop (lenC (rsX X)).1.toNat).length = 13 := by
        split at h3'
        · simp at h3'
        · split at h3'
          · simp at h3'
          · omega
      have hRb : Bytes ((rsX X).drop (lenC (rsX X)).1.toNat) := hrb.drop _
      rw [e, e2]
      generalize hR : (rsX X).drop (lenC (rsX X)).1.toNat = R at hl13 hRb
      show convL (decC (rsX X) pv) (decP (rsX X)) ++ ([(b8 R 0 : Int)] ++ [(b8 R 1 : Int), (b8 R 2 : Int), (b8 R 3 : Int), (b8 R 4 : Int), (b8 R 5 : Int), (b8 R 6 : Int)] ++ [(b8 R 7 : Int), (b8 R 8 : Int)] ++ twoL [w16 R 9, w16 R 11]) = rsX X
      rw [g1]
      conv => rhs; rw [← List.take_append_drop (lenC (rsX X)).1.toNat (rsX X), hR]
      congr 1
      rw [show twoL [w16 R 9, w16 R 11] = twoL [w16 R 9] ++ twoL [w16 R 11] by simp [twoL]]
      rw [two_w16 hRb, two_w16 hRb, b8_cast hRb, b8_cast hRb, b8_cast hRb, b8_cast hRb, b8_cast hRb, b8_cast hRb, b8_cast hRb, b8_cast hRb, b8_cast hRb]
      conv => rhs; rw [← List.take_of_length_le (Nat.le_of_eq hl13), list_getD _ 13 (by omega)]
      rfl
  rw [senL_tail, hhead, hnm, htl, ← List.drop_drop]
  rw [List.take_append_drop, List.take_append_drop]
end Go.Proofs.Ytijjkonephjodaa
