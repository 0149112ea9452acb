/- Sensor records, conversions and thresholds as plain data: bits, order, validity. No program stands here. -/
import Derived.Test.YtijjkonephjodaaMem
import Derived.Test.YtijjkonephjodaaNums
namespace Go.Proofs.Ytijjkonephjodaa
open Go.RowKit

/-- The number whose bits below k are f's. -/
def ofBits (f : Nat → Bool) : Nat → Nat
  | 0 => 0
  | k + 1 => ofBits f k + if f k then 2 ^ k else 0
theorem ofBits_lt (f : Nat → Bool) : ∀ k, ofBits f k < 2 ^ k
  | 0 => by simp [ofBits]
  | k + 1 => by
    have := ofBits_lt f k
    simp only [ofBits, Nat.pow_succ]
    split <;> omega
theorem testBit_ofBits (f : Nat → Bool) : ∀ k i, (ofBits f k).testBit i = (decide (i < k) && f i)
  | 0, i => by simp [ofBits]
  | k + 1, i => by
    have hl := ofBits_lt f k
    have ih := testBit_ofBits f k i
    simp only [ofBits]
    by_cases hf : f k
    · rw [if_pos hf, Nat.add_comm]
      rcases Nat.lt_trichotomy i k with h | h | h
      · rw [Nat.testBit_two_pow_add_gt h, ih, decide_eq_true h, decide_eq_true (show i < k + 1 by omega)]
      · subst h; rw [Nat.testBit_two_pow_add_eq, ih]; simp [hf]
      · rw [Nat.testBit_lt_two_pow (Nat.lt_of_lt_of_le (show 2 ^ k + ofBits f k < 2 ^ (k + 1) by rw [Nat.pow_succ]; omega) (Nat.pow_le_pow_right (by omega) h))]
        rw [decide_eq_false (show ¬ i < k + 1 by omega), Bool.false_and]
    · rw [if_neg hf, Nat.add_zero, ih]
      rcases Nat.lt_trichotomy i k with h | h | h
      · simp [h, Nat.lt_succ_of_lt h]
      · subst h; simp [hf]
      · simp [show ¬ i < k by omega, show ¬ i < k + 1 by omega]
theorem bits_ext {a b k : Nat} (ha : a < 2 ^ k) (hb : b < 2 ^ k) (h : ∀ i, i < k → a.testBit i = b.testBit i) : a = b := by
  refine Nat.eq_of_testBit_eq fun i => ?_
  rcases Nat.lt_or_ge i k with hi | hi
  · exact h i hi
  · have hp : 2 ^ k ≤ 2 ^ i := Nat.pow_le_pow_right (by omega) hi
    rw [Nat.testBit_lt_two_pow (by omega), Nat.testBit_lt_two_pow (by omega)]
theorem ofBits_testBit {m k : Nat} (h : m < 2 ^ k) : ofBits m.testBit k = m :=
  bits_ext (ofBits_lt _ _) h fun i hi => by rw [testBit_ofBits]; simp [hi]
theorem ofBits_congr {f g : Nat → Bool} : ∀ {k : Nat}, (∀ i, i < k → f i = g i) → ofBits f k = ofBits g k
  | 0, _ => rfl
  | k + 1, h => by simp only [ofBits]; rw [ofBits_congr fun i hi => h i (by omega), h k (by omega)]
theorem ofBits_or {f : Nat → Bool} {k : Nat} : ofBits f k ||| (if f k then 2 ^ k else 0) = ofBits f (k + 1) := by
  have hl := ofBits_lt f k
  simp only [ofBits]
  by_cases hf : f k
  · rw [if_pos hf, Nat.or_comm, Nat.add_comm]; have := Nat.two_pow_add_eq_or_of_lt hl 1; rw [Nat.mul_one] at this; exact this.symm
  · rw [if_neg hf]; simp
theorem tb (m i : Nat) : m.testBit i = decide (m / 2 ^ i % 2 = 1) := by rw [Nat.testBit_eq_decide_div_mod_eq]

def sel (m : Nat) (num : Nat → Int) (l : List Nat) : List Int := (l.filter m.testBit).map num
def sortedB : List Int → Bool
  | [] => true
  | [_] => true
  | a :: b :: l => decide (a ≤ b) && sortedB (b :: l)
def pairB (num : Nat → Int) (k i : Nat) : Bool := !(decide (i < 3 ∧ num k < num i) || decide (3 ≤ k ∧ num k > num i) || decide (k < 3 ∧ 3 ≤ i ∧ num k ≥ num i))
/-- The thresholds are in their order. -/
def ordB (m : Nat) (num : Nat → Int) : Bool := (List.range 6).all fun i => !m.testBit i || (List.range i).all fun k => !m.testBit k || pairB num k i
def apartB (lo hi : List Int) : Bool := match lo.getLast?, hi.head? with
  | some a, some b => decide (a < b)
  | _, _ => true
theorem ord_eq (m : Nat) (f : Nat → Int) : (sortedB (sel m f [2, 1, 0]) && sortedB (sel m f [3, 4, 5]) && apartB (sel m f [2, 1, 0]) (sel m f [3, 4, 5])) = ordB m f := by
  unfold ordB
  have e : ∀ b0 b1 b2 b3 b4 b5 : Bool, m.testBit 0 = b0 → m.testBit 1 = b1 → m.testBit 2 = b2 → m.testBit 3 = b3 → m.testBit 4 = b4 → m.testBit 5 = b5 →
    (sortedB (sel m f [2, 1, 0]) && sortedB (sel m f [3, 4, 5]) && apartB (sel m f [2, 1, 0]) (sel m f [3, 4, 5])) = ((List.range 6).all fun i => !m.testBit i || (List.range i).all fun k => !m.testBit k || pairB f k i) := by
    intro b0 b1 b2 b3 b4 b5 h0 h1 h2 h3 h4 h5
    have r6 : List.range 6 = [0, 1, 2, 3, 4, 5] := rfl
    have r5 : List.range 5 = [0, 1, 2, 3, 4] := rfl
    have r4 : List.range 4 = [0, 1, 2, 3] := rfl
    have r3 : List.range 3 = [0, 1, 2] := rfl
    have r2 : List.range 2 = [0, 1] := rfl
    have r1 : List.range 1 = [0] := rfl
    rw [Bool.eq_iff_iff]
    simp only [r6, r5, r4, r3, r2, r1, List.all_cons, List.all_nil, sel, List.filter, h0, h1, h2, h3, h4, h5, List.range_zero]
    cases b0 <;> cases b1 <;> cases b2 <;> cases b3 <;> cases b4 <;> cases b5 <;> simp [sortedB, apartB, pairB] <;> omega
  exact e _ _ _ _ _ _ rfl rfl rfl rfl rfl rfl
theorem ordB_get {m : Nat} {f : Nat → Int} (h : ordB m f = true) {k i : Nat} (hk : k < i) (hi : i < 6) (bk : m.testBit k = true) (bi : m.testBit i = true) : pairB f k i = true := by
  unfold ordB at h
  rw [List.all_eq_true] at h
  have h1 := h i (List.mem_range.2 hi)
  rw [bi, Bool.not_true, Bool.false_or, List.all_eq_true] at h1
  have h2 := h1 k (List.mem_range.2 hk)
  rw [bk] at h2
  simpa using h2

/-- A point of a table. -/
structure Pt where
  raw : Nat
  val : Int
instance : Inhabited Pt := ⟨⟨0, 0⟩⟩
/-- A conversion; pts is the slice of its points. -/
structure Conv where
  form : Int
  sgn : Bool
  m : Int
  b : Int
  k1 : Int
  k2 : Int
  pts : Value
/-- A sensor record. -/
structure Sen where
  number : Nat
  type : Nat
  unit : Nat
  name : ByteArray
  eid : Nat
  einst : Nat
  disc : Bool
  conv : Conv
  mask : Nat
  r0 : Nat
  r1 : Nat
  r2 : Nat
  r3 : Nat
  r4 : Nat
  r5 : Nat
  hl : Nat
  hu : Nat
  states : Nat
  asrt : Nat
  deas : Nat
  host : Bool
  samples : Int
def Conv.cells (C : Conv) : Array Value := #[.int .i64 C.form, .bool C.sgn, .int .i64 C.m, .int .i64 C.b, .int .i64 C.k1, .int .i64 C.k2, C.pts]
def Sen.cells (S : Sen) : Array Value := #[.int .u8 S.number, .int .u8 S.type, .int .u8 S.unit, .string S.name, .int .u8 S.eid, .int .u8 S.einst, .bool S.disc,
  .int .i64 S.conv.form, .bool S.conv.sgn, .int .i64 S.conv.m, .int .i64 S.conv.b, .int .i64 S.conv.k1, .int .i64 S.conv.k2, S.conv.pts,
  .int .u8 S.mask, .int .u8 S.r0, .int .u8 S.r1, .int .u8 S.r2, .int .u8 S.r3, .int .u8 S.r4, .int .u8 S.r5, .int .u8 S.hl, .int .u8 S.hu,
  .int .u16 S.states, .int .u16 S.asrt, .int .u16 S.deas, .bool S.host, .int .i64 S.samples]
def Conv.val (C : Conv) : Value := .agg C.cells
def Sen.val (S : Sen) : Value := .agg S.cells
def Sen.raw (S : Sen) (i : Nat) : Nat := [S.r0, S.r1, S.r2, S.r3, S.r4, S.r5].getD i 0

/-- The number of a raw reading. -/
def numI (sgn : Bool) (r : Nat) : Int := if sgn = true ∧ 128 ≤ r then (r : Int) - 256 else r
theorem numI_bd {sgn : Bool} {r : Nat} (h : r < 256) : -128 ≤ numI sgn r ∧ numI sgn r ≤ 255 := by unfold numI; split <;> omega
def Sen.num (S : Sen) (i : Nat) : Int := numI S.conv.sgn (S.raw i)
def ptB (sgn : Bool) (P : List Pt) (i : Nat) : Bool :=
  decide (-1000000000000 ≤ (P.getD i default).val ∧ (P.getD i default).val ≤ 1000000000000) && (decide (i = 0) || decide (numI sgn (P.getD (i - 1) default).raw < numI sgn (P.getD i default).raw))
def tableB (sgn : Bool) (P : List Pt) : Bool := decide (2 ≤ P.length ∧ P.length ≤ 12) && (List.range P.length).all (ptB sgn P)
def facB (n : Int) : Bool := decide (-512 ≤ n ∧ n ≤ 511)
def powB (n : Int) : Bool := decide (-3 ≤ n ∧ n ≤ 3)
def convB (C : Conv) (P : List Pt) : Bool :=
  if 1 ≤ C.form ∧ C.form ≤ 4 then facB C.m && facB C.b && powB C.k1 && powB C.k2 && decide (P.length = 0)
  else decide (C.form = 5 ∧ C.m = 0 ∧ C.b = 0 ∧ C.k1 = 0 ∧ C.k2 = 0) && tableB C.sgn P
def charB (c : UInt8) : Bool := decide (32 ≤ c.toNat ∧ c.toNat ≤ 126)
def nameB (s : ByteArray) : Bool := decide (1 ≤ s.size ∧ s.size ≤ 16) && s.data.toList.all charB
def zeroRaw (S : Sen) : Bool := (List.range 6).all fun i => S.mask.testBit i || decide (S.raw i = 0)
def analogB (S : Sen) (P : List Pt) : Bool :=
  convB S.conv P && decide (S.mask < 64) && decide (S.states = 0) && decide ((S.asrt ||| S.deas) &&& (65535 - S.mask) = 0) && zeroRaw S && ordB S.mask S.num
def discB (S : Sen) (P : List Pt) : Bool :=
  decide (S.conv.form = 0 ∧ S.conv.sgn = false ∧ S.conv.m = 0 ∧ S.conv.b = 0 ∧ S.conv.k1 = 0 ∧ S.conv.k2 = 0 ∧ P.length = 0)
    && decide (S.mask = 0 ∧ S.r0 = 0 ∧ S.r1 = 0 ∧ S.r2 = 0 ∧ S.r3 = 0 ∧ S.r4 = 0 ∧ S.r5 = 0 ∧ S.hl = 0 ∧ S.hu = 0)
    && decide (S.samples = 1 ∧ S.states ≤ 32767) && decide ((S.asrt ||| S.deas) &&& (65535 - S.states) = 0)
def validB (S : Sen) (P : List Pt) : Bool :=
  nameB S.name && decide (S.samples = 1 ∨ S.samples = 3 ∨ S.samples = 5) && if S.disc then discB S P else analogB S P

/-- The slice v reads as the points P. -/
def RdPts (w : World) (v : Value) (P : List Pt) : Prop :=
  ∃ ad cap, v = .slice ad P.length cap ∧ P.length ≤ cap ∧ cap ≤ maxLen ∧ ∀ i, i < P.length → ∃ b off, ad = some ⟨b, off, none⟩ ∧
    w.cell? ⟨b, off + i * 2, none⟩ = some (.int .u8 (P.getD i default).raw) ∧ w.cell? ⟨b, off + i * 2 + 1, none⟩ = some (.int .i64 (P.getD i default).val)
theorem RdPts.nil (w : World) : RdPts w (.slice none 0 0) [] := ⟨none, 0, rfl, Nat.le_refl _, Nat.zero_le _, fun i hi => by simp at hi⟩
theorem RdPts.len {w : World} {v : Value} {P : List Pt} (h : RdPts w v P) : ∃ ad cap, v = .slice ad P.length cap := by
  obtain ⟨ad, cap, rfl, _⟩ := h; exact ⟨ad, cap, rfl⟩
theorem RdPts.mods {S : List Nat} {w w' : World} {v : Value} {P : List Pt} (h : RdPts w v P) (hm : Mods S w w') (hn : P ≠ [] → ∀ k, v.ownBlock = some k → k ∉ S) : RdPts w' v P := by
  obtain ⟨ad, cap, rfl, h1, h2, hc⟩ := h
  refine ⟨ad, cap, rfl, h1, h2, fun i hi => ?_⟩
  obtain ⟨b, off, rfl, hb, hb2⟩ := hc i hi
  have hk := hn (by rintro rfl; simp at hi) b rfl
  exact ⟨b, off, rfl, hm.cell hb hk, hm.cell hb2 hk⟩
theorem RdPts.mods0 {w w' : World} {v : Value} {P : List Pt} (h : RdPts w v P) (hm : Mods [] w w') : RdPts w' v P := h.mods hm fun _ _ _ => by simp
theorem RdPts.block_lt {w : World} {v : Value} {P : List Pt} (h : RdPts w v P) (hl : P ≠ []) : ∀ k, v.ownBlock = some k → k < w.heap.size := by
  obtain ⟨ad, cap, rfl, _, _, hc⟩ := h
  intro k hk
  obtain ⟨b, off, rfl, hb, _⟩ := hc 0 (List.length_pos_iff.2 hl)
  simp [Value.ownBlock] at hk
  subst hk
  exact World.block_lt_of_cell? w _ hb
/-- What is asked of points: bytes, and numbers of 64 bits. -/
structure PtsOk (P : List Pt) : Prop where
  len : P.length ≤ 1000
  raw : ∀ i, (P.getD i default).raw < 256
  val : ∀ i, I64 (P.getD i default).val
/-- A conversion in a world, its numbers in their ranges. -/
structure IsConv (w : World) (C : Conv) (P : List Pt) : Prop where
  rd : RdPts w C.pts P
  pok : PtsOk P
  form : I64 C.form
  m : I64 C.m
  b : I64 C.b
  k1 : I64 C.k1
  k2 : I64 C.k2
theorem IsConv.mods0 {w w' : World} {C : Conv} {P : List Pt} (h : IsConv w C P) (hm : Mods [] w w') : IsConv w' C P := ⟨h.rd.mods0 hm, h.pok, h.form, h.m, h.b, h.k1, h.k2⟩
theorem IsConv.mods {S : List Nat} {w w' : World} {C : Conv} {P : List Pt} (h : IsConv w C P) (hm : Mods S w w') (hn : P ≠ [] → ∀ k, C.pts.ownBlock = some k → k ∉ S) : IsConv w' C P := ⟨h.rd.mods hm hn, h.pok, h.form, h.m, h.b, h.k1, h.k2⟩
/-- A sensor record in a world, its numbers in their ranges. -/
structure IsSen (w : World) (S : Sen) (P : List Pt) : Prop where
  conv : IsConv w S.conv P
  number : S.number < 256
  type : S.type < 256
  unit : S.unit < 256
  name : S.name.size ≤ 1000
  eid : S.eid < 256
  einst : S.einst < 256
  mask : S.mask < 256
  raw : ∀ i, S.raw i < 256
  hl : S.hl < 256
  hu : S.hu < 256
  states : S.states < 65536
  asrt : S.asrt < 65536
  deas : S.deas < 65536
  samples : I64 S.samples
theorem IsSen.mods {T : List Nat} {w w' : World} {S : Sen} {P : List Pt} (h : IsSen w S P) (hm : Mods T w w') (hn : P ≠ [] → ∀ k, S.conv.pts.ownBlock = some k → k ∉ T) : IsSen w' S P :=
  { h with conv := h.conv.mods hm hn }
theorem IsSen.mods0 {w w' : World} {S : Sen} {P : List Pt} (h : IsSen w S P) (hm : Mods [] w w') : IsSen w' S P := h.mods hm fun _ _ _ => by simp
end Go.Proofs.Ytijjkonephjodaa
