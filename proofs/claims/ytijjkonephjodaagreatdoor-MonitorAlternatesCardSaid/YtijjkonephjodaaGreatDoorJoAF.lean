/- Joined texts. The sanity check of the statements about thresholds: contract. | ThresholdSeverity: the walk. | ThresholdOrdered: the walk. | The next state of thresholds: the plain laws (nested, a second step, without hysteresis, no flapping). No program stands here. | The reference's thresholds: contracts. | The dice's near and Near: contracts. | ThresholdStays: the walk. | The reference's Reached and Step of thresholds: contracts. -/
import Derived.Test.YtijjkonephjodaaGreatDoorJoAD
import Derived.Test.YtijjkonephjodaaGreatDoorJoAC
import Derived.Test.YtijjkonephjodaaGreatDoorJoAE
import Derived.Deep.RegionLaw
namespace Go.Proofs.YtijjkonephjodaaGreatDoor
open Go.RowKit

/-- The sensor of the example. -/
def exS : Sen := ⟨0, 0, 0, ⟨#[116]⟩, 0, 0, false, ⟨1, false, 1, 0, 0, 0, .slice none 0 0⟩, 24, 0, 0, 0, 80, 90, 0, 0, 2, 0, 0, 0, false, 1⟩
theorem exS_is (w : World) : IsSen w exS [] where
  conv := ⟨RdPts.nil w, ⟨by simp, fun i => by simp [default], fun i => by simp [default, I64]⟩, by constructor <;> decide, by constructor <;> decide, by constructor <;> decide, by constructor <;> decide, by constructor <;> decide⟩
  number := by decide
  type := by decide
  unit := by decide
  name := by decide
  eid := by decide
  einst := by decide
  mask := by decide
  raw := fun i => by
    rcases Nat.lt_or_ge i 6 with h | h
    · match i, h with
      | 0, _ | 1, _ | 2, _ | 3, _ | 4, _ | 5, _ => decide
    · unfold Sen.raw; rw [List.getD_eq_getElem?_getD, List.getElem?_eq_none (by simpa using h)]; decide
  hl := by decide
  hu := by decide
  states := by decide
  asrt := by decide
  deas := by decide
  samples := by constructor <;> decide
theorem exS_one : exS.cells.all (·.oneCell') = true := by simp [exS, Sen.cells, Value.oneCell']
def rawT : List Nat := [85, 95, 89, 88, 87]
def wantT : List Nat := [8, 24, 24, 24, 8]
def wasT : List Nat := [0, 8, 24, 24, 24, 8]
theorem runT {k : Nat} (hk : k < 5) : (stepN exS [] (wasT.getD k 0) (rawT.getD k 0)).1 = wantT.getD k 0 ∧ (stepN exS [] (wasT.getD k 0) (rawT.getD k 0)).2.2 = 0 ∧ wantT.getD k 0 = wasT.getD (k + 1) 0 ∧ wasT.getD k 0 < 256 ∧ rawT.getD k 0 < 256 := by
  match k, hk with
  | 0, _ | 1, _ | 2, _ | 3, _ | 4, _ => exact ⟨by decide +kernel, by decide +kernel, by decide, by decide, by decide⟩
end Go.Proofs.YtijjkonephjodaaGreatDoor

namespace Go.Proofs.YtijjkonephjodaaGreatDoor
open Go.RowKit

def sevF (b0 b1 b2 b3 b4 b5 : Bool) : Int := if b2 || b5 then 3 else if b1 || b4 then 2 else if b0 || b3 then 1 else 0
theorem sevI_eq (st : Nat) : sevI st = sevF (st.testBit 0) (st.testBit 1) (st.testBit 2) (st.testBit 3) (st.testBit 4) (st.testBit 5) := rfl
theorem sevI_bd (st : Nat) : 0 ≤ sevI st ∧ sevI st ≤ 3 := by unfold sevI; split <;> (try split) <;> (try split) <;> omega
theorem sevF_or : ∀ b0 b1 b2 b3 b4 b5 : Bool,
    sevF true b1 b2 b3 b4 b5 = max (sevF b0 b1 b2 b3 b4 b5) 1 ∧ sevF b0 true b2 b3 b4 b5 = max (sevF b0 b1 b2 b3 b4 b5) 2 ∧ sevF b0 b1 true b3 b4 b5 = max (sevF b0 b1 b2 b3 b4 b5) 3 ∧
    sevF b0 b1 b2 true b4 b5 = max (sevF b0 b1 b2 b3 b4 b5) 1 ∧ sevF b0 b1 b2 b3 true b5 = max (sevF b0 b1 b2 b3 b4 b5) 2 ∧ sevF b0 b1 b2 b3 b4 true = max (sevF b0 b1 b2 b3 b4 b5) 3 := by decide
theorem sevI_or (st : Nat) {k : Nat} (hk : k < 6) : sevI (st ||| 2 ^ k) = max (sevI st) ((k % 3 : Nat) + 1) := by
  have ⟨a0, a1, a2, a3, a4, a5⟩ := sevF_or (st.testBit 0) (st.testBit 1) (st.testBit 2) (st.testBit 3) (st.testBit 4) (st.testBit 5)
  rw [sevI_eq, sevI_eq]
  simp only [Nat.testBit_or, Nat.testBit_two_pow]
  match k, hk with
  | 0, _ => simpa using a0
  | 1, _ => simpa using a1
  | 2, _ => simpa using a2
  | 3, _ => simpa using a3
  | 4, _ => simpa using a4
  | 5, _ => simpa using a5
theorem sevI_and (st : Nat) : sevI (st &&& 63) = sevI st := by
  rw [sevI_eq, sevI_eq]
  simp only [Nat.testBit_and, show (63 : Nat).testBit 0 = true by decide, show (63 : Nat).testBit 1 = true by decide, show (63 : Nat).testBit 2 = true by decide, show (63 : Nat).testBit 3 = true by decide, show (63 : Nat).testBit 4 = true by decide, show (63 : Nat).testBit 5 = true by decide, Bool.and_true]
theorem sevF_zero : ∀ b0 b1 b2 b3 b4 b5 : Bool, sevF b0 b1 b2 b3 b4 b5 = 0 → b0 = false ∧ b1 = false ∧ b2 = false ∧ b3 = false ∧ b4 = false ∧ b5 = false := by decide
theorem sevI_zero (st : Nat) : (sevI st == 0) = (((st &&& 63 : Nat) : Int) == 0) := by
  rw [Bool.eq_iff_iff, beq_iff_eq, beq_iff_eq]
  constructor
  · intro h
    rw [sevI_eq] at h
    have ⟨a0, a1, a2, a3, a4, a5⟩ := sevF_zero _ _ _ _ _ _ h
    have : st &&& 63 = 0 := by
      refine bits_ext (k := 6) (Nat.and_lt_two_pow _ (by decide)) (by decide) fun i hi => ?_
      rw [Nat.testBit_and, Nat.zero_testBit]
      match i, hi with
      | 0, _ => simp [a0]
      | 1, _ => simp [a1]
      | 2, _ => simp [a2]
      | 3, _ => simp [a3]
      | 4, _ => simp [a4]
      | 5, _ => simp [a5]
    rw [this]; rfl
  · intro h
    have h0 : st &&& 63 = 0 := by omega
    rw [← sevI_and, h0]; decide
end Go.Proofs.YtijjkonephjodaaGreatDoor

namespace Go.Proofs.YtijjkonephjodaaGreatDoor
open Go.RowKit

theorem sub255 {x : Nat} (h : x < 256) (i : Nat) : (255 - x).testBit i = (decide (i < 8) && !x.testBit i) := by
  rw [show 255 - x = 2 ^ 8 - (x + 1) by omega, Nat.testBit_two_pow_sub_succ (by omega)]
theorem tb7 (i : Nat) : (7 : Nat).testBit i = decide (i < 3) := by
  rw [show (7 : Nat) = 2 ^ 3 - 1 from rfl, Nat.testBit_two_pow_sub_one]
theorem and_zero_of {a b : Nat} (h : ∀ i, a.testBit i = true → b.testBit i = true → False) : a &&& b = 0 := by
  refine Nat.eq_of_testBit_eq fun i => ?_
  rw [Nat.testBit_and, Nat.zero_testBit]
  cases ha : a.testBit i with
  | false => rfl
  | true =>
    cases hb : b.testBit i with
    | false => rfl
    | true => exact (h i ha hb).elim
theorem tb56 (i : Nat) (h : (56 : Nat).testBit i = true) : 3 ≤ i ∧ i < 6 := by
  rcases Nat.lt_or_ge i 6 with h6 | h6
  · refine ⟨?_, h6⟩
    match i, h6 with
    | 0, _ | 1, _ | 2, _ => simp [Nat.testBit] at h
    | 3, _ | 4, _ | 5, _ => omega
  · rw [Nat.testBit_lt_two_pow (Nat.lt_of_lt_of_le (show 56 < 2 ^ 6 by decide) (Nat.pow_le_pow_right (by omega) h6))] at h
    cases h
theorem next0 (S : Sen) (x : Int) (i : Nat) : (nextN S 0 x).testBit i = (decide (i < 6) && (S.mask.testBit i && decide (0 ≤ beyI S i x))) := by
  rw [nextN, testBit_ofBits]
  simp [nextB]
/-- More extreme readings reach no fewer thresholds on their side. -/
theorem ord_laws (S : Sen) {xa xb : Int} (hx : xa ≤ xb) (ho : ordB S.mask S.num = true) :
    ((nextN S 0 xb &&& 7) &&& (255 - nextN S 0 xa)) = 0 ∧ ((nextN S 0 xa &&& 56) &&& (255 - nextN S 0 xb)) = 0 ∧ (nextN S 0 xa &&& 7 = 0 ∨ nextN S 0 xa &&& 56 = 0) := by
  have la : nextN S 0 xa < 256 := by have := nextN_lt S 0 xa; omega
  have lb : nextN S 0 xb < 256 := by have := nextN_lt S 0 xb; omega
  refine ⟨and_zero_of fun i h1 h2 => ?_, and_zero_of fun i h1 h2 => ?_, ?_⟩
  · rw [Nat.testBit_and, tb7, next0] at h1
    rw [sub255 la, next0] at h2
    simp at h1 h2
    obtain ⟨⟨h6, hm, hb⟩, h3⟩ := h1
    rcases h2.2 with h | h | h
    · omega
    · rw [hm] at h; cases h
    · unfold beyI at h hb
      rw [if_pos (by omega)] at h hb
      omega
  · rw [Nat.testBit_and, next0] at h1
    rw [sub255 lb, next0] at h2
    simp only [Bool.and_eq_true] at h1
    have ⟨h3, h6⟩ := tb56 i h1.2
    simp at h1 h2
    obtain ⟨⟨_, hm, hb⟩, _⟩ := h1
    rcases h2.2 with h | h | h
    · omega
    · rw [hm] at h; cases h
    · unfold beyI at h hb
      rw [if_neg (by omega)] at h hb
      omega
  · by_cases h0 : nextN S 0 xa &&& 7 = 0
    · exact .inl h0
    · refine .inr (and_zero_of fun j h1 h2 => h0 (and_zero_of fun i h3 h4 => ?_))
      rw [tb7] at h4
      have ⟨j3, j6⟩ := tb56 j h2
      rw [next0] at h1 h3
      simp at h1 h3 h4
      have hp := ordB_get ho (show i < j by omega) j6 h3.2.1 h1.2.1
      have b1 := h1.2.2
      have b3 := h3.2.2
      unfold beyI at b1 b3
      rw [if_neg (by omega)] at b1
      rw [if_pos (by omega)] at b3
      simp [pairB] at hp
      omega
theorem validB_ana {S : Sen} {P : List Pt} (h : validB S P = true) (hd : S.disc = false) : anaB S P = true ∧ ordB S.mask S.num = true ∧ S.mask < 64 ∧ zeroRaw S = true := by
  refine ⟨by rw [anaB, hd, h]; rfl, ?_⟩
  unfold validB at h
  rw [hd] at h
  simp only [Bool.and_eq_true, Bool.false_eq_true, if_false, analogB, decide_eq_true_eq] at h
  exact ⟨h.2.2, h.2.1.1.1.1.2, h.2.1.2⟩
end Go.Proofs.YtijjkonephjodaaGreatDoor

namespace Go.Proofs.YtijjkonephjodaaGreatDoor
open Go.RowKit

theorem next_bit (S : Sen) (st : Nat) (x : Int) (i : Nat) : (nextN S st x).testBit i = (decide (i < 6) && (S.mask.testBit i && (decide (0 ≤ beyI S i x) || st.testBit i && decide (-(hysI S i : Int) ≤ beyI S i x)))) := by
  rw [nextN, testBit_ofBits]; rfl
/-- A more severe threshold is only asserted while the less severe ones on its side are. -/
def Nest (m st : Nat) : Prop := ∀ k j, j < k → k < 6 → (k < 3 ∨ 3 ≤ j) → st.testBit k = true → m.testBit j = true → st.testBit j = true
theorem Nest.zero (m : Nat) : Nest m 0 := fun k j _ _ _ h _ => by simp at h
theorem Nest.next {S : Sen} {st : Nat} (h : Nest S.mask st) (ho : ordB S.mask S.num = true) (x : Int) : Nest S.mask (nextN S st x) := by
  intro k j hj hk hs hb hm
  rw [next_bit] at hb ⊢
  simp only [Bool.and_eq_true, decide_eq_true_eq, Bool.or_eq_true] at hb ⊢
  obtain ⟨_, hmk, hb⟩ := hb
  refine ⟨by omega, hm, ?_⟩
  have hp := ordB_get ho hj hk hm hmk
  simp only [pairB, Bool.not_eq_true', Bool.or_eq_false_iff, decide_eq_false_iff_not] at hp
  have hbey : beyI S k x ≤ beyI S j x := by
    unfold beyI
    rcases hs with h3 | h3
    · rw [if_pos (by omega), if_pos (by omega)]; omega
    · rw [if_neg (by omega), if_neg (by omega)]; omega
  have hhys : hysI S k = hysI S j := by
    unfold hysI
    rcases hs with h3 | h3
    · rw [if_pos (by omega), if_pos (by omega)]
    · rw [if_neg (by omega), if_neg (by omega)]
  rcases hb with hb | ⟨hb1, hb2⟩
  · exact .inl (by omega)
  · exact .inr ⟨h k j hj hk hs hb1 hm, by omega⟩
/-- A state has no bit beside the mask. -/
theorem next_mask (S : Sen) (st : Nat) (x : Int) (hm : S.mask < 256) : nextN S st x &&& (255 - S.mask) = 0 := and_zero_of fun i h1 h2 => by
  rw [next_bit] at h1
  rw [sub255 hm] at h2
  simp at h1 h2
  rw [h1.2.1] at h2
  exact absurd h2.2 (by simp)
theorem and_mask (st m : Nat) (hm : m < 256) : (st &&& m) &&& (255 - m) = 0 := and_zero_of fun i h1 h2 => by
  rw [Nat.testBit_and] at h1
  rw [sub255 hm] at h2
  simp at h1 h2
  rw [h1.2] at h2
  exact absurd h2.2 (by simp)
theorem next_again (S : Sen) (st : Nat) (x : Int) : nextN S (nextN S st x) x = nextN S st x := Nat.eq_of_testBit_eq fun i => by
  rw [next_bit, next_bit]
  cases decide (i < 6) <;> cases S.mask.testBit i <;> cases decide (0 ≤ beyI S i x) <;> cases st.testBit i <;> cases decide (-(hysI S i : Int) ≤ beyI S i x) <;> rfl
theorem reached_in (S : Sen) (st : Nat) (x : Int) : nextN S 0 x &&& (255 - nextN S st x) = 0 := and_zero_of fun i h1 h2 => by
  rw [next_bit] at h1
  rw [sub255 (by have := nextN_lt S st x; omega), next_bit] at h2
  revert h1 h2
  simp only [Nat.zero_testBit]
  cases decide (i < 8) <;> cases decide (i < 6) <;> cases S.mask.testBit i <;> cases decide (0 ≤ beyI S i x) <;> cases st.testBit i <;> cases decide (-(hysI S i : Int) ≤ beyI S i x) <;> simp
/-- Without hysteresis. -/
theorem plain_next (S : Sen) (st : Nat) (x : Int) : nextN S.plain st x = nextN S 0 x ∧ nextN S.plain 0 x = nextN S 0 x := by
  have hb : ∀ i, beyI S.plain i x = beyI S i x := fun i => rfl
  have hh : ∀ i, hysI S.plain i = 0 := fun i => by unfold hysI; split <;> rfl
  constructor <;>
  · refine Nat.eq_of_testBit_eq fun i => ?_
    have hm : S.plain.mask = S.mask := rfl
    rw [next_bit, next_bit, hb, hh, hm]
    simp only [Nat.zero_testBit, Int.ofNat_zero, Int.neg_zero, Bool.false_and, Bool.or_false]
    try (cases st.testBit i <;> cases decide (0 ≤ beyI S i x) <;> simp)
theorem step_plain {S : Sen} {P : List Pt} (h : anaB S P = true) (u x : Nat) (hu : u &&& (255 - S.mask) = 0) : stepN S.plain P u x = (nextN S 0 (numI S.conv.sgn x), chL u (nextN S 0 (numI S.conv.sgn x)) 6, 0) := by
  rw [stepN, if_pos (ana_plain h), if_pos (show u &&& (255 - S.plain.mask) = 0 from hu), show S.plain.conv = S.conv from rfl, (plain_next S u _).1]
theorem reach_plain {S : Sen} {P : List Pt} (h : anaB S P = true) (x : Nat) : reachN S.plain P x = (nextN S 0 (numI S.conv.sgn x), 0) := by
  rw [reachN, if_pos (ana_plain h), show S.plain.conv = S.conv from rfl, (plain_next S 0 _).2]
theorem plain_over (S : Sen) (st : Nat) (x : Int) (hst : st < 256) : nextN S st x &&& (255 - (nextN S 0 x ||| st)) = 0 := and_zero_of fun i h1 h2 => by
  rw [next_bit] at h1
  rw [sub255 (Nat.or_lt_two_pow (n := 8) (by have := nextN_lt S 0 x; omega) (by omega)), Nat.testBit_or, next_bit] at h2
  revert h1 h2
  simp only [Nat.zero_testBit]
  cases decide (i < 8) <;> cases decide (i < 6) <;> cases S.mask.testBit i <;> cases decide (0 ≤ beyI S i x) <;> cases st.testBit i <;> cases decide (-(hysI S i : Int) ≤ beyI S i x) <;> simp
/-- The i-th change. -/
theorem chL_get (a b : Nat) : ∀ n i, i < (chL a b n).length → ∃ k, k < n ∧ (chL a b n).getD i default = ⟨k, b.testBit k⟩ ∧ (a ^^^ b).testBit k = true ∧ (chL a b k).length = i
  | 0, i, h => by simp [chL] at h
  | n + 1, i, h => by
    rcases Nat.lt_or_ge i (chL a b n).length with h1 | h1
    · obtain ⟨k, hk, he, hb, hl⟩ := chL_get a b n i h1
      refine ⟨k, by omega, ?_, hb, hl⟩
      rw [chL, List.getD_eq_getElem?_getD, List.getElem?_append_left h1, ← List.getD_eq_getElem?_getD, he]
    · rw [chL, List.length_append] at h
      cases hb : (a ^^^ b).testBit n with
      | false => rw [hb] at h; simp at h; omega
      | true =>
        rw [hb] at h
        simp at h
        have hi : i = (chL a b n).length := by omega
        subst hi
        exact ⟨n, by omega, by rw [chL, hb]; simp [List.getD_eq_getElem?_getD], hb, rfl⟩
theorem chL_mono (a b : Nat) {p k : Nat} (h : p ≤ k) : (chL a b p).length ≤ (chL a b k).length := by
  induction h with
  | refl => exact Nat.le_refl _
  | step h ih => rw [chL_len]; omega
theorem mid_same (a b : Nat) {p k : Nat} (h : p ≤ k) (hl : (chL a b p).length = (chL a b k).length) : mid a b p = mid a b k := by
  induction h with
  | refl => rfl
  | step h ih =>
    rename_i k
    have h1 := chL_mono a b h
    rw [chL_len] at hl
    rw [ih (by omega)]
    refine Nat.eq_of_testBit_eq fun i => ?_
    rw [mid_bit, mid_bit]
    rcases Nat.lt_trichotomy i k with h | h | h
    · simp [h, Nat.lt_succ_of_lt h]
    · subst h
      have hx : (a.testBit i ^^ b.testBit i) = false := by
        cases hh : (a.testBit i ^^ b.testBit i) with
        | false => rfl
        | true => rw [hh] at hl; simp at hl; omega
      simp
      revert hx
      cases a.testBit i <;> cases b.testBit i <;> simp
    · simp [show ¬ i < k by omega, show ¬ i < k + 1 by omega]
theorem mid_succ (a b k : Nat) (h : (a ^^^ b).testBit k = true) : mid a b (k + 1) = mid a b k ^^^ 2 ^ k := Nat.eq_of_testBit_eq fun i => by
  rw [Nat.testBit_xor] at h
  rw [Nat.testBit_xor, mid_bit, mid_bit, Nat.testBit_two_pow]
  rcases Nat.lt_trichotomy i k with h2 | h2 | h2
  · simp [h2, Nat.lt_succ_of_lt h2, show k ≠ i by omega]
  · subst h2
    simp
    revert h
    cases a.testBit i <;> cases b.testBit i <;> simp
  · simp [show ¬ i < k by omega, show ¬ i < k + 1 by omega, show k ≠ i by omega]
end Go.Proofs.YtijjkonephjodaaGreatDoor

namespace Go.Proofs.YtijjkonephjodaaGreatDoor
open Go.RowKit

set_option maxRecDepth 100000 in
theorem refAnalog_ok (w : World) (S : Sen) (P : List Pt) (hS : IsSen w S P) :
    Calls Tryz.prog 141 #[.agg S.cells] w fun e w' => e = .returned (.bool (anaB S P)) ∧ Mods [] w w' := by
  have HS := Lib.hid hS
  clear hS
  have BB := Lib.hid (SenBox.new w S)
  have M0 := Lib.hid ((Mods.refl (S := []) (w := w)).alloc (.cells S.cells 40))
  obtain ⟨_, _, _, _, _, _, x6⟩ := S.headc
  have HA := Lib.hid (show anaB S P = (!S.disc && validB S P) from rfl)
  cases hd : S.disc with
  | true =>
    rw [hd] at x6
    rw [hd] at HA
    clear hd
    go_enter Tryz.func141, Tryz.ntmps141
    go_wp2_with fail
    go_ret
    exact ⟨ret_bool (by rw [HA.out]; rfl), M0.out⟩
  | false =>
    rw [hd] at x6
    rw [hd] at HA
    clear hd
    go_enter Tryz.func141, Tryz.ntmps141
    go_wp2_with (refine wpList_load_senG (by rfl) (.tmp 1) rfl BB.out (by rfl) ?_)
    refine (refValid_ok _ S P (HS.out.mods0 M0.out)).mono ?_
    rintro e w2 ⟨rfl, M2⟩
    go_wp2
    go_ret
    exact ⟨ret_bool (by rw [HA.out]; rfl), M0.out.trans M2⟩
def reachesB (S : Sen) (i : Nat) (x : Int) : Bool := decide (0 ≤ beyI S i x)
def leavesB (S : Sen) (i : Nat) (x : Int) : Bool := decide (beyI S i x < -(hysI S i : Int))
set_option maxRecDepth 100000 in
theorem reaches_ok (w : World) (S : Sen) (P : List Pt) (hS : IsSen w S P) (i : Nat) (hi : i < 6) (x : Int) (_hx : -128 ≤ x ∧ x ≤ 255) :
    Calls Tryz.prog 142 #[.agg S.cells, .int .i64 i, .int .i64 x] w fun e w' => e = .returned (.bool (reachesB S i x)) ∧ Mods [] w w' := by
  have HS := Lib.hid hS
  have hn := Sen.num_bd hS i
  clear hS
  have BB := Lib.hid (SenBox.new w S)
  have M0 := Lib.hid ((Mods.refl (S := []) (w := w)).alloc (.cells S.cells 40))
  go_enter Tryz.func142, Tryz.ntmps142
  go_wp2_with (refine wpList_load_sen rfl (.tmp 3) rfl BB.out (by rfl) ?_)
  refine (limit_ok _ S P (HS.out.mods0 M0.out) i hi).mono ?_
  rintro e w2 ⟨rfl, M2⟩
  have HM := Lib.hid (M0.out.trans M2)
  clear M2
  by_cases h3 : i ≤ 2
  · have d : decide ((i : Int) < 3) = true := decide_eq_true (by omega)
    have HR := Lib.hid (show reachesB S i x = decide (x ≤ S.num i) by unfold reachesB beyI; rw [if_pos h3]; exact decide_eq_decide.2 ⟨fun h => by omega, fun h => by omega⟩)
    go_wp2_with fail
    go_ret
    exact ⟨ret_bool (by rw [HR.out]), HM.out⟩
  · have d : decide ((i : Int) < 3) = false := decide_eq_false (by omega)
    have HR := Lib.hid (show reachesB S i x = decide (S.num i ≤ x) by unfold reachesB beyI; rw [if_neg h3]; exact decide_eq_decide.2 ⟨fun h => by omega, fun h => by omega⟩)
    go_wp2_with fail
    go_ret
    exact ⟨ret_bool (by rw [HR.out]), HM.out⟩
set_option maxRecDepth 100000 in
theorem leaves_ok (w : World) (S : Sen) (P : List Pt) (hS : IsSen w S P) (i : Nat) (hi : i < 6) (x : Int) (_hx : -128 ≤ x ∧ x ≤ 255) :
    Calls Tryz.prog 143 #[.agg S.cells, .int .i64 i, .int .i64 x] w fun e w' => e = .returned (.bool (leavesB S i x)) ∧ Mods [] w w' := by
  have HS := Lib.hid hS
  have hn := Sen.num_bd hS i
  have hl := hS.hl
  have hu := hS.hu
  clear hS
  have BB := Lib.hid (SenBox.new w S)
  have M0 := Lib.hid ((Mods.refl (S := []) (w := w)).alloc (.cells S.cells 40))
  go_enter Tryz.func143, Tryz.ntmps143
  go_wp2_with (refine wpList_load_sen rfl (.tmp 3) rfl BB.out (by rfl) ?_)
  refine (limit_ok _ S P (HS.out.mods0 M0.out) i hi).mono ?_
  rintro e w2 ⟨rfl, M2⟩
  have c21 := (BB.out.mods0 M2).rest.1
  have c22 := (BB.out.mods0 M2).rest.2.1
  have HM := Lib.hid (M0.out.trans M2)
  clear M2
  by_cases h3 : i ≤ 2
  · have d : decide ((i : Int) < 3) = true := decide_eq_true (by omega)
    have HR := Lib.hid (show leavesB S i x = decide (S.num i + (S.hl : Int) < x) by unfold leavesB beyI hysI; rw [if_pos h3, if_pos h3]; exact decide_eq_decide.2 ⟨fun h => by omega, fun h => by omega⟩)
    go_wp2_with fail
    go_ret
    exact ⟨ret_bool (by rw [HR.out]), HM.out⟩
  · have d : decide ((i : Int) < 3) = false := decide_eq_false (by omega)
    have HR := Lib.hid (show leavesB S i x = decide (x < S.num i - (S.hu : Int)) by unfold leavesB beyI hysI; rw [if_neg h3, if_neg h3]; exact decide_eq_decide.2 ⟨fun h => by omega, fun h => by omega⟩)
    go_wp2_with fail
    go_ret
    exact ⟨ret_bool (by rw [HR.out]), HM.out⟩
set_option maxRecDepth 100000 in
theorem refSeverity_ok (st : Nat) (hst : st < 256) (w : World) :
    Calls Tryz.prog 110 #[.int .u8 st] w fun e w' => e = .returned (.int .i64 (sevI st)) ∧ Mods [] w w' := by
  have hw := wrap16 (m := st) (by omega)
  go_enter Tryz.func110, Tryz.ntmps110
  go_wp2_with fail
  go_loopw [3] (fun i wr => ∃ k : Int, -1 ≤ k ∧ k ≤ 2 ∧ i = .int .i64 k ∧ wr = w ∧ Hid (∀ j : Nat, k + 1 < j → j ≤ 3 → sevB st j = false)) (fun i _ => (intOf i + 1).toNat)
  case atStart => exact ⟨2, by omega, by omega, rfl, rfl, fun j h1 h2 => by omega⟩
  case round =>
    obtain ⟨k, hk0, hk, rfl, rfl, hs⟩ := hrel
    by_cases hz : 0 ≤ k
    · obtain ⟨j, rfl⟩ := Int.eq_ofNat_of_zero_le hz
      have hj : j ≤ 2 := by omega
      have d0 : decide ((0 : Int) ≤ (j : Int)) = true := decide_eq_true (by omega)
      have HB := Lib.hid (show sevB st (j + 1) = (st.testBit j || st.testBit (j + 3)) from rfl)
      go_wp2_with fail
      refine (has_ok st j (by omega) (by omega) _).mono ?_
      rintro e w3 ⟨rfl, rfl⟩
      cases hb : st.testBit j with
      | true =>
        rw [hb, Bool.true_or] at HB
        clear hb
        have HF := Lib.hid (show sevI st = (j : Int) + 1 by
          have h3 := hs.out 3
          have h2 := hs.out 2
          have hv := HB.out
          unfold sevI
          rcases (show j = 0 ∨ j = 1 ∨ j = 2 by omega) with rfl | rfl | rfl
          · rw [h3 (by omega) (by omega), h2 (by omega) (by omega), show sevB st 1 = true from hv]; rfl
          · rw [h3 (by omega) (by omega), show sevB st 2 = true from hv]; rfl
          · rw [show sevB st 3 = true from hv]; rfl)
        go_wp2_with fail
        go_ret
        exact ⟨ret_int (by rw [HF.out]), Mods.refl⟩
      | false =>
        rw [hb, Bool.false_or] at HB
        clear hb
        go_wp2_with fail
        rw [show ((j : Int) + 3) = ((j + 3 : Nat) : Int) by omega]
        refine (has_ok st (j + 3) (by omega) (by omega) _).mono ?_
        rintro e w4 ⟨rfl, rfl⟩
        cases hb : st.testBit (j + 3) with
        | true =>
          rw [hb] at HB
          clear hb
          have HF := Lib.hid (show sevI st = (j : Int) + 1 by
            have h3 := hs.out 3
            have h2 := hs.out 2
            have hv := HB.out
            unfold sevI
            rcases (show j = 0 ∨ j = 1 ∨ j = 2 by omega) with rfl | rfl | rfl
            · rw [h3 (by omega) (by omega), h2 (by omega) (by omega), show sevB st 1 = true from hv]; rfl
            · rw [h3 (by omega) (by omega), show sevB st 2 = true from hv]; rfl
            · rw [show sevB st 3 = true from hv]; rfl)
          go_wp2_with fail
          go_ret
          exact ⟨ret_int (by rw [HF.out]), Mods.refl⟩
        | false =>
          rw [hb] at HB
          clear hb
          go_wp2_with fail
          exact ⟨⟨(j : Int) - 1, by omega, by omega, by go_num, trivial, Lib.hid (fun q h1 h2 => by
            by_cases h : q = j + 1
            · rw [h]; exact HB.out
            · exact hs.out q (by omega) h2)⟩, by simp only [intOf]; omega⟩
    · have d0 : decide ((0 : Int) ≤ k) = false := decide_eq_false (by omega)
      have HF := Lib.hid (show sevI st = 0 by
        unfold sevI
        rw [hs.out 3 (by omega) (by omega), hs.out 2 (by omega) (by omega), hs.out 1 (by omega) (by omega)]; rfl)
      go_wp2_with fail
      go_ret
      exact ⟨ret_int (by rw [HF.out]), Mods.refl⟩
end Go.Proofs.YtijjkonephjodaaGreatDoor

namespace Go.Proofs.YtijjkonephjodaaGreatDoor
open Go.RowKit

set_option maxRecDepth 100000 in
set_option maxHeartbeats 2000000 in
theorem nearI_ok (w : World) (b : Nat) (v : Value) (L : List Int) (n : Nat) (h : IsDice w b v L n) (S : Sen) (P : List Pt) (hS : IsSen w S P) :
    Calls Tryz.prog 54 #[.pointer (some ⟨b, 0, none⟩), .agg S.cells] w fun e w' => RolledBy w b v L e w' := by
  have hbl := h.lt
  have H := Lib.hid h
  have HR := Lib.hid hS.raw
  clear h hS
  go_enter Tryz.func54, Tryz.ntmps54
  go_wp2_with fail
  have B1 := SenBox.new w S
  have M1 := (Mods.refl (S := []) (w := w)).alloc (.cells S.cells 40)
  have D1 := H.out.mods0 M1
  have hg : w.heap.size ≠ b := by omega
  generalize w.alloc (.cells S.cells 40) = w1 at B1 M1 D1 ⊢
  generalize hgg : w.heap.size = g at B1 hg ⊢
  clear hgg hbl
  refine (bool_ok w1 b v L n D1 3 (by omega) (by omega)).mono ?_
  rintro e w2 ⟨r, n2, rfl, D2, M2⟩
  have B2 := B1.mods M2 (by simp; exact hg)
  have MM := Lib.hid ((M1.nil (S := [b])).trans M2)
  clear B1 M1 M2 D1
  cases r with
  | true =>
    go_wp2_with fail
    refine (byte_ok w2 b v L n2 D2).mono ?_
    rintro e w3 ⟨r, n3, rfl, r0, r1, D3, M3⟩
    go_wp2
    go_ret
    exact ⟨r, n3, rfl, r0, r1, D3, MM.out.trans M3⟩
  | false =>
    have DD := Lib.hid D2
    have HB := Lib.hid B2
    clear D2 B2
    go_wp2_with fail
    go_region_law (first
      | (go_simp; go_at_call 24; refine (next_ok w3 b v L n3 D3.out 9 (by omega) (by omega)).mono ?_; rintro e w4 ⟨q, n4, rfl, q0, q1, D4, M4⟩; have c4 : w4.cell? ⟨g, 15 + k, none⟩ = some (.int .u8 x) := M4.cell c3 (by simp; exact hg); have M4 := Lib.hid (M3.out.trans M4); have D4 := Lib.hid D4)
      | (go_simp; go_at_call 24; refine (next_ok (w2.drewN 1) b v L n2 (DD.out.mods0 (Mods.refl.drewN 1)) 6 (by omega) (by omega)).mono ?_; rintro e w3 ⟨r, n3, rfl, r0, r1, D3, M3⟩; obtain ⟨k, rfl⟩ := Int.eq_ofNat_of_zero_le r0; have hk : k < 6 := (by omega); have hx := HR.out k; have B3 := Lib.hid ((HB.out.mods0 (Mods.refl.drewN 1)).mods M3 (by simp; exact hg)); have c3 : w3.cell? ⟨g, 15 + k, none⟩ = some (.int .u8 (S.raw k)) := B3.out.craw hk; generalize S.raw k = x at c3 hx; have M3 := Lib.hid ((MM.out.trans (Mods.refl.drewN 1)).trans M3); have D3 := Lib.hid D3))
    all_goals
      go_wp2
      go_ret
      exact ⟨_, n4, rfl, by rw [IntKind.wrap_u8]; omega, by rw [IntKind.wrap_u8]; omega, D4.out.mods0 (by first | exact Mods.refl.drew | exact Mods.refl), by first | exact M4.out | exact M4.out.drew⟩
end Go.Proofs.YtijjkonephjodaaGreatDoor

namespace Go.Proofs.YtijjkonephjodaaGreatDoor
open Go.RowKit

theorem and_bit8 {st k : Nat} (hst : st < 256) (hk : k < 8) : (bits .and .u8 (st : Int) ((2 ^ k : Nat) : Int) != 0) = st.testBit k := by
  have hp : 2 ^ k < 256 := Nat.pow_lt_pow_right (a := 2) (n := 8) (by omega) (by omega)
  rw [u8_and_nat _ _ hst hp, nat_bit, tb]
  have h0 : 0 < 2 ^ k := Nat.pow_pos (by omega)
  rcases Nat.mod_two_eq_zero_or_one (st / 2 ^ k) with h | h
  · simp [h]
  · rw [h]
    generalize 2 ^ k = p at h0
    simp
    omega
theorem chL_self (a : Nat) : ∀ k, chL a a k = []
  | 0 => rfl
  | k + 1 => by rw [chL, chL_self a k]; simp
theorem mid_zero (a b : Nat) : mid a b 0 = a := Nat.eq_of_testBit_eq fun i => by rw [mid_bit]; simp
theorem mid_lt {a b n : Nat} (ha : a < 2 ^ n) (hb : b < 2 ^ n) (k : Nat) : mid a b k < 2 ^ n := Nat.xor_lt_two_pow ha (Nat.lt_of_le_of_lt (Nat.mod_le _ _) (Nat.xor_lt_two_pow ha hb))
end Go.Proofs.YtijjkonephjodaaGreatDoor

namespace Go.Proofs.YtijjkonephjodaaGreatDoor
open Go.RowKit

theorem pow8 {j : Nat} (hj : j < 8) : IntKind.u8.wrap ((2 : Int) ^ j) = ((2 ^ j : Nat) : Int) := by
  rw [IntKind.wrap_u8]
  have h1 : 2 ^ j < 256 := Nat.pow_lt_pow_right (a := 2) (n := 8) (by omega) (by omega)
  have h2 : ((2 ^ j : Nat) : Int) = (2 : Int) ^ j := by simp
  rw [← h2]; exact Int.emod_eq_of_lt (Int.natCast_nonneg _) (Int.ofNat_lt.2 h1)
end Go.Proofs.YtijjkonephjodaaGreatDoor
