/- A square root in floating point: what is needed of its size. No program stands here. -/
import Derived.Laws.FloatArith
namespace Go.Proofs.Ytgjjmiaiclhidaa
open Ieee

theorem lb (n : Nat) (h : n ≠ 0) : 2 ^ n.log2 ≤ n ∧ n < 2 ^ (n.log2 + 1) := ⟨Nat.log2_self_le h, Nat.lt_log2_self⟩
/-- A cut without anything to drop. -/
theorem cut_zero (n : Nat) : Toward.even.cut false n 0 = n := by
  unfold Toward.cut
  simp [Nat.mod_one]
theorem cut_le (n d : Nat) (hd : d ≤ n.log2) : n / 2 ^ d ≤ Toward.even.cut false n d ∧ Toward.even.cut false n d ≤ n / 2 ^ d + 1 := by
  unfold Toward.cut
  have e : min d (n.log2 + 2) = d := by omega
  rw [e, Nat.one_shiftLeft]
  constructor
  · exact Nat.le_add_right _ _
  · have : ∀ b : Bool, b.toNat ≤ 1 := by decide
    exact Nat.add_le_add_left (this _) _
/-- The kept digits of a number: 53 of them, or a power of two. -/
theorem kept_bd (mag : Nat) (h : mag ≠ 0) (k d : Nat) (hk : k + mag.log2 = 52 + d) (h0 : k = 0 ∨ d = 0) :
    2 ^ 52 ≤ Toward.even.cut false (mag <<< k) d ∧ Toward.even.cut false (mag <<< k) d ≤ 2 ^ 53 := by
  have ⟨h1, h2⟩ := lb mag h
  rcases h0 with rfl | rfl
  · rw [Nat.shiftLeft_zero]
    have hc := cut_le mag d (by omega)
    have e : 2 ^ mag.log2 = 2 ^ 52 * 2 ^ d := by rw [← Nat.pow_add]; congr 1; omega
    have e2 : 2 ^ (mag.log2 + 1) = 2 ^ 53 * 2 ^ d := by rw [← Nat.pow_add]; congr 1; omega
    have p : 0 < 2 ^ d := Nat.two_pow_pos _
    have a1 : 2 ^ 52 ≤ mag / 2 ^ d := (Nat.le_div_iff_mul_le p).2 (by rw [← e]; exact h1)
    have a2 : mag / 2 ^ d < 2 ^ 53 := (Nat.div_lt_iff_lt_mul p).2 (by rw [← e2]; exact h2)
    omega
  · rw [cut_zero, Nat.shiftLeft_eq]
    have e : 2 ^ mag.log2 * 2 ^ k = 2 ^ 52 := by rw [← Nat.pow_add]; congr 1; omega
    have e2 : 2 ^ (mag.log2 + 1) * 2 ^ k = 2 ^ 53 := by rw [← Nat.pow_add]; congr 1; omega
    have p : 0 < 2 ^ k := Nat.two_pow_pos _
    have a1 := Nat.mul_le_mul_right (2 ^ k) h1
    have a2 := Nat.mul_lt_mul_of_pos_right h2 p
    omega
theorem leastP : double.leastPlace = -1074 := by decide
theorem binadeP : double.binade = 2 ^ 52 := by decide
theorem infP : double.infRung = 2047 * 2 ^ 52 := by decide
theorem signP : double.signWeight = 2 ^ 63 := by decide
theorem word_false (f : Format) (r : Nat) : f.word false r = r := by unfold Format.word; simp
theorem fracP : double.fractionBits = 52 := rfl
/-- What the nearest word stands for. -/
theorem read_nearest (mag : Nat) (place : Int) (h : mag ≠ 0) (h1 : -1000 ≤ place + mag.log2) (h2 : place + mag.log2 ≤ 900) :
    ∃ (m : Nat) (p : Int), double.read (double.nearest false mag place) = .number false m p ∧ 2 ^ 52 ≤ m ∧ m < 2 ^ 53 ∧ (p = place + mag.log2 - 52 ∨ (p = place + mag.log2 - 51 ∧ m = 2 ^ 52)) := by
  have hlast : max (place + mag.log2 - double.fractionBits) double.leastPlace = place + mag.log2 - 52 := by
    rw [leastP, fracP]; omega
  have hk : ∃ k : Nat, (place - (place + mag.log2 - 52)).toNat = k ∧ ∃ d : Nat, ((place + mag.log2 - 52) - place).toNat = d ∧ k + mag.log2 = 52 + d ∧ (k = 0 ∨ d = 0) := ⟨_, rfl, _, rfl, by omega, by omega⟩
  obtain ⟨k, hk1, d, hd1, hkd, h0⟩ := hk
  have hb := kept_bd mag h k d hkd h0
  have hN : double.nearest false mag place = min ((place + mag.log2 - 52 - (-1074)).toNat * 2 ^ 52 + Toward.even.cut false (mag <<< k) d) (2047 * 2 ^ 52) := by
    unfold Format.nearest
    rw [if_neg h]
    simp only [hlast]
    rw [hk1, hd1, leastP, binadeP, infP, word_false]
  generalize Toward.even.cut false (mag <<< k) d = kept at hb hN
  obtain ⟨t, ht⟩ : ∃ t : Nat, (place + mag.log2 - 52 - (-1074)).toNat = t ∧ (t : Int) = place + mag.log2 + 1022 := ⟨_, rfl, by omega⟩
  obtain ⟨ht1, ht2⟩ := ht
  rw [ht1] at hN
  have ht3 : t ≤ 1922 := by omega
  have hN2 : double.nearest false mag place = t * 2 ^ 52 + kept := by rw [hN]; omega
  rw [hN2]
  have hrung : (t * 2 ^ 52 + kept) % double.signWeight = t * 2 ^ 52 + kept := Nat.mod_eq_of_lt (by rw [signP]; omega)
  have hneg : ((t * 2 ^ 52 + kept) / double.signWeight % 2 == 1) = false := by
    rw [Nat.div_eq_of_lt (by rw [signP]; omega)]; rfl
  unfold Format.read
  simp only [hrung, hneg]
  rw [binadeP, infP, leastP, if_neg (by omega), if_pos (by omega)]
  by_cases hk53 : kept = 2 ^ 53
  · subst hk53
    refine ⟨_, _, rfl, by omega, by omega, .inr ⟨?_, by omega⟩⟩
    have : (t * 2 ^ 52 + 2 ^ 53) / 2 ^ 52 = t + 2 := by omega
    rw [this]; omega
  · refine ⟨_, _, rfl, by omega, by omega, .inl ?_⟩
    have : (t * 2 ^ 52 + kept) / 2 ^ 52 = t + 1 := by omega
    rw [this]; omega
theorem rootFrom_le (n : Nat) : ∀ (todo root : Nat), root * root ≤ n → Datum.rootFrom n todo root * Datum.rootFrom n todo root ≤ n
  | 0, root, h => h
  | todo + 1, root, h => by
    unfold Datum.rootFrom
    simp only
    split
    · rename_i h1; exact rootFrom_le n todo _ h1
    · exact rootFrom_le n todo _ h
theorem sq_lt {a b : Nat} (h : a * a ≤ b * b) : a ≤ b := by
  rcases Nat.lt_or_ge b a with h1 | h1
  · have := Nat.mul_lt_mul_of_lt_of_le h1 (Nat.le_of_lt h1) (by omega); omega
  · exact h1
/-- The root of a number that is at most 2^60. -/
theorem root_bd (m : Nat) (i : Int) (hm1 : 2 ^ 52 ≤ m) (hm2 : m < 2 ^ 53) (hi0 : -60 ≤ i) (hi : i ≤ 7 ∨ (i = 8 ∧ m = 2 ^ 52)) :
    ∃ (mag : Nat) (place : Int), Datum.root 54 (.number false m i) = some (.number false mag place) ∧ mag ≠ 0 ∧ place + mag.log2 ≤ 30 ∧ -1000 ≤ place + mag.log2 := by
  have hlog : m.log2 = 52 := by
    have ⟨a, b⟩ := lb m (by omega)
    rcases Nat.lt_trichotomy m.log2 52 with h | h | h
    · have := Nat.pow_le_pow_right (show 0 < 2 by omega) (show m.log2 + 1 ≤ 52 by omega); omega
    · exact h
    · have := Nat.pow_le_pow_right (show 0 < 2 by omega) (show 53 ≤ m.log2 by omega); omega
  unfold Datum.root
  simp only
  rw [if_neg (by omega), if_neg (by decide)]
  simp only [hlog, Nat.reduceMul, Nat.reduceSub]
  obtain ⟨c, hc⟩ : ∃ c : Nat, ((i - ((56 : Nat) : Int)) % 2).toNat = c := ⟨_, rfl⟩
  rw [hc]
  have hc2 : c ≤ 1 := by omega
  obtain ⟨t, ht⟩ : ∃ t : Nat, ((56 + c : Nat) : Int) - i = 2 * t := ⟨(((56 + c : Nat) : Int) - i).toNat / 2, by omega⟩
  have hplace : (i - ((56 + c : Nat) : Int)) / 2 - 1 = -(t : Int) - 1 := by omega
  have hn0 : m <<< (56 + c) ≠ 0 := by rw [Nat.shiftLeft_eq]; exact Nat.ne_of_gt (Nat.mul_pos (by omega) (Nat.two_pow_pos _))
  have hn : m <<< (56 + c) ≤ 2 ^ (30 + t) * 2 ^ (30 + t) := by
    rw [Nat.shiftLeft_eq, ← Nat.pow_add]
    rcases hi with h | ⟨h, h'⟩
    · have : m * 2 ^ (56 + c) ≤ 2 ^ 53 * 2 ^ (56 + c) := Nat.mul_le_mul_right _ (by omega)
      refine Nat.le_trans this ?_
      rw [← Nat.pow_add]
      exact Nat.pow_le_pow_right (by omega) (by omega)
    · rw [h', ← Nat.pow_add]
      exact Nat.pow_le_pow_right (by omega) (by omega)
  have hw := rootFrom_le (m <<< (56 + c)) ((m <<< (56 + c)).log2 / 2 + 1) 0 (by rw [Nat.zero_mul]; exact Nat.zero_le _)
  generalize Datum.rootFrom (m <<< (56 + c)) ((m <<< (56 + c)).log2 / 2 + 1) 0 = whole at hw
  generalize m <<< (56 + c) = n at hn0 hn hw
  have hle : whole ≤ 2 ^ (30 + t) := sq_lt (Nat.le_trans hw hn)
  refine ⟨_, _, rfl, ?_, ?_, ?_⟩
  · intro h0
    have hw0 : whole = 0 := by omega
    subst hw0
    have : ((0 * 0 != n).toNat) = 1 := by
      have : (0 * 0 != n) = true := by simp; omega
      rw [this]; rfl
    omega
  · rw [hplace]
    have hlg : (2 * whole + (whole * whole != n).toNat).log2 ≤ 31 + t := by
      have hb1 : ∀ b : Bool, b.toNat ≤ 1 := by decide
      rcases Nat.lt_or_ge (2 * whole + (whole * whole != n).toNat) (2 ^ (32 + t)) with h | h
      · by_cases h0 : 2 * whole + (whole * whole != n).toNat = 0
        · rw [h0]; simp
        · have := (Nat.log2_lt h0).2 h; omega
      · have := hb1 (whole * whole != n)
        have e : 2 ^ (32 + t) = 4 * 2 ^ (30 + t) := by rw [show 32 + t = 2 + (30 + t) by omega, Nat.pow_add]
        have p : 0 < 2 ^ (30 + t) := Nat.two_pow_pos _
        have : 2 ≤ 2 ^ (30 + t) := by
          have := Nat.pow_le_pow_right (show 0 < 2 by omega) (show 1 ≤ 30 + t by omega); omega
        omega
    omega
  · rw [hplace]; omega
theorem toInt_bd (m : Nat) (p : Int) (hm2 : m < 2 ^ 53) (hp : p ≤ -22 ∨ (p = -21 ∧ m = 2 ^ 52)) (hm1 : 2 ^ 52 ≤ m) : ∃ k : Nat, (Datum.number false m p).toInt .zero = some (k : Int) ∧ k ≤ 2147483648 := by
  unfold Datum.toInt Datum.integral
  simp only
  refine ⟨Toward.zero.cut false (m <<< p.toNat) (-p).toNat, ?_, ?_⟩
  · simp [signed]
  · have e0 : p.toNat = 0 := by omega
    rw [e0, Nat.shiftLeft_zero]
    unfold Toward.cut
    simp only [Bool.toNat_false, Nat.add_zero, Nat.one_shiftLeft]
    have hlog : 52 ≤ m.log2 := (Nat.le_log2 (by omega)).2 hm1
    rcases hp with h | ⟨h, h'⟩
    · have : 2 ^ 22 ≤ 2 ^ min (-p).toNat (m.log2 + 2) := Nat.pow_le_pow_right (by omega) (by omega)
      have h3 : m / 2 ^ min (-p).toNat (m.log2 + 2) ≤ m / 2 ^ 22 := Nat.div_le_div_left this (by omega)
      omega
    · have : 2 ^ 21 ≤ 2 ^ min (-p).toNat (m.log2 + 2) := Nat.pow_le_pow_right (by omega) (by omega)
      have h3 : m / 2 ^ min (-p).toNat (m.log2 + 2) ≤ m / 2 ^ 21 := Nat.div_le_div_left this (by omega)
      omega
/-- The guess: the root of a whole number, in floating point, made whole. -/
theorem guess (n : Nat) (h : n ≤ 1000000000000000000) :
    ∃ (r : Nat) (k : Nat), FloatKind.f64.format.sqrt (FloatKind.f64.nearest (n : Int)) = some r ∧ (FloatKind.f64.decode r).toInt .zero = some (k : Int) ∧ k ≤ 2147483648 := by
  have e : FloatKind.f64.nearest (n : Int) = double.nearest false n 0 := by
    unfold FloatKind.nearest FloatKind.encode
    have : decide ((n : Int) < 0) = false := decide_eq_false (by omega)
    rw [this]; rfl
  rw [e]
  by_cases h0 : n = 0
  · subst h0
    exact ⟨0, 0, by decide, by decide, by omega⟩
  · have hl : n.log2 ≤ 59 := by
      have := (Nat.log2_lt (n := n) (k := 60) h0).2 (by omega); omega
    obtain ⟨m, i, hr, hm1, hm2, hi⟩ := read_nearest n 0 h0 (by omega) (by omega)
    obtain ⟨mag, place, hrt, hmag, hp1, hp2⟩ := root_bd m i hm1 hm2 (by rcases hi with h | ⟨h, _⟩ <;> omega) (by rcases hi with h | ⟨h, h'⟩ <;> omega)
    have hs : FloatKind.f64.format.sqrt (double.nearest false n 0) = some (double.nearest false mag place) := by
      show ((double.read _).root (double.fractionBits + 2)).map double.write = _
      rw [hr]
      show (Datum.root 54 _).map _ = _
      rw [hrt]; rfl
    obtain ⟨m2, p2, hr2, hn1, hn2, hp⟩ := read_nearest mag place hmag hp2 (by omega)
    obtain ⟨k, hk1, hk2⟩ := toInt_bd m2 p2 hn2 (by rcases hp with h | ⟨h, h'⟩ <;> omega) hn1
    exact ⟨_, k, hs, by show (double.read _).toInt .zero = _; rw [hr2]; exact hk1, hk2⟩
end Go.Proofs.Ytgjjmiaiclhidaa
