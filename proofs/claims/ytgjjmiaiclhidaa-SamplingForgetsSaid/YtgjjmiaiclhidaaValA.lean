/- Joined texts. Fixed-point numbers, plain: limits, quotients rounded down, products, roots. No program stands here. | The values of raw readings, as plain data. No program stands here. | micro.Clamp, floor, Div and the reference's: contracts. | convert.ten, linear and the reference's ten: contracts. | micro.floor, Div, the reference's Div and Mul: contracts. | A square root in floating point: what is needed of its size. No program stands here. | micro.Root and the reference's: contracts. -/
import Derived.Test.YtgjjmiaiclhidaaBaseA
import Derived.IntWalk
import Derived.BigGuardPart
import Derived.Laws.FloatArith
import Derived.WalkLawsBesides
namespace Go.Proofs.Ytgjjmiaiclhidaa

theorem clampI_bd (x : Int) : -1000000000000 ≤ clampI x ∧ clampI x ≤ 1000000000000 := by unfold clampI; omega
theorem clampI_in {x : Int} (h1 : -1000000000000 ≤ x) (h2 : x ≤ 1000000000000) : clampI x = x := by unfold clampI; omega
theorem clampI_idem (x : Int) : clampI (clampI x) = clampI x := clampI_in (clampI_bd x).1 (clampI_bd x).2
theorem clampI_mono {x y : Int} (h : x ≤ y) : clampI x ≤ clampI y := by unfold clampI; omega

/-- A quotient rounded down, out of Go's. -/
theorem floor_pos (n d : Int) (hd : 0 < d) : (if n.tmod d < 0 then n.tdiv d - 1 else n.tdiv d) = n / d := by
  have h1 := Int.tmod_add_mul_tdiv n d
  have h2 : -d < n.tmod d := by have := Int.neg_tmod n d; have h6 := Int.tmod_lt_of_pos (-n) hd; omega
  have h3 := Int.tmod_lt_of_pos n hd
  symm
  have key : ∀ q r : Int, r + d * q = n → 0 ≤ r → r < d → n / d = q := by
    intro q r e hr0 hr1
    subst e
    rw [Int.add_mul_ediv_left _ _ (by omega), Int.ediv_eq_zero_of_lt hr0 hr1, Int.zero_add]
  rcases Int.lt_or_le n 0 with hn | hn
  · have h7 : n.tmod d ≤ 0 := by have := Int.neg_tmod n d; have h6 := Int.tmod_nonneg d (show 0 ≤ -n by omega); omega
    split
    · refine key _ (n.tmod d + d) ?_ (by omega) (by omega)
      rw [Int.mul_sub]; omega
    · exact key _ (n.tmod d) h1 (by omega) h3
  · have h7 := Int.tmod_nonneg d hn
    rw [if_neg (by omega)]
    exact key _ (n.tmod d) h1 h7 h3
/-- The bounds of a quotient. -/
theorem quot_bd (n d : Int) (hd : 0 < d) (B : Int) (h1 : -B ≤ n) (h2 : n ≤ B) : -B ≤ n / d ∧ n / d ≤ B := by
  have hB : 0 ≤ B := by omega
  constructor
  · rw [Int.le_ediv_iff_mul_le hd]
    have : -B * d ≤ -B * 1 := by
      rw [Int.neg_mul, Int.neg_mul]
      have := Int.mul_le_mul_of_nonneg_left (show (1 : Int) ≤ d by omega) hB
      omega
    omega
  · rcases Int.lt_or_le n 0 with hn | hn
    · have := Int.ediv_neg_of_neg_of_pos hn hd
      omega
    · have := Int.ediv_le_self d hn
      omega
theorem tquot_bd (n d : Int) (B : Int) (h1 : -B ≤ n) (h2 : n ≤ B) : -B ≤ n.tdiv d ∧ n.tdiv d ≤ B := by
  have h := Int.natAbs_tdiv n d
  have h' : (n.tdiv d).natAbs ≤ n.natAbs := by rw [h]; exact Nat.div_le_self _ _
  omega
/-- A quotient rounded down, of any sign. -/
def fdivI (n d : Int) : Int := if 0 < d then n / d else (-n) / (-d)
theorem fdivI_pos {n d : Int} (h : 0 < d) : fdivI n d = n / d := if_pos h
theorem fdivI_neg {n d : Int} (h : d < 0) : fdivI n d = (-n) / (-d) := if_neg (by omega)
theorem floor_any (n d : Int) (hd : d ≠ 0) : (if n.tmod d ≠ 0 ∧ (n < 0 ↔ ¬ d < 0) then n.tdiv d - 1 else n.tdiv d) = fdivI n d := by
  have key : ∀ n d : Int, 0 < d → (if n.tmod d ≠ 0 ∧ n < 0 then n.tdiv d - 1 else n.tdiv d) = n / d := by
    intro n d hd
    rw [← floor_pos n d hd]
    have h7 : n < 0 → n.tmod d ≤ 0 := fun hn => by have := Int.neg_tmod n d; have h6 := Int.tmod_nonneg d (show 0 ≤ -n by omega); omega
    have h8 : 0 ≤ n → 0 ≤ n.tmod d := fun hn => Int.tmod_nonneg d hn
    by_cases hn : n < 0
    · have := h7 hn
      by_cases hz : n.tmod d = 0
      · rw [if_neg (by simp [hz]), if_neg (by omega)]
      · rw [if_pos ⟨hz, hn⟩, if_pos (by omega)]
    · have := h8 (by omega)
      rw [if_neg (by simp [hn]), if_neg (by omega)]
  rcases Int.lt_or_gt_of_ne hd with h | h
  · rw [fdivI_neg h, ← key (-n) (-d) (by omega)]
    have e1 : (-n).tmod (-d) = -(n.tmod d) := by rw [Int.tmod_neg, Int.neg_tmod]
    have e2 : (-n).tdiv (-d) = n.tdiv d := by rw [Int.tdiv_neg, Int.neg_tdiv, Int.neg_neg]
    rw [e1, e2]
    have hn0 : n = 0 → n.tmod d = 0 := by intro h; subst h; exact Int.zero_tmod d
    by_cases hz : n.tmod d = 0
    · rw [if_neg (by simp [hz]), if_neg (by simp [hz])]
    · have hnz : n ≠ 0 := fun h => hz (hn0 h)
      by_cases hn : n < 0
      · rw [if_neg (by simp [hn, h]), if_neg (by omega)]
      · rw [if_pos ⟨hz, by simp [hn, h]⟩, if_pos ⟨by omega, by omega⟩]
  · rw [fdivI_pos h, ← key n d h]
    have : (n < 0 ↔ ¬ d < 0) ↔ n < 0 := by omega
    simp only [this]
/-- What Div gives. -/
def divV (a b : Int) : Int × Int := if clampI b = 0 then (0, 12) else (clampI (fdivI (clampI a * 1000000) (clampI b)), 0)
/-- What Mul gives. -/
def mulV (a b : Int) : Int := clampI (clampI a * clampI b / 1000000)
/-- The whole root. -/
def rootN : Nat → Nat
  | 0 => 0
  | n + 1 => if (rootN n + 1) * (rootN n + 1) ≤ n + 1 then rootN n + 1 else rootN n
theorem rootN_spec : ∀ n, rootN n * rootN n ≤ n ∧ n < (rootN n + 1) * (rootN n + 1)
  | 0 => by simp [rootN]
  | n + 1 => by
    have ⟨h1, h2⟩ := rootN_spec n
    simp only [rootN]
    split
    · rename_i h
      refine ⟨h, ?_⟩
      generalize rootN n = r at *
      have : (r + 1 + 1) * (r + 1 + 1) = (r + 1) * (r + 1) + 2 * (r + 1) + 1 := by
        simp only [Nat.add_mul, Nat.mul_add]; omega
      omega
    · rename_i h
      exact ⟨by omega, by omega⟩
theorem root_unique {n r s : Nat} (h1 : r * r ≤ n) (h2 : n < (r + 1) * (r + 1)) (h3 : s * s ≤ n) (h4 : n < (s + 1) * (s + 1)) : r = s := by
  rcases Nat.lt_trichotomy r s with h | h | h
  · have := Nat.mul_le_mul (show r + 1 ≤ s from h) (show r + 1 ≤ s from h); omega
  · exact h
  · have := Nat.mul_le_mul (show s + 1 ≤ r from h) (show s + 1 ≤ r from h); omega
/-- What Root gives. -/
def rootV (a : Int) : Int × Int := if a < 0 then (0, 2) else ((rootN (clampI a * 1000000).toNat : Nat), 0)
theorem rootN_eq {n : Int} {r : Nat} (h0 : 0 ≤ n) (h1 : (r : Int) * r ≤ n) (h2 : n < ((r : Int) + 1) * (r + 1)) : rootN n.toNat = r := by
  have ⟨h3, h4⟩ := rootN_spec n.toNat
  have e : ((n.toNat : Nat) : Int) = n := Int.toNat_of_nonneg h0
  refine root_unique h3 h4 ?_ ?_
  · have : ((r * r : Nat) : Int) ≤ ((n.toNat : Nat) : Int) := by rw [e]; simpa using h1
    exact Int.ofNat_le.1 this
  · have : ((n.toNat : Nat) : Int) < (((r + 1) * (r + 1) : Nat) : Int) := by rw [e]; simpa using h2
    exact Int.ofNat_lt.1 this
theorem clampI_sign (a : Int) : clampI a < 0 ↔ a < 0 := by unfold clampI; omega
/-- The reference's product. -/
theorem mul_split (x y : Int) : x / 1000000 * y + (x - x / 1000000 * 1000000) * y / 1000000 = x * y / 1000000 := by
  have e : x * y = (x - x / 1000000 * 1000000) * y + 1000000 * (x / 1000000 * y) := by
    rw [Int.sub_mul]
    have : x / 1000000 * 1000000 * y = 1000000 * (x / 1000000 * y) := by
      rw [Int.mul_comm (x / 1000000) 1000000, Int.mul_assoc]
    omega
  rw [e, Int.add_mul_ediv_left _ _ (by omega), Int.add_comm]
end Go.Proofs.Ytgjjmiaiclhidaa

namespace Go.Proofs.Ytgjjmiaiclhidaa

def tenI (k : Nat) : Int := ((10 ^ k : Nat) : Int)
theorem tenI_succ (k : Nat) : tenI (k + 1) = 10 * tenI k := by unfold tenI; rw [Nat.pow_succ]; omega
theorem tenI_pos (k : Nat) : 1 ≤ tenI k := by unfold tenI; have := Nat.pow_pos (a := 10) (n := k) (by omega); omega
theorem tenI_le {j k : Nat} (h : j ≤ k) : tenI j ≤ tenI k := by unfold tenI; have := Nat.pow_le_pow_right (show 0 < 10 by omega) h; omega
theorem tenI_add (j k : Nat) : tenI (j + k) = tenI j * tenI k := by unfold tenI; rw [Nat.pow_add, Int.natCast_mul]
/-- The linear value of a number. -/
def linS (C : Conv) (x : Int) : Int := C.m * x * tenI (6 + C.k2).toNat + C.b * tenI (6 + C.k1 + C.k2).toNat
def linI (C : Conv) (x : Int) : Int := clampI (linS C x)
/-- The first point at or behind a number. -/
def idxP (sgn : Bool) (P : List Pt) (x : Int) : Nat := P.findIdx fun p => decide (x ≤ numI sgn p.raw)
theorem getD_at {P : List Pt} {k : Nat} (h : k < P.length) : P.getD k default = P[k] := by
  rw [List.getD_eq_getElem?_getD, List.getElem?_eq_getElem h]; rfl
theorem idxP_eq {sgn : Bool} {P : List Pt} {x : Int} {k : Nat} (hk : k < P.length) (h : x ≤ numI sgn (P.getD k default).raw) (hb : ∀ j, j < k → numI sgn (P.getD j default).raw < x) : idxP sgn P x = k := by
  unfold idxP
  rw [List.findIdx_eq hk]
  refine ⟨?_, fun j hj => ?_⟩
  · rw [getD_at hk] at h; simpa using h
  · have := hb j hj
    rw [getD_at (by omega)] at this
    simp; omega
theorem idxP_len {sgn : Bool} {P : List Pt} {x : Int} (hb : ∀ j, j < P.length → numI sgn (P.getD j default).raw < x) : idxP sgn P x = P.length := by
  unfold idxP
  rw [List.findIdx_eq_length]
  intro p hp
  obtain ⟨j, hj, rfl⟩ := List.mem_iff_getElem.1 hp
  have := hb j hj
  rw [getD_at hj] at this
  simp; omega
theorem idxP_le (sgn : Bool) (P : List Pt) (x : Int) : idxP sgn P x ≤ P.length := List.findIdx_le_length
theorem idxP_at {sgn : Bool} {P : List Pt} {x : Int} (h : idxP sgn P x < P.length) : x ≤ numI sgn (P.getD (idxP sgn P x) default).raw := by
  have := List.findIdx_getElem (w := h) (p := fun p : Pt => decide (x ≤ numI sgn p.raw))
  rw [getD_at h]
  exact of_decide_eq_true this
theorem idxP_bef {sgn : Bool} {P : List Pt} {x : Int} {j : Nat} (h : j < idxP sgn P x) : numI sgn (P.getD j default).raw < x := by
  have hl := idxP_le sgn P x
  have := List.not_of_lt_findIdx h
  rw [getD_at (by omega)]
  have h2 : ¬ x ≤ numI sgn (P[j]'(by omega)).raw := by simpa using this
  omega
def ptV (P : List Pt) (i : Nat) : Int := (P.getD i default).val
def ptN (sgn : Bool) (P : List Pt) (i : Nat) : Int := numI sgn (P.getD i default).raw
/-- The value of a number in a table. -/
def tabI (sgn : Bool) (P : List Pt) (x : Int) : Int :=
  if idxP sgn P x = P.length then ptV P (P.length - 1)
  else if idxP sgn P x = 0 ∨ x = ptN sgn P (idxP sgn P x) then ptV P (idxP sgn P x)
  else ptV P (idxP sgn P x - 1) + (ptV P (idxP sgn P x) - ptV P (idxP sgn P x - 1)) * (x - ptN sgn P (idxP sgn P x - 1)) / (ptN sgn P (idxP sgn P x) - ptN sgn P (idxP sgn P x - 1))
/-- What value gives for a valid conversion. -/
def valN (C : Conv) (P : List Pt) (x : Int) : Int × Int :=
  if C.form = 5 then (tabI C.sgn P x, 0) else if C.form = 2 then divV 1000000 (linI C x) else if C.form = 3 then (mulV (linI C x) (linI C x), 0)
  else if C.form = 4 then rootV (linI C x) else (linI C x, 0)
def valI (C : Conv) (P : List Pt) (raw : Nat) : Int × Int := valN C P (numI C.sgn raw)
/-- What Value gives. -/
def valueI (C : Conv) (P : List Pt) (raw : Nat) : Int × Int := if convB C P then valI C P raw else (0, 1)
/-- A conversion by a formula: its numbers. -/
structure Lin (C : Conv) : Prop where
  form : 1 ≤ C.form ∧ C.form ≤ 4
  m : -512 ≤ C.m ∧ C.m ≤ 511
  b : -512 ≤ C.b ∧ C.b ≤ 511
  k1 : -3 ≤ C.k1 ∧ C.k1 ≤ 3
  k2 : -3 ≤ C.k2 ∧ C.k2 ≤ 3
theorem convB_Lin {C : Conv} {P : List Pt} (h : convB C P = true) (hf : C.form ≠ 5) : Lin C := by
  unfold convB at h
  split at h
  · rename_i h1
    simp only [facB, powB, Bool.and_eq_true, decide_eq_true_eq] at h
    exact ⟨h1, h.1.1.1.1, h.1.1.1.2, h.1.1.2, h.1.2⟩
  · simp only [Bool.and_eq_true, decide_eq_true_eq] at h
    exact absurd h.1.1 hf
theorem convB_Tab {C : Conv} {P : List Pt} (h : convB C P = true) (hf : C.form = 5) : tableB C.sgn P = true := by
  unfold convB at h
  rw [if_neg (by omega)] at h
  simp only [Bool.and_eq_true] at h
  exact h.2
theorem convB_form15 {C : Conv} {P : List Pt} (h : convB C P = true) : 1 ≤ C.form ∧ C.form ≤ 5 := by
  unfold convB at h
  split at h
  · omega
  · simp only [Bool.and_eq_true, decide_eq_true_eq] at h; omega
theorem tab_parts {sgn : Bool} {P : List Pt} (h : tableB sgn P = true) : 2 ≤ P.length ∧ P.length ≤ 12 ∧ (∀ i, i < P.length → -1000000000000 ≤ ptV P i ∧ ptV P i ≤ 1000000000000) ∧ ∀ i, 0 < i → i < P.length → ptN sgn P (i - 1) < ptN sgn P i := by
  unfold tableB at h
  simp only [Bool.and_eq_true, decide_eq_true_eq, List.all_eq_true] at h
  refine ⟨h.1.1, h.1.2, fun i hi => ?_, fun i h0 hi => ?_⟩
  · have := h.2 i (List.mem_range.2 hi)
    simp only [ptB, Bool.and_eq_true, decide_eq_true_eq] at this
    exact this.1
  · have := h.2 i (List.mem_range.2 hi)
    simp only [ptB, Bool.and_eq_true, Bool.or_eq_true, decide_eq_true_eq] at this
    exact this.2.resolve_left (by omega)
/-- Products in their bounds. -/
theorem mul_bd {a b A B : Int} (ha : -A ≤ a ∧ a ≤ A) (hb : 0 ≤ b ∧ b ≤ B) : -(A * B) ≤ a * b ∧ a * b ≤ A * B := by
  have hA : 0 ≤ A := by omega
  have h1 : A * b ≤ A * B := Int.mul_le_mul_of_nonneg_left hb.2 hA
  have h2 : a * b ≤ A * b := Int.mul_le_mul_of_nonneg_right ha.2 hb.1
  have h3 : (-A) * b ≤ a * b := Int.mul_le_mul_of_nonneg_right ha.1 hb.1
  rw [Int.neg_mul] at h3
  omega
theorem mul_bds {a b A B : Int} (ha : -A ≤ a ∧ a ≤ A) (hb : -B ≤ b ∧ b ≤ B) : -(A * B) ≤ a * b ∧ a * b ≤ A * B := by
  rcases Int.lt_or_le b 0 with h | h
  · have := mul_bd ha (b := -b) (B := B) (by omega)
    rw [Int.mul_neg] at this
    omega
  · exact mul_bd ha ⟨h, hb.2⟩
theorem ten9 {k : Nat} (h : k ≤ 9) : 0 ≤ tenI k ∧ tenI k ≤ 1000000000 := by
  have h1 := tenI_pos k
  have h2 := tenI_le h
  rw [show tenI 9 = 1000000000 from rfl] at h2
  omega
theorem ten12 {k : Nat} (h : k ≤ 12) : 0 ≤ tenI k ∧ tenI k ≤ 1000000000000 := by
  have h1 := tenI_pos k
  have h2 := tenI_le h
  rw [show tenI 12 = 1000000000000 from rfl] at h2
  omega
theorem Lin.mx {C : Conv} (h : Lin C) {x : Int} (hx : -128 ≤ x ∧ x ≤ 255) : -130560 ≤ C.m * x ∧ C.m * x ≤ 130560 := by
  have := mul_bds (a := C.m) (b := x) (A := 512) (B := 255) (by have := h.m; omega) (by omega)
  omega
theorem Lin.parts {C : Conv} (h : Lin C) {x : Int} (hx : -128 ≤ x ∧ x ≤ 255) :
    (-130560000000000 ≤ C.m * x * tenI (6 + C.k2).toNat ∧ C.m * x * tenI (6 + C.k2).toNat ≤ 130560000000000) ∧ (-512000000000000 ≤ C.b * tenI (6 + C.k1 + C.k2).toNat ∧ C.b * tenI (6 + C.k1 + C.k2).toNat ≤ 512000000000000) := by
  have hk1 := h.k1
  have hk2 := h.k2
  have h1 := mul_bd (A := 130560) (B := 1000000000) (h.mx hx) (ten9 (k := (6 + C.k2).toNat) (by omega))
  have h2 := mul_bd (a := C.b) (A := 512) (B := 1000000000000) (by have := h.b; omega) (ten12 (k := (6 + C.k1 + C.k2).toNat) (by omega))
  omega
end Go.Proofs.Ytgjjmiaiclhidaa

namespace Go.Proofs.Ytgjjmiaiclhidaa
open Go.RowKit

set_option maxHeartbeats 400000 in
theorem refClamp_ok (v : Int) (w : World) : Calls Try.prog 51 #[.int .i64 v] w fun e w' => e = .returned (.int .i64 (clampI v)) ∧ w = w' := by
  go_enter Try.func51, Try.ntmps51
  go_wp2
  all_goals (go_ret; exact ⟨ret_int (by unfold clampI; first | rfl | omega), rfl⟩)
set_option maxHeartbeats 400000 in
theorem cfloor_ok (n d : Int) (w : World) (hn : -9000000000000000000 ≤ n ∧ n ≤ 9000000000000000000) (h0 : 0 < d) (h1 : d ≤ 9000000000000000000) :
    Calls Try.prog 136 #[.int .i64 n, .int .i64 d] w fun e w' => e = .returned (.int .i64 (n / d)) ∧ w = w' := by
  have H := Lib.hid (floor_pos n d h0)
  obtain ⟨hn1, hn2⟩ := hn
  have hq := tquot_bd n d 9000000000000000000 hn1 hn2
  have h4 := Int.tmod_lt_of_pos n h0
  have h5 : -d < n.tmod d := by have := Int.neg_tmod n d; have h6 := Int.tmod_lt_of_pos (-n) h0; omega
  have hw : IntKind.i64.wrap (n.tdiv d) = n.tdiv d := IntWalk.i64_in _ (by omega)
  have hr : IntKind.i64.wrap (n.tmod d) = n.tmod d := IntWalk.i64_in _ (by omega)
  obtain ⟨hq1, hq2⟩ := hq
  by_cases hneg : n.tmod d < 0
  · by_cases hn0 : 0 ≤ n
    · have := Int.tmod_nonneg d hn0; omega
    · go_enter Try.func136, Try.ntmps136
      go_wp2
      go_ret
      refine ⟨ret_int ?_, rfl⟩
      rw [← H.out, if_pos hneg]
  · go_enter Try.func136, Try.ntmps136
    go_wp2
    go_ret
    refine ⟨ret_int ?_, rfl⟩
    rw [← H.out, if_neg (by omega)]
set_option maxHeartbeats 400000 in
theorem rfloor_ok (n d : Int) (w : World) (hn : -9000000000000000000 ≤ n ∧ n ≤ 9000000000000000000) (h0 : 0 < d) (h1 : d ≤ 9000000000000000000) :
    Calls Try.prog 124 #[.int .i64 n, .int .i64 d] w fun e w' => e = .returned (.int .i64 (n / d)) ∧ w = w' := by
  have H := Lib.hid (floor_pos n d h0)
  obtain ⟨hn1, hn2⟩ := hn
  have hq := tquot_bd n d 9000000000000000000 hn1 hn2
  have h4 := Int.tmod_lt_of_pos n h0
  have h5 : -d < n.tmod d := by have := Int.neg_tmod n d; have h6 := Int.tmod_lt_of_pos (-n) h0; omega
  have hw : IntKind.i64.wrap (n.tdiv d) = n.tdiv d := IntWalk.i64_in _ (by omega)
  have hr : IntKind.i64.wrap (n.tmod d) = n.tmod d := IntWalk.i64_in _ (by omega)
  obtain ⟨hq1, hq2⟩ := hq
  by_cases hneg : n.tmod d < 0
  · by_cases hn0 : 0 ≤ n
    · have := Int.tmod_nonneg d hn0; omega
    · go_enter Try.func124, Try.ntmps124
      go_wp2
      go_ret
      refine ⟨ret_int ?_, rfl⟩
      rw [← H.out, if_pos hneg]
  · go_enter Try.func124, Try.ntmps124
    go_wp2
    go_ret
    refine ⟨ret_int ?_, rfl⟩
    rw [← H.out, if_neg (by omega)]
end Go.Proofs.Ytgjjmiaiclhidaa

namespace Go.Proofs.Ytgjjmiaiclhidaa
open Go.RowKit

set_option maxHeartbeats 1000000 in
theorem ten_ok (n : Nat) (hn : n ≤ 12) (w : World) : Calls Try.prog 137 #[.int .i64 (n : Nat)] w fun e w' => e = .returned (.int .i64 (tenI n)) ∧ w = w' := by
  go_enter Try.func137, Try.ntmps137
  go_wp2
  go_loop [3, 5] (fun out i => ∃ k : Nat, k ≤ n ∧ i = .int .i64 k ∧ out = .int .i64 (tenI k)) (fun _ i => n - (intOf i).toNat)
  case atStart => exact ⟨0, Nat.zero_le _, rfl, rfl⟩
  case round =>
    obtain ⟨k, hk, rfl, rfl⟩ := hrel
    have ht := ten12 (k := k) (by omega)
    have hs := Lib.hid (tenI_succ k)
    by_cases hlt : k < n
    · have ht2 := ten12 (k := k + 1) (by omega)
      rw [hs.out] at ht2
      obtain ⟨t1, t2⟩ := ht
      obtain ⟨t3, t4⟩ := ht2
      generalize tenI k = t at *
      go_wp2
      go_round
      case rel => exact ⟨k + 1, by omega, by go_num, by first | (rw [hs.out, Int.mul_comm]; done) | rw [hs.out]⟩
      case measure => simp [intOf]; omega
    · obtain rfl : k = n := by omega
      go_wp2
      go_ret
      exact ⟨rfl, rfl⟩
set_option maxHeartbeats 1000000 in
theorem refTen_ok (n : Nat) (hn : n ≤ 12) (w : World) : Calls Try.prog 91 #[.int .i64 (n : Nat)] w fun e w' => e = .returned (.int .i64 (tenI n)) ∧ w = w' := by
  go_enter Try.func91, Try.ntmps91
  go_wp2
  go_loop [3, 4] (fun out i => ∃ k : Nat, k ≤ n ∧ i = .int .i64 k ∧ out = .int .i64 (tenI k)) (fun _ i => n - (intOf i).toNat)
  case atStart => exact ⟨0, Nat.zero_le _, rfl, rfl⟩
  case round =>
    obtain ⟨k, hk, rfl, rfl⟩ := hrel
    have ht := ten12 (k := k) (by omega)
    have hs := Lib.hid (tenI_succ k)
    by_cases hlt : k < n
    · have ht2 := ten12 (k := k + 1) (by omega)
      rw [hs.out] at ht2
      obtain ⟨t1, t2⟩ := ht
      obtain ⟨t3, t4⟩ := ht2
      generalize tenI k = t at *
      go_wp2
      go_round
      case rel => exact ⟨k + 1, by omega, by go_num, by first | (rw [hs.out, Int.mul_comm]; done) | rw [hs.out]⟩
      case measure => simp [intOf]; omega
    · obtain rfl : k = n := by omega
      go_wp2
      go_ret
      exact ⟨rfl, rfl⟩
theorem Conv.c7 (C : Conv) : C.cells[0]? = some (.int .i64 C.form) ∧ C.cells[1]? = some (.bool C.sgn) ∧ C.cells[2]? = some (.int .i64 C.m) ∧ C.cells[3]? = some (.int .i64 C.b) ∧ C.cells[4]? = some (.int .i64 C.k1) ∧ C.cells[5]? = some (.int .i64 C.k2) ∧ C.cells[6]? = some C.pts := ⟨rfl, rfl, rfl, rfl, rfl, rfl, rfl⟩
set_option maxRecDepth 100000 in
set_option maxHeartbeats 2000000 in
theorem linear_ok (w : World) (C : Conv) (h : Lin C) (x : Int) (hx : -128 ≤ x ∧ x ≤ 255) :
    Calls Try.prog 120 #[.agg C.cells, .int .i64 x] w fun e w' => e = .returned (.int .i64 (linI C x)) ∧ Mods [] w w' := by
  have hk1 := h.k1
  have hk2 := h.k2
  have hm := h.m
  have hb := h.b
  have hmx := h.mx hx
  obtain ⟨p1, p2⟩ := h.parts hx
  obtain ⟨u, hu⟩ : ∃ u : Nat, (6 + C.k2) = (u : Int) := ⟨(6 + C.k2).toNat, by omega⟩
  obtain ⟨v, hv⟩ : ∃ v : Nat, (6 + C.k1 + C.k2) = (v : Int) := ⟨(6 + C.k1 + C.k2).toNat, by omega⟩
  have HL := Lib.hid (show linI C x = clampI (C.m * x * tenI u + C.b * tenI v) by unfold linI linS; rw [hu, hv, Int.toNat_natCast, Int.toNat_natCast])
  rw [hu, Int.toNat_natCast] at p1
  rw [hv, Int.toNat_natCast] at p2
  have M0 := Lib.hid ((Mods.refl (S := []) (w := w)).alloc (.cells C.cells 26))
  obtain ⟨_, _, c2, c3, c4, c5, _⟩ := C.c7
  have hk3 : 6 + C.k1 + C.k2 = 6 + C.k1 + C.k2 := rfl
  clear hk3
  have w1 : IntKind.i64.wrap (C.m * x) = C.m * x := IntWalk.i64_in _ (by omega)
  have w2 : IntKind.i64.wrap (6 + C.k2) = (u : Int) := by rw [hu]; exact IntWalk.i64_in _ (by omega)
  have w3 : IntKind.i64.wrap (6 + C.k1) = 6 + C.k1 := IntWalk.i64_in _ (by omega)
  have w4 : IntKind.i64.wrap (6 + C.k1 + C.k2) = (v : Int) := by rw [hv]; exact IntWalk.i64_in _ (by omega)
  have w5 : IntKind.i64.wrap (C.m * x * tenI u) = C.m * x * tenI u := IntWalk.i64_in _ (by omega)
  have w6 : IntKind.i64.wrap (C.b * tenI v) = C.b * tenI v := IntWalk.i64_in _ (by omega)
  have w7 : IntKind.i64.wrap (C.m * x * tenI u + C.b * tenI v) = C.m * x * tenI u + C.b * tenI v := IntWalk.i64_in _ (by omega)
  have hu9 : u ≤ 12 := by omega
  have hv12 : v ≤ 12 := by omega
  have HU := Lib.hid hu
  have HV := Lib.hid hv
  have T1 := Lib.hid (fun W => ten_ok u hu9 W)
  have T2 := Lib.hid (fun W => ten_ok v hv12 W)
  clear hu hv p1 p2 hmx hk1 hk2 hm hb h hx
  go_enter Try.func120, Try.ntmps120
  go_wp2_with fail
  go_quiet ((first
    | (go_at_call_of 137 (Value.int IntKind.i64 (u : Int)); exact quiet_left (T1.out _))
    | (go_at_call_of 137 (Value.int IntKind.i64 (v : Int)); exact quiet_left (T2.out _))
    | (go_at_call 99; exact quiet_left (clamp_ok _ _))))
  go_wp2
  go_ret
  exact ⟨ret_int HL.out.symm, M0.out.drewN _⟩
end Go.Proofs.Ytgjjmiaiclhidaa

namespace Go.Proofs.Ytgjjmiaiclhidaa
open Go.RowKit

theorem ret_two {k k' : IntKind} {a b : Int} {R : Int × Int} (h : R = (a, b)) : Ending.returned (.tuple #[.int k a, .int k' b]) = .returned (.tuple #[.int k R.1, .int k' R.2]) := by rw [h]
set_option maxHeartbeats 1000000 in
theorem mfloor_ok (n d : Int) (w : World) (hn : -1000000000000000000 ≤ n ∧ n ≤ 1000000000000000000) (hd : d ≠ 0) (hd2 : -1000000000000 ≤ d ∧ d ≤ 1000000000000) :
    Calls Try.prog 138 #[.int .i64 n, .int .i64 d] w fun e w' => e = .returned (.int .i64 (fdivI n d)) ∧ w = w' := by
  have H := Lib.hid (floor_any n d hd)
  obtain ⟨hn1, hn2⟩ := hn
  obtain ⟨d1, d2⟩ := hd2
  have hq := tquot_bd n d 1000000000000000000 hn1 hn2
  have hr0 := Int.natAbs_tmod n d
  have hr : -1000000000000 ≤ n.tmod d ∧ n.tmod d ≤ 1000000000000 := by
    have : (n.tmod d).natAbs < d.natAbs := by rw [hr0]; exact Nat.mod_lt _ (by omega)
    omega
  have hz : (d == 0) = false := by simpa using hd
  clear hr0
  have w1 : IntKind.i64.wrap (n.tdiv d) = n.tdiv d := IntWalk.i64_in _ (by omega)
  have w2 : IntKind.i64.wrap (n.tmod d) = n.tmod d := IntWalk.i64_in _ (by omega)
  by_cases h0 : n.tmod d = 0
  · have HR := Lib.hid (show fdivI n d = n.tdiv d by rw [← H.out, if_neg (by simp [h0])])
    have e0 : (n.tmod d != 0) = false := by simpa using h0
    clear h0
    go_enter Try.func138, Try.ntmps138
    go_wp2
    go_ret
    exact ⟨ret_int HR.out.symm, rfl⟩
  · have e0 : (n.tmod d != 0) = true := by simpa using h0
    by_cases h1 : (n < 0 ↔ ¬ d < 0)
    · have HR := Lib.hid (show fdivI n d = n.tdiv d - 1 by rw [← H.out, if_pos ⟨h0, h1⟩])
      have hh : (decide (n < 0) != decide (d < 0)) = true := by by_cases a : n < 0 <;> by_cases b : d < 0 <;> simp_all
      clear h0
      by_cases a : n < 0
      · have b : ¬ d < 0 := h1.1 a
        clear h1
        go_enter Try.func138, Try.ntmps138
        go_wp2
        go_ret
        exact ⟨ret_int HR.out.symm, rfl⟩
      · have b : d < 0 := Decidable.of_not_not fun h => a (h1.2 h)
        have e1 : (n % d != 0) = true := by rw [← Int.tmod_eq_emod_of_nonneg (by omega)]; exact e0
        clear h1
        go_enter Try.func138, Try.ntmps138
        go_wp2
        go_ret
        exact ⟨ret_int HR.out.symm, rfl⟩
    · have HR := Lib.hid (show fdivI n d = n.tdiv d by rw [← H.out, if_neg (fun h => h1 h.2)])
      clear h0
      by_cases a : n < 0
      · have b : d < 0 := Decidable.of_not_not fun h => h1 ⟨fun _ => h, fun _ => a⟩
        clear h1
        go_enter Try.func138, Try.ntmps138
        go_wp2
        go_ret
        exact ⟨ret_int HR.out.symm, rfl⟩
      · have b : ¬ d < 0 := fun h => h1 ⟨fun h' => absurd h' a, fun h' => absurd h h'⟩
        have e1 : (n % d != 0) = true := by rw [← Int.tmod_eq_emod_of_nonneg (by omega)]; exact e0
        clear h1
        go_enter Try.func138, Try.ntmps138
        go_wp2
        go_ret
        exact ⟨ret_int HR.out.symm, rfl⟩
set_option maxHeartbeats 1000000 in
theorem div_ok (a b : Int) (w : World) :
    Calls Try.prog 121 #[.int .i64 a, .int .i64 b] w fun e w' => e = .returned (.tuple #[.int .i64 (divV a b).1, .int .i64 (divV a b).2]) ∧ w = w' := by
  have HD := Lib.hid (show divV a b = if clampI b = 0 then (0, 12) else (clampI (fdivI (clampI a * 1000000) (clampI b)), 0) from rfl)
  have ⟨a1, a2⟩ := clampI_bd a
  have ⟨b1, b2⟩ := clampI_bd b
  have CA := Lib.hid (clamp_ok a)
  have CB := Lib.hid (clamp_ok b)
  generalize clampI a = x at *
  generalize clampI b = y at *
  generalize divV a b = R at *
  by_cases h : y = 0
  · have HR := Lib.hid (show R = (0, 12) by rw [HD.out, if_pos h])
    have e0 : (y == 0) = true := by simpa using h
    clear h
    go_enter Try.func121, Try.ntmps121
    go_wp2_with (first
      | (go_at_call_of 99 (Value.int IntKind.i64 a); refine (CA.out _).mono ?_; rintro e w' ⟨rfl, rfl⟩)
      | (go_at_call_of 99 (Value.int IntKind.i64 b); refine (CB.out _).mono ?_; rintro e w' ⟨rfl, rfl⟩))
    go_ret2
    exact ⟨ret_two HR.out, rfl⟩
  · have HR := Lib.hid (show R = (clampI (fdivI (x * 1000000) y), 0) by rw [HD.out, if_neg h])
    have e0 : (y == 0) = false := by simpa using h
    go_enter Try.func121, Try.ntmps121
    go_wp2_with (first
      | (go_at_call_of 99 (Value.int IntKind.i64 a); refine (CA.out _).mono ?_; rintro e w' ⟨rfl, rfl⟩)
      | (go_at_call_of 99 (Value.int IntKind.i64 b); refine (CB.out _).mono ?_; rintro e w' ⟨rfl, rfl⟩))
    refine (mfloor_ok _ y _ (by omega) h ⟨b1, b2⟩).mono ?_
    rintro e w' ⟨rfl, rfl⟩
    go_wp2_with fail
    refine (clamp_ok _ _).mono ?_
    rintro e w' ⟨rfl, rfl⟩
    go_wp2_with fail
    go_ret2
    exact ⟨ret_two HR.out, rfl⟩
set_option maxHeartbeats 1000000 in
theorem refDiv_ok (a b : Int) (w : World) :
    Calls Try.prog 92 #[.int .i64 a, .int .i64 b] w fun e w' => e = .returned (.tuple #[.int .i64 (divV a b).1, .int .i64 (divV a b).2]) ∧ w = w' := by
  have HD := Lib.hid (show divV a b = if clampI b = 0 then (0, 12) else (clampI (fdivI (clampI a * 1000000) (clampI b)), 0) from rfl)
  have ⟨a1, a2⟩ := clampI_bd a
  have ⟨b1, b2⟩ := clampI_bd b
  have CA := Lib.hid (refClamp_ok a)
  have CB := Lib.hid (refClamp_ok b)
  generalize clampI a = x at *
  generalize clampI b = y at *
  generalize divV a b = R at *
  rcases Int.lt_trichotomy y 0 with h | h | h
  · obtain ⟨z, rfl⟩ : ∃ z : Int, y = -z := ⟨-y, by omega⟩
    have HR := Lib.hid (show R = (clampI (-x * 1000000 / z), 0) by rw [HD.out, if_neg (by omega), fdivI_neg h, Int.neg_mul, Int.neg_neg])
    have e0 : (-z == 0) = false := by simp; omega
    have e2 : (z == 0) = false := by simp; omega
    have z0 : 0 < z := by omega
    go_enter Try.func92, Try.ntmps92
    go_wp2_with fail
    refine (CA.out _).mono ?_
    rintro e w' ⟨rfl, rfl⟩
    go_wp2_with fail
    refine (CB.out _).mono ?_
    rintro e w' ⟨rfl, rfl⟩
    go_wp2_with fail
    refine (rfloor_ok (-x * 1000000) z _ (by omega) (by omega) (by omega)).mono ?_
    rintro e w' ⟨rfl, rfl⟩
    go_wp2_with fail
    refine (refClamp_ok _ _).mono ?_
    rintro e w' ⟨rfl, rfl⟩
    go_wp2_with fail
    go_ret2
    exact ⟨ret_two HR.out, rfl⟩
  · have HR := Lib.hid (show R = (0, 12) by rw [HD.out, if_pos h])
    have e0 : (y == 0) = true := by simpa using h
    clear h
    go_enter Try.func92, Try.ntmps92
    go_wp2_with fail
    refine (CA.out _).mono ?_
    rintro e w' ⟨rfl, rfl⟩
    go_wp2_with fail
    refine (CB.out _).mono ?_
    rintro e w' ⟨rfl, rfl⟩
    go_wp2_with fail
    go_ret2
    exact ⟨ret_two HR.out, rfl⟩
  · have HR := Lib.hid (show R = (clampI (x * 1000000 / y), 0) by rw [HD.out, if_neg (by omega), fdivI_pos h])
    have e0 : (y == 0) = false := by simp; omega
    go_enter Try.func92, Try.ntmps92
    go_wp2_with fail
    refine (CA.out _).mono ?_
    rintro e w' ⟨rfl, rfl⟩
    go_wp2_with fail
    refine (CB.out _).mono ?_
    rintro e w' ⟨rfl, rfl⟩
    go_wp2_with fail
    refine (rfloor_ok (x * 1000000) y _ (by omega) (by omega) (by omega)).mono ?_
    rintro e w' ⟨rfl, rfl⟩
    go_wp2_with fail
    refine (refClamp_ok _ _).mono ?_
    rintro e w' ⟨rfl, rfl⟩
    go_wp2_with fail
    go_ret2
    exact ⟨ret_two HR.out, rfl⟩
set_option maxHeartbeats 1000000 in
theorem refMul_ok (a b : Int) (w : World) :
    Calls Try.prog 93 #[.int .i64 a, .int .i64 b] w fun e w' => e = .returned (.int .i64 (mulV a b)) ∧ w = w' := by
  have HD := Lib.hid (show mulV a b = clampI (clampI a * clampI b / 1000000) from rfl)
  have ⟨a1, a2⟩ := clampI_bd a
  have ⟨b1, b2⟩ := clampI_bd b
  have CA := Lib.hid (refClamp_ok a)
  have CB := Lib.hid (refClamp_ok b)
  generalize clampI a = x at *
  generalize clampI b = y at *
  generalize mulV a b = R at *
  have HS := Lib.hid (mul_split x y)
  have q1 : -1000000 ≤ x / 1000000 ∧ x / 1000000 ≤ 1000000 := by omega
  have q2 : 0 ≤ x - x / 1000000 * 1000000 ∧ x - x / 1000000 * 1000000 ≤ 999999 := by omega
  go_enter Try.func93, Try.ntmps93
  go_wp2_with fail
  refine (CA.out _).mono ?_
  rintro e w' ⟨rfl, rfl⟩
  go_wp2_with fail
  refine (CB.out _).mono ?_
  rintro e w' ⟨rfl, rfl⟩
  go_wp2_with fail
  refine (rfloor_ok x 1000000 _ (by omega) (by omega) (by omega)).mono ?_
  rintro e w' ⟨rfl, rfl⟩
  generalize x / 1000000 = q at *
  generalize hp : x - q * 1000000 = p at *
  have HP := Lib.hid hp
  have m1 := mul_bds (a := q) (b := y) (A := 1000000) (B := 1000000000000) q1 ⟨b1, b2⟩
  have m2 := mul_bds (a := p) (b := y) (A := 999999) (B := 1000000000000) (by omega) ⟨b1, b2⟩
  have hpw : IntKind.i64.wrap (x - q * 1000000) = p := by rw [hp]; exact IntWalk.i64_in _ (by omega)
  obtain ⟨q3, q4⟩ := q1
  have m3 := quot_bd (p * y) 1000000 (by omega) 1000000000000000000 (by omega) (by omega)
  obtain ⟨m4, m5⟩ := m1
  obtain ⟨m6, m7⟩ := m2
  clear hp
  go_wp2_with fail
  refine (rfloor_ok (p * y) 1000000 _ (by omega) (by omega) (by omega)).mono ?_
  rintro e w' ⟨rfl, rfl⟩
  go_wp2_with fail
  refine (refClamp_ok _ _).mono ?_
  rintro e w' ⟨rfl, rfl⟩
  go_wp2_with fail
  go_ret
  exact ⟨ret_int (by rw [HS.out, HD.out]), rfl⟩
end Go.Proofs.Ytgjjmiaiclhidaa

namespace Go.Proofs.Ytgjjmiaiclhidaa
open Ieee

theorem lb (n : Nat) (h : n ≠ 0) : 2 ^ n.log2 ≤ n ∧ n < 2 ^ (n.log2 + 1) := ⟨Nat.log2_self_le h, Nat.lt_log2_self⟩
/-- A cut without anything to drop. -/
theorem cut_zero (n : Nat) : Toward.even.cut false n 0 = n := by
  unfold Toward.cut
  simp [Nat.mod_one]
theorem cut_le (n d : Nat) (hd : d ≤ n.log2) : n / 2 ^ d ≤ Toward.even.cut false n d ∧ Toward.even.cut false n d ≤ n / 2 ^ d + 1 := by
  unfold Toward.cut
  have e : min d (n.log2 + 2) = d := by omega
  rw [e, Nat.one_shiftLeft]
  constructor
  · exact Nat.le_add_right _ _
  · have : ∀ b : Bool, b.toNat ≤ 1 := by decide
    exact Nat.add_le_add_left (this _) _
/-- The kept digits of a number: 53 of them, or a power of two. -/
theorem kept_bd (mag : Nat) (h : mag ≠ 0) (k d : Nat) (hk : k + mag.log2 = 52 + d) (h0 : k = 0 ∨ d = 0) :
    2 ^ 52 ≤ Toward.even.cut false (mag <<< k) d ∧ Toward.even.cut false (mag <<< k) d ≤ 2 ^ 53 := by
  have ⟨h1, h2⟩ := lb mag h
  rcases h0 with rfl | rfl
  · rw [Nat.shiftLeft_zero]
    have hc := cut_le mag d (by omega)
    have e : 2 ^ mag.log2 = 2 ^ 52 * 2 ^ d := by rw [← Nat.pow_add]; congr 1; omega
    have e2 : 2 ^ (mag.log2 + 1) = 2 ^ 53 * 2 ^ d := by rw [← Nat.pow_add]; congr 1; omega
    have p : 0 < 2 ^ d := Nat.two_pow_pos _
    have a1 : 2 ^ 52 ≤ mag / 2 ^ d := (Nat.le_div_iff_mul_le p).2 (by rw [← e]; exact h1)
    have a2 : mag / 2 ^ d < 2 ^ 53 := (Nat.div_lt_iff_lt_mul p).2 (by rw [← e2]; exact h2)
    omega
  · rw [cut_zero, Nat.shiftLeft_eq]
    have e : 2 ^ mag.log2 * 2 ^ k = 2 ^ 52 := by rw [← Nat.pow_add]; congr 1; omega
    have e2 : 2 ^ (mag.log2 + 1) * 2 ^ k = 2 ^ 53 := by rw [← Nat.pow_add]; congr 1; omega
    have p : 0 < 2 ^ k := Nat.two_pow_pos _
    have a1 := Nat.mul_le_mul_right (2 ^ k) h1
    have a2 := Nat.mul_lt_mul_of_pos_right h2 p
    omega
theorem leastP : double.leastPlace = -1074 := by decide
theorem binadeP : double.binade = 2 ^ 52 := by decide
theorem infP : double.infRung = 2047 * 2 ^ 52 := by decide
theorem signP : double.signWeight = 2 ^ 63 := by decide
theorem word_false (f : Format) (r : Nat) : f.word false r = r := by unfold Format.word; simp
theorem fracP : double.fractionBits = 52 := rfl
/-- What the nearest word stands for. -/
theorem read_nearest (mag : Nat) (place : Int) (h : mag ≠ 0) (h1 : -1000 ≤ place + mag.log2) (h2 : place + mag.log2 ≤ 900) :
    ∃ (m : Nat) (p : Int), double.read (double.nearest false mag place) = .number false m p ∧ 2 ^ 52 ≤ m ∧ m < 2 ^ 53 ∧ (p = place + mag.log2 - 52 ∨ (p = place + mag.log2 - 51 ∧ m = 2 ^ 52)) := by
  have hlast : max (place + mag.log2 - double.fractionBits) double.leastPlace = place + mag.log2 - 52 := by
    rw [leastP, fracP]; omega
  have hk : ∃ k : Nat, (place - (place + mag.log2 - 52)).toNat = k ∧ ∃ d : Nat, ((place + mag.log2 - 52) - place).toNat = d ∧ k + mag.log2 = 52 + d ∧ (k = 0 ∨ d = 0) := ⟨_, rfl, _, rfl, by omega, by omega⟩
  obtain ⟨k, hk1, d, hd1, hkd, h0⟩ := hk
  have hb := kept_bd mag h k d hkd h0
  have hN : double.nearest false mag place = min ((place + mag.log2 - 52 - (-1074)).toNat * 2 ^ 52 + Toward.even.cut false (mag <<< k) d) (2047 * 2 ^ 52) := by
    unfold Format.nearest
    rw [if_neg h]
    simp only [hlast]
    rw [hk1, hd1, leastP, binadeP, infP, word_false]
  generalize Toward.even.cut false (mag <<< k) d = kept at hb hN
  obtain ⟨t, ht⟩ : ∃ t : Nat, (place + mag.log2 - 52 - (-1074)).toNat = t ∧ (t : Int) = place + mag.log2 + 1022 := ⟨_, rfl, by omega⟩
  obtain ⟨ht1, ht2⟩ := ht
  rw [ht1] at hN
  have ht3 : t ≤ 1922 := by omega
  have hN2 : double.nearest false mag place = t * 2 ^ 52 + kept := by rw [hN]; omega
  rw [hN2]
  have hrung : (t * 2 ^ 52 + kept) % double.signWeight = t * 2 ^ 52 + kept := Nat.mod_eq_of_lt (by rw [signP]; omega)
  have hneg : ((t * 2 ^ 52 + kept) / double.signWeight % 2 == 1) = false := by
    rw [Nat.div_eq_of_lt (by rw [signP]; omega)]; rfl
  unfold Format.read
  simp only [hrung, hneg]
  rw [binadeP, infP, leastP, if_neg (by omega), if_pos (by omega)]
  by_cases hk53 : kept = 2 ^ 53
  · subst hk53
    refine ⟨_, _, rfl, by omega, by omega, .inr ⟨?_, by omega⟩⟩
    have : (t * 2 ^ 52 + 2 ^ 53) / 2 ^ 52 = t + 2 := by omega
    rw [this]; omega
  · refine ⟨_, _, rfl, by omega, by omega, .inl ?_⟩
    have : (t * 2 ^ 52 + kept) / 2 ^ 52 = t + 1 := by omega
    rw [this]; omega
theorem rootFrom_le (n : Nat) : ∀ (todo root : Nat), root * root ≤ n → Datum.rootFrom n todo root * Datum.rootFrom n todo root ≤ n
  | 0, root, h => h
  | todo + 1, root, h => by
    unfold Datum.rootFrom
    simp only
    split
    · rename_i h1; exact rootFrom_le n todo _ h1
    · exact rootFrom_le n todo _ h
theorem sq_lt {a b : Nat} (h : a * a ≤ b * b) : a ≤ b := by
  rcases Nat.lt_or_ge b a with h1 | h1
  · have := Nat.mul_lt_mul_of_lt_of_le h1 (Nat.le_of_lt h1) (by omega); omega
  · exact h1
/-- The root of a number that is at most 2^60. -/
theorem root_bd (m : Nat) (i : Int) (hm1 : 2 ^ 52 ≤ m) (hm2 : m < 2 ^ 53) (hi0 : -60 ≤ i) (hi : i ≤ 7 ∨ (i = 8 ∧ m = 2 ^ 52)) :
    ∃ (mag : Nat) (place : Int), Datum.root 54 (.number false m i) = some (.number false mag place) ∧ mag ≠ 0 ∧ place + mag.log2 ≤ 30 ∧ -1000 ≤ place + mag.log2 := by
  have hlog : m.log2 = 52 := by
    have ⟨a, b⟩ := lb m (by omega)
    rcases Nat.lt_trichotomy m.log2 52 with h | h | h
    · have := Nat.pow_le_pow_right (show 0 < 2 by omega) (show m.log2 + 1 ≤ 52 by omega); omega
    · exact h
    · have := Nat.pow_le_pow_right (show 0 < 2 by omega) (show 53 ≤ m.log2 by omega); omega
  unfold Datum.root
  simp only
  rw [if_neg (by omega), if_neg (by decide)]
  simp only [hlog, Nat.reduceMul, Nat.reduceSub]
  obtain ⟨c, hc⟩ : ∃ c : Nat, ((i - ((56 : Nat) : Int)) % 2).toNat = c := ⟨_, rfl⟩
  rw [hc]
  have hc2 : c ≤ 1 := by omega
  obtain ⟨t, ht⟩ : ∃ t : Nat, ((56 + c : Nat) : Int) - i = 2 * t := ⟨(((56 + c : Nat) : Int) - i).toNat / 2, by omega⟩
  have hplace : (i - ((56 + c : Nat) : Int)) / 2 - 1 = -(t : Int) - 1 := by omega
  have hn0 : m <<< (56 + c) ≠ 0 := by rw [Nat.shiftLeft_eq]; exact Nat.ne_of_gt (Nat.mul_pos (by omega) (Nat.two_pow_pos _))
  have hn : m <<< (56 + c) ≤ 2 ^ (30 + t) * 2 ^ (30 + t) := by
    rw [Nat.shiftLeft_eq, ← Nat.pow_add]
    rcases hi with h | ⟨h, h'⟩
    · have : m * 2 ^ (56 + c) ≤ 2 ^ 53 * 2 ^ (56 + c) := Nat.mul_le_mul_right _ (by omega)
      refine Nat.le_trans this ?_
      rw [← Nat.pow_add]
      exact Nat.pow_le_pow_right (by omega) (by omega)
    · rw [h', ← Nat.pow_add]
      exact Nat.pow_le_pow_right (by omega) (by omega)
  have hw := rootFrom_le (m <<< (56 + c)) ((m <<< (56 + c)).log2 / 2 + 1) 0 (by rw [Nat.zero_mul]; exact Nat.zero_le _)
  generalize Datum.rootFrom (m <<< (56 + c)) ((m <<< (56 + c)).log2 / 2 + 1) 0 = whole at hw
  generalize m <<< (56 + c) = n at hn0 hn hw
  have hle : whole ≤ 2 ^ (30 + t) := sq_lt (Nat.le_trans hw hn)
  refine ⟨_, _, rfl, ?_, ?_, ?_⟩
  · intro h0
    have hw0 : whole = 0 := by omega
    subst hw0
    have : ((0 * 0 != n).toNat) = 1 := by
      have : (0 * 0 != n) = true := by simp; omega
      rw [this]; rfl
    omega
  · rw [hplace]
    have hlg : (2 * whole + (whole * whole != n).toNat).log2 ≤ 31 + t := by
      have hb1 : ∀ b : Bool, b.toNat ≤ 1 := by decide
      rcases Nat.lt_or_ge (2 * whole + (whole * whole != n).toNat) (2 ^ (32 + t)) with h | h
      · by_cases h0 : 2 * whole + (whole * whole != n).toNat = 0
        · rw [h0]; simp
        · have := (Nat.log2_lt h0).2 h; omega
      · have := hb1 (whole * whole != n)
        have e : 2 ^ (32 + t) = 4 * 2 ^ (30 + t) := by rw [show 32 + t = 2 + (30 + t) by omega, Nat.pow_add]
        have p : 0 < 2 ^ (30 + t) := Nat.two_pow_pos _
        have : 2 ≤ 2 ^ (30 + t) := by
          have := Nat.pow_le_pow_right (show 0 < 2 by omega) (show 1 ≤ 30 + t by omega); omega
        omega
    omega
  · rw [hplace]; omega
theorem toInt_bd (m : Nat) (p : Int) (hm2 : m < 2 ^ 53) (hp : p ≤ -22 ∨ (p = -21 ∧ m = 2 ^ 52)) (hm1 : 2 ^ 52 ≤ m) : ∃ k : Nat, (Datum.number false m p).toInt .zero = some (k : Int) ∧ k ≤ 2147483648 := by
  unfold Datum.toInt Datum.integral
  simp only
  refine ⟨Toward.zero.cut false (m <<< p.toNat) (-p).toNat, ?_, ?_⟩
  · simp [signed]
  · have e0 : p.toNat = 0 := by omega
    rw [e0, Nat.shiftLeft_zero]
    unfold Toward.cut
    simp only [Bool.toNat_false, Nat.add_zero, Nat.one_shiftLeft]
    have hlog : 52 ≤ m.log2 := (Nat.le_log2 (by omega)).2 hm1
    rcases hp with h | ⟨h, h'⟩
    · have : 2 ^ 22 ≤ 2 ^ min (-p).toNat (m.log2 + 2) := Nat.pow_le_pow_right (by omega) (by omega)
      have h3 : m / 2 ^ min (-p).toNat (m.log2 + 2) ≤ m / 2 ^ 22 := Nat.div_le_div_left this (by omega)
      omega
    · have : 2 ^ 21 ≤ 2 ^ min (-p).toNat (m.log2 + 2) := Nat.pow_le_pow_right (by omega) (by omega)
      have h3 : m / 2 ^ min (-p).toNat (m.log2 + 2) ≤ m / 2 ^ 21 := Nat.div_le_div_left this (by omega)
      omega
/-- The guess: the root of a whole number, in floating point, made whole. -/
theorem guess (n : Nat) (h : n ≤ 1000000000000000000) :
    ∃ (r : Nat) (k : Nat), FloatKind.f64.format.sqrt (FloatKind.f64.nearest (n : Int)) = some r ∧ (FloatKind.f64.decode r).toInt .zero = some (k : Int) ∧ k ≤ 2147483648 := by
  have e : FloatKind.f64.nearest (n : Int) = double.nearest false n 0 := by
    unfold FloatKind.nearest FloatKind.encode
    have : decide ((n : Int) < 0) = false := decide_eq_false (by omega)
    rw [this]; rfl
  rw [e]
  by_cases h0 : n = 0
  · subst h0
    exact ⟨0, 0, by decide, by decide, by omega⟩
  · have hl : n.log2 ≤ 59 := by
      have := (Nat.log2_lt (n := n) (k := 60) h0).2 (by omega); omega
    obtain ⟨m, i, hr, hm1, hm2, hi⟩ := read_nearest n 0 h0 (by omega) (by omega)
    obtain ⟨mag, place, hrt, hmag, hp1, hp2⟩ := root_bd m i hm1 hm2 (by rcases hi with h | ⟨h, _⟩ <;> omega) (by rcases hi with h | ⟨h, h'⟩ <;> omega)
    have hs : FloatKind.f64.format.sqrt (double.nearest false n 0) = some (double.nearest false mag place) := by
      show ((double.read _).root (double.fractionBits + 2)).map double.write = _
      rw [hr]
      show (Datum.root 54 _).map _ = _
      rw [hrt]; rfl
    obtain ⟨m2, p2, hr2, hn1, hn2, hp⟩ := read_nearest mag place hmag hp2 (by omega)
    obtain ⟨k, hk1, hk2⟩ := toInt_bd m2 p2 hn2 (by rcases hp with h | ⟨h, h'⟩ <;> omega) hn1
    exact ⟨_, k, hs, by show (double.read _).toInt .zero = _; rw [hr2]; exact hk1, hk2⟩
end Go.Proofs.Ytgjjmiaiclhidaa

namespace Go.Proofs.Ytgjjmiaiclhidaa
open Go.RowKit

set_option maxHeartbeats 2000000 in
theorem refRoot_ok (a : Int) (w : World) :
    Calls Try.prog 94 #[.int .i64 a] w fun e w' => e = .returned (.tuple #[.int .i64 (rootV a).1, .int .i64 (rootV a).2]) ∧ w = w' := by
  have HD := Lib.hid (show rootV a = if a < 0 then (0, 2) else (((rootN (clampI a * 1000000).toNat : Nat) : Int), 0) from rfl)
  have hsg := clampI_sign a
  have ⟨a1, a2⟩ := clampI_bd a
  have CA := Lib.hid (refClamp_ok a)
  generalize clampI a = x at *
  generalize rootV a = R at *
  by_cases h : a < 0
  · have HR := Lib.hid (show R = (0, 2) by rw [HD.out, if_pos h])
    clear hsg
    go_enter Try.func94, Try.ntmps94
    go_wp2
    go_ret2
    exact ⟨ret_two HR.out, rfl⟩
  · have x0 : 0 ≤ x := by omega
    obtain ⟨n, hn⟩ : ∃ n, n = x * 1000000 := ⟨_, rfl⟩
    have HR := Lib.hid (show R = (((rootN n.toNat : Nat) : Int), 0) by rw [HD.out, if_neg h, hn])
    have HN := Lib.hid hn
    have n0 : 0 ≤ n := by omega
    have n1 : n ≤ 1000000000000000000 := by omega
    have hw : wrap64 (x * 1000000) = n := by rw [hn]; exact IntWalk.wrap64_in _ (by omega)
    have hw2 : x * 1000000 = n := hn.symm
    clear hsg hn
    go_enter Try.func94, Try.ntmps94
    go_wp2_with fail
    refine (CA.out _).mono ?_
    rintro e w' ⟨rfl, rfl⟩
    go_wp2_with fail
    clear hw hw2
    go_loop [5, 6] (fun l h => ∃ lo hi : Nat, l = .int .i64 lo ∧ h = .int .i64 hi ∧ lo ≤ hi ∧ hi ≤ 1000000000 ∧ Hid ((lo : Int) * lo ≤ n) ∧ Hid (n < ((hi : Int) + 1) * (hi + 1))) (fun l h => (intOf h).toNat - (intOf l).toNat)
    case atStart => exact ⟨0, 1000000000, rfl, rfl, by omega, by omega, Lib.hid (by omega), Lib.hid (by omega)⟩
    case round =>
      obtain ⟨lo, hi, rfl, rfl, h1, h2, s1, s2⟩ := hrel
      by_cases hlt : lo < hi
      · obtain ⟨m, hm⟩ : ∃ m : Nat, ((lo : Int) + hi + 1) / 2 = (m : Int) := ⟨(lo + hi + 1) / 2, by omega⟩
        have m1 : lo < m := by omega
        have m2 : m ≤ hi := by omega
        have HMM := Lib.hid hm
        have mm := mul_bds (a := (m : Int)) (b := m) (A := 1000000000) (B := 1000000000) (by omega) (by omega)
        obtain ⟨mm1, mm2⟩ := mm
        by_cases hle : (m : Int) * m ≤ n
        · go_wp2
          go_round
          case rel => exact ⟨m, hi, by first | rfl | (rw [HMM.out]), rfl, by omega, h2, Lib.hid hle, s2⟩
          case measure => simp [intOf]; omega
        · go_wp2
          go_round
          case rel => exact ⟨lo, m - 1, rfl, by go_num, by omega, by omega, s1, Lib.hid (by rw [show ((m - 1 : Nat) : Int) + 1 = m by omega]; omega)⟩
          case measure => simp [intOf]; omega
      · obtain rfl : lo = hi := by omega
        have HQ := Lib.hid (rootN_eq n0 s1.out s2.out)
        go_wp2
        go_ret2
        exact ⟨ret_two (by rw [HR.out, HQ.out]), rfl⟩
theorem sqrt_ext (x r : Nat) (h : FloatKind.f64.format.sqrt x = some r) (w : World) : (callFunc 148 #[.float .f64 x]).run Try.prog w = .ok (.value (.float .f64 r)) w := by
  rw [run_callFunc_extern (e := Extern.MathSqrt.sqrt) Try.func148 (by kernel_rfl) (by kernel_rfl) (by kernel_rfl) (by kernel_rfl)]
  have e : (Extern.MathSqrt.sqrt #[.float .f64 x]).run Try.prog w = .ok (.float .f64 r) w := by
    change Sem.run _ (match FloatKind.f64.format.sqrt x with | some r => pure (Value.float .f64 r) | none => do pure (Value.float .f64 (← choose (.nanBits .f64 x x)))) w = _
    rw [h]
    rfl
  rw [e]; rfl
set_option maxHeartbeats 400000 in
theorem sqrt_ok (x r : Nat) (h : FloatKind.f64.format.sqrt x = some r) (w : World) :
    Calls Try.prog 142 #[.float .f64 x] w fun e w' => e = .returned (.float .f64 r) ∧ w = w' := by
  have hx := sqrt_ext x r h w
  clear h
  go_enter Try.func142, Try.ntmps142
  go_wp2
  go_ret
  exact ⟨rfl, rfl⟩
set_option maxHeartbeats 2000000 in
theorem root_ok (a : Int) (w : World) :
    Calls Try.prog 123 #[.int .i64 a] w fun e w' => e = .returned (.tuple #[.int .i64 (rootV a).1, .int .i64 (rootV a).2]) ∧ w = w' := by
  have HD := Lib.hid (show rootV a = if a < 0 then (0, 2) else (((rootN (clampI a * 1000000).toNat : Nat) : Int), 0) from rfl)
  have hsg := clampI_sign a
  have ⟨a1, a2⟩ := clampI_bd a
  have CA := Lib.hid (clamp_ok a)
  generalize clampI a = x at *
  generalize rootV a = R at *
  by_cases h : a < 0
  · have HR := Lib.hid (show R = (0, 2) by rw [HD.out, if_pos h])
    have x0 : x < 0 := hsg.2 h
    clear hsg
    go_enter Try.func123, Try.ntmps123
    go_wp2_with fail
    refine (CA.out _).mono ?_
    rintro e w' ⟨rfl, rfl⟩
    go_wp2
    go_ret2
    exact ⟨ret_two HR.out, rfl⟩
  · have x0 : 0 ≤ x := by omega
    obtain ⟨N, hn⟩ : ∃ N : Nat, (N : Int) = x * 1000000 := ⟨(x * 1000000).toNat, by omega⟩
    have HR := Lib.hid (show R = (((rootN N : Nat) : Int), 0) by rw [HD.out, if_neg h, ← hn, Int.toNat_natCast])
    have HN := Lib.hid hn
    have n1 : N ≤ 1000000000000000000 := by omega
    have hw : wrap64 (x * 1000000) = (N : Int) := by rw [hn]; exact IntWalk.wrap64_in _ (by omega)
    have hw2 : x * 1000000 = (N : Int) := hn.symm
    obtain ⟨r, k, hs, ht, hk⟩ := guess N n1
    clear hsg hn
    go_enter Try.func123, Try.ntmps123
    go_wp2_with fail
    refine (CA.out _).mono ?_
    rintro e w' ⟨rfl, rfl⟩
    go_wp2_with fail
    clear hw hw2
    have hfi : floatToIntVal .f64 r .i64 = some (k : Int) := by
      unfold floatToIntVal
      rw [ht]
      exact if_pos ⟨by show (-9223372036854775808 : Int) ≤ k; omega, by show (k : Int) ≤ 9223372036854775807; omega⟩
    have HC := Lib.hid (fun w' : World => run_convert_float_int (P := Try.prog) w' 163 2 .f64 .i64 r (k : Int) (by kernel_rfl) (by kernel_rfl) hfi)
    refine (sqrt_ok _ r hs _).mono ?_
    rintro e w' ⟨rfl, rfl⟩
    have hc := HC.out w
    clear hs ht hfi
    go_wp2_with fail
    clear hc
    have N0 : (0 : Int) ≤ (N : Int) := by omega
    go_loop [5] (fun l => ∃ q : Nat, l = .int .i64 q ∧ q ≤ 2147483648) (fun l => (intOf l).toNat)
    case atStart => exact ⟨k, rfl, hk⟩
    case round =>
      obtain ⟨q, rfl, hq⟩ := hrel
      obtain ⟨q1, q2⟩ := mul_bds (a := (q : Int)) (b := q) (A := 2147483648) (B := 2147483648) (by omega) (by omega)
      by_cases hgt : (N : Int) < (q : Int) * q
      · have hq0 : 0 < q := by
          rcases Nat.eq_zero_or_pos q with h0 | h0
          · subst h0; simp at hgt; omega
          · exact h0
        go_wp2
        go_round
        case rel => exact ⟨q - 1, by go_num, by omega⟩
        case measure => simp [intOf]; omega
      · have HG := Lib.hid (show (q : Int) * q ≤ N by omega)
        go_wp2_with fail
        clear q1 q2
        go_loop [5] (fun l => ∃ q : Nat, l = .int .i64 q ∧ q ≤ 2147483648 ∧ Hid ((q : Int) * q ≤ N)) (fun l => (2147483649 - intOf l).toNat)
        case atStart => exact ⟨q, rfl, hq, HG⟩
        case round =>
          obtain ⟨s, rfl, hs, G⟩ := hrel
          obtain ⟨s1, s2⟩ := mul_bds (a := (s : Int) + 1) (b := (s : Int) + 1) (A := 2147483649) (B := 2147483649) (by omega) (by omega)
          by_cases hle : ((s : Int) + 1) * (s + 1) ≤ N
          · have hs9 : s + 1 ≤ 1000000000 := by
              rcases Nat.lt_or_ge 1000000000 (s + 1) with h0 | h0
              · have := Int.mul_le_mul (show (1000000001 : Int) ≤ (s : Int) + 1 by omega) (show (1000000001 : Int) ≤ (s : Int) + 1 by omega) (by omega) (by omega)
                omega
              · exact h0
            go_wp2
            go_round
            case rel => exact ⟨s + 1, by go_num, by omega, Lib.hid (by rw [show ((s + 1 : Nat) : Int) = (s : Int) + 1 by omega]; exact hle)⟩
            case measure => simp [intOf]; omega
          · have HQ := Lib.hid (rootN_eq N0 G.out (by omega))
            go_wp2
            go_ret2
            exact ⟨ret_two (by rw [HR.out, ← HQ.out, Int.toNat_natCast]), rfl⟩
end Go.Proofs.Ytgjjmiaiclhidaa
