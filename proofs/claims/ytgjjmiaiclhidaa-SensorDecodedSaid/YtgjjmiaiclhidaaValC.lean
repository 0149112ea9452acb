/- Joined texts. math/bits.Div64 by a million, micro.Mul: contracts. | convert.value, Value and the reference's Value: contracts. | law04.awake and light: contracts. | The bytes of a conversion: how many, and that they are bytes. -/
import Derived.Shelf.Bits.Mul64
import Derived.Test.YtgjjmiaiclhidaaValA
import Derived.Laws.BitsAllLaws
import Derived.Test.YtgjjmiaiclhidaaValB
import Derived.Test.YtgjjmiaiclhidaaBaseB
import Derived.Test.YtgjjmiaiclhidaaBaseF
import Derived.Test.YtgjjmiaiclhidaaDecE
namespace Go.Proofs.Ytgjjmiaiclhidaa
open Go.Shelf
def lays264_ren : Go.Shelf.Ren := ⟨fun | 264 => 139 | n => n, fun | 53 => 115 | 46 => 148 | n => n, fun | n => n⟩
theorem lays264 : _root_.Go.Proofs.Lays.n264 Try.prog lays264_ren := {
  mixed := by kernel_rfl
  f264 := Try.func139.trans (congrArg some (by kernel_rfl))
  t46 := Try.underlying148
  a46 := Try.isAgg148
  z46 := Try.sizeOf148
  v46 := Try.zeroValue148
  t53 := Try.underlying115
  a53 := Try.isAgg115
  z53 := Try.sizeOf115
  v53 := Try.zeroValue115 }
open Go.RowKit Go.Lib in
theorem bits_Mul64 (x y : Nat) (hx : x < 18446744073709551616) (hy : y < 18446744073709551616) (w : World) :
    Calls Try.prog 139 #[.int .u64 x, .int .u64 y] w fun e w' => e = .returned (.tuple #[.int .u64 ((x * y / 18446744073709551616 : Nat) : Int), .int .u64 ((x * y % 18446744073709551616 : Nat) : Int)]) ∧ w' = w := Any.bits_Mul64 lays264 x y hx hy w

open Go.RowKit
theorem ret_pair {k k' : IntKind} {a a' b b' : Int} (h : a = a') (h' : b = b') : Ending.returned (.tuple #[.int k a, .int k' b]) = .returned (.tuple #[.int k a', .int k' b']) := by rw [h, h']
theorem div64_plain (hi lo u32 u10 u1 u0 q1 r1 u21 q0 r0 : Nat) (hh : hi < 1000000) (hl : lo < 18446744073709551616) (e1 : u32 = hi * 17592186044416 + lo / 1048576) (e2 : u10 = lo * 17592186044416 % 18446744073709551616)
    (e3 : u1 = u10 / 4294967296) (e4 : u0 = u10 % 4294967296) (e5 : q1 = u32 / 4096000000) (e6 : r1 = u32 % 4096000000) (e7 : u21 = r1 * 4294967296 + u1) (e8 : q0 = u21 / 4096000000) (e9 : r0 = u21 % 4096000000) :
    q1 * 4294967296 + q0 = (hi * 18446744073709551616 + lo) / 1000000 ∧ (r0 * 4294967296 + u0) / 17592186044416 = (hi * 18446744073709551616 + lo) % 1000000 ∧ q1 < 4294967296 ∧ q0 < 4294967296 := by
  subst e1 e2 e3 e4 e5 e6 e7 e8 e9
  omega
set_option maxRecDepth 100000 in
set_option maxHeartbeats 1000000 in
theorem len_million (w : World) : Calls Try.prog 158 #[.int .u64 1000000] w fun e w' => e = .returned (.int .i64 20) ∧ w = w' := by
  go_enter Try.func158, Try.ntmps158
  go_wp2
  go_ret
  exact ⟨ret_int (by kernel_rfl), rfl⟩
set_option maxRecDepth 100000 in
set_option maxHeartbeats 1000000 in
theorem lead_million (w : World) : Calls Try.prog 147 #[.int .u64 1000000] w fun e w' => e = .returned (.int .i64 44) ∧ w = w' := by
  go_enter Try.func147, Try.ntmps147
  go_wp2_with fail
  refine (len_million _).mono ?_
  rintro e w' ⟨rfl, rfl⟩
  go_wp2
  go_ret
  exact ⟨rfl, rfl⟩
set_option maxRecDepth 100000 in
set_option maxHeartbeats 4000000 in
theorem div64_ok (hi lo Q R : Nat) (hh : hi < 1000000) (hl : lo < 18446744073709551616) (hQ : (hi * 18446744073709551616 + lo) / 1000000 = Q) (hR : (hi * 18446744073709551616 + lo) % 1000000 = R) (w : World) :
    Calls Try.prog 141 #[.int .u64 (hi : Nat), .int .u64 (lo : Nat), .int .u64 1000000] w fun e w' => e = .returned (.tuple #[.int .u64 (Q : Nat), .int .u64 (R : Nat)]) ∧ ∃ n, w' = w.drewN n := by
  have HL := Lib.hid hl
  have HQ := Lib.hid hQ
  have HR := Lib.hid hR
  clear hl hQ hR
  by_cases h0 : hi = 0
  · subst h0
    have q1 : (lo : Int) / 1000000 = (Q : Int) := by have := HQ.out; omega
    have q2 : (lo : Int) % 1000000 = (R : Int) := by have := HR.out; omega
    have hl := HL.out
    have q3 : IntKind.u64.wrap (Q : Int) = (Q : Int) := by rw [IntKind.wrap_u64]; have := HQ.out; omega
    have q4 : IntKind.u64.wrap (R : Int) = (R : Int) := by rw [IntKind.wrap_u64]; have := HR.out; omega
    have Q2 := Lib.hid q2
    clear hh hl
    go_enter Try.func141, Try.ntmps141
    go_wp2_with fail
    go_quiet (fail)
    go_wp2
    go_ret2
    exact ⟨ret_pair rfl Q2.out, _, rfl⟩
  · have i1 : decide ((1000000 : Int) ≤ (hi : Int)) = false := decide_eq_false (by omega)
    have i2 : ((hi : Int) == 0) = false := by simpa using h0
    have HH := Lib.hid hh
    clear h0 hh
    go_enter Try.func141, Try.ntmps141
    go_wp2_with fail
    refine (lead_million _).mono ?_
    rintro e w' ⟨rfl, rfl⟩
    obtain ⟨U32, e1⟩ : ∃ x : Nat, x = hi * 17592186044416 + lo / 1048576 := ⟨_, rfl⟩
    obtain ⟨U10, e2⟩ : ∃ x : Nat, x = lo * 17592186044416 % 18446744073709551616 := ⟨_, rfl⟩
    obtain ⟨U1, e3⟩ : ∃ x : Nat, x = U10 / 4294967296 := ⟨_, rfl⟩
    obtain ⟨U0, e4⟩ : ∃ x : Nat, x = U10 % 4294967296 := ⟨_, rfl⟩
    obtain ⟨Q1, e5⟩ : ∃ x : Nat, x = U32 / 4096000000 := ⟨_, rfl⟩
    obtain ⟨R1, e6⟩ : ∃ x : Nat, x = U32 % 4096000000 := ⟨_, rfl⟩
    obtain ⟨U21, e7⟩ : ∃ x : Nat, x = R1 * 4294967296 + U1 := ⟨_, rfl⟩
    obtain ⟨Q0, e8⟩ : ∃ x : Nat, x = U21 / 4096000000 := ⟨_, rfl⟩
    obtain ⟨R0, e9⟩ : ∃ x : Nat, x = U21 % 4096000000 := ⟨_, rfl⟩
    have hl := HL.out
    have hh := HH.out
    obtain ⟨p1, p2, p3, p4⟩ := div64_plain hi lo U32 U10 U1 U0 Q1 R1 U21 Q0 R0 hh hl e1 e2 e3 e4 e5 e6 e7 e8 e9
    rw [HQ.out] at p1
    rw [HR.out] at p2
    have f1 : bits .or .u64 (IntKind.u64.wrap ((hi : Int) * 17592186044416)) ((lo : Int) / 1048576) = (U32 : Int) := by
      have a : IntKind.u64.wrap ((hi : Int) * 17592186044416) = ((hi * 17592186044416 : Nat) : Int) := by rw [IntKind.wrap_u64]; omega
      have b : (lo : Int) / 1048576 = ((lo / 1048576 : Nat) : Int) := by omega
      rw [a, b, u64_or_nat _ _ (by omega) (by omega), e1, nat_join 44 _ _ (by omega) (by omega)]
    have f2 : IntKind.u64.wrap ((lo : Int) * 17592186044416) = (U10 : Int) := by rw [IntKind.wrap_u64]; omega
    have f3 : (U10 : Int) / 4294967296 = (U1 : Int) := by omega
    have f4 : bits .and .u64 (U10 : Int) 4294967295 = (U0 : Int) := by
      have := u64_and_nat U10 4294967295 (by omega) (by omega)
      rw [show (4294967295 : Nat) = 2 ^ 32 - 1 from rfl, Nat.and_two_pow_sub_one_eq_mod] at this
      rw [e4]
      exact this
    have f5 : bits .and .u64 17592186044416000000 4294967295 = 0 := by kernel_rfl
    have f6 : IntKind.u64.wrap ((U32 : Int) / 4096000000) = (Q1 : Int) := by rw [IntKind.wrap_u64]; omega
    have f6' : IntKind.u64.wrap (Q1 : Int) = (Q1 : Int) := by rw [IntKind.wrap_u64]; omega
    have f16' : IntKind.u64.wrap (Q0 : Int) = (Q0 : Int) := by rw [IntKind.wrap_u64]; omega
    have f7 : (U32 : Int) / 4096000000 = (Q1 : Int) := by omega
    obtain ⟨P1, g1⟩ : ∃ x : Nat, x = Q1 * 4096000000 := ⟨_, rfl⟩
    have f8 : IntKind.u64.wrap ((Q1 : Int) * 4096000000) = (P1 : Int) := by rw [IntKind.wrap_u64]; omega
    have f9 : IntKind.u64.wrap ((U32 : Int) - P1) = (R1 : Int) := by rw [IntKind.wrap_u64]; omega
    have d1 : decide ((4294967296 : Int) ≤ (Q1 : Int)) = false := decide_eq_false (by omega)
    obtain ⟨T1, g2⟩ : ∃ x : Nat, x = 4294967296 * R1 := ⟨_, rfl⟩
    have f10 : IntKind.u64.wrap (4294967296 * (R1 : Int)) = (T1 : Int) := by rw [IntKind.wrap_u64]; omega
    have f11 : IntKind.u64.wrap ((T1 : Int) + U1) = (U21 : Int) := by rw [IntKind.wrap_u64]; omega
    have d2 : decide ((U21 : Int) < 0) = false := decide_eq_false (by omega)
    obtain ⟨V1, g3⟩ : ∃ x : Nat, x = U32 * 4294967296 % 18446744073709551616 := ⟨_, rfl⟩
    have f12 : IntKind.u64.wrap ((U32 : Int) * 4294967296) = (V1 : Int) := by rw [IntKind.wrap_u64]; omega
    obtain ⟨V2, g4⟩ : ∃ x : Nat, x = (V1 + U1) % 18446744073709551616 := ⟨_, rfl⟩
    have f13 : IntKind.u64.wrap ((V1 : Int) + U1) = (V2 : Int) := by rw [IntKind.wrap_u64]; omega
    obtain ⟨V3, g5⟩ : ∃ x : Nat, x = (Q1 * 17592186044416000000) % 18446744073709551616 := ⟨_, rfl⟩
    have f14 : IntKind.u64.wrap ((Q1 : Int) * 17592186044416000000) = (V3 : Int) := by rw [IntKind.wrap_u64]; omega
    have f15 : IntKind.u64.wrap ((V2 : Int) - V3) = (U21 : Int) := by rw [IntKind.wrap_u64]; omega
    have f16 : IntKind.u64.wrap ((U21 : Int) / 4096000000) = (Q0 : Int) := by rw [IntKind.wrap_u64]; omega
    have f17 : (U21 : Int) / 4096000000 = (Q0 : Int) := by omega
    obtain ⟨P0, g6⟩ : ∃ x : Nat, x = Q0 * 4096000000 := ⟨_, rfl⟩
    have f18 : IntKind.u64.wrap ((Q0 : Int) * 4096000000) = (P0 : Int) := by rw [IntKind.wrap_u64]; omega
    have f19 : IntKind.u64.wrap ((U21 : Int) - P0) = (R0 : Int) := by rw [IntKind.wrap_u64]; omega
    have d3 : decide ((4294967296 : Int) ≤ (Q0 : Int)) = false := decide_eq_false (by omega)
    obtain ⟨T3, g7⟩ : ∃ x : Nat, x = 4294967296 * R0 := ⟨_, rfl⟩
    have f20 : IntKind.u64.wrap (4294967296 * (R0 : Int)) = (T3 : Int) := by rw [IntKind.wrap_u64]; omega
    obtain ⟨T4, g8⟩ : ∃ x : Nat, x = T3 + U0 := ⟨_, rfl⟩
    have f21 : IntKind.u64.wrap ((T3 : Int) + U0) = (T4 : Int) := by rw [IntKind.wrap_u64]; omega
    have d4 : decide ((T4 : Int) < 0) = false := decide_eq_false (by omega)
    obtain ⟨V4, g9⟩ : ∃ x : Nat, x = Q1 * 4294967296 := ⟨_, rfl⟩
    have f22 : IntKind.u64.wrap ((Q1 : Int) * 4294967296) = (V4 : Int) := by rw [IntKind.wrap_u64]; omega
    have f23 : IntKind.u64.wrap ((V4 : Int) + Q0) = (Q : Int) := by rw [IntKind.wrap_u64]; omega
    obtain ⟨V5, g10⟩ : ∃ x : Nat, x = U21 * 4294967296 % 18446744073709551616 := ⟨_, rfl⟩
    have f24 : IntKind.u64.wrap ((U21 : Int) * 4294967296) = (V5 : Int) := by rw [IntKind.wrap_u64]; omega
    obtain ⟨V6, g11⟩ : ∃ x : Nat, x = (V5 + U0) % 18446744073709551616 := ⟨_, rfl⟩
    have f25 : IntKind.u64.wrap ((V5 : Int) + U0) = (V6 : Int) := by rw [IntKind.wrap_u64]; omega
    obtain ⟨V7, g12⟩ : ∃ x : Nat, x = (Q0 * 17592186044416000000) % 18446744073709551616 := ⟨_, rfl⟩
    have f26 : IntKind.u64.wrap ((Q0 : Int) * 17592186044416000000) = (V7 : Int) := by rw [IntKind.wrap_u64]; omega
    have f27 : IntKind.u64.wrap ((V6 : Int) - V7) = (T4 : Int) := by rw [IntKind.wrap_u64]; omega
    have f28 : (T4 : Int) / 17592186044416 = (R : Int) := by omega
    clear e1 e2 e3 e4 e5 e6 e7 e8 e9 g1 g2 g3 g4 g5 g6 g7 g8 g9 g10 g11 g12 p1 p2 p3 p4 hl hh
    go_wp2_with fail
    go_loop [15, 16] (fun a b => a = .int .u64 (Q1 : Nat) ∧ b = .int .u64 (R1 : Nat)) (fun _ _ => 0)
    case atStart => exact ⟨rfl, rfl⟩
    case round =>
      obtain ⟨rfl, rfl⟩ := hrel
      go_wp2_with fail
      go_loop [18, 16] (fun a b => a = .int .u64 (Q0 : Nat) ∧ b = .int .u64 (R0 : Nat)) (fun _ _ => 0)
      case atStart => exact ⟨rfl, rfl⟩
      case round =>
        obtain ⟨rfl, rfl⟩ := hrel
        go_wp2_with fail
        go_ret2
        exact ⟨rfl, 0, rfl⟩
/-- A product by its size. -/
theorem mul_size (x y : Int) (A B : Nat) (ha : A = x.natAbs) (hb : B = y.natAbs) : ((x < 0 ↔ y < 0) → x * y = ((A * B : Nat) : Int)) ∧ (¬ (x < 0 ↔ y < 0) → x * y = -((A * B : Nat) : Int)) := by
  subst ha hb
  have e : (x * y).natAbs = x.natAbs * y.natAbs := Int.natAbs_mul x y
  constructor
  · intro h
    have : 0 ≤ x * y := by
      by_cases hx : x < 0
      · exact Int.le_of_lt (Int.mul_pos_of_neg_of_neg hx (h.1 hx))
      · exact Int.mul_nonneg (by omega) (by have := mt h.2 hx; omega)
    omega
  · intro h
    have : x * y ≤ 0 := by
      by_cases hx : x < 0
      · exact Int.mul_nonpos_of_nonpos_of_nonneg (by omega) (by have : ¬ y < 0 := fun h2 => h ⟨fun _ => h2, fun _ => hx⟩; omega)
      · have : y < 0 := Decidable.of_not_not fun h2 => h ⟨fun h3 => absurd h3 hx, fun h3 => absurd h3 h2⟩
        exact Int.mul_nonpos_of_nonneg_of_nonpos (by omega) (by omega)
    omega
set_option maxRecDepth 100000 in
set_option maxHeartbeats 1000000 in
theorem size_ok (v : Int) (hv : -1000000000000 ≤ v ∧ v ≤ 1000000000000) (w : World) :
    Calls Try.prog 140 #[.int .i64 v] w fun e w' => e = .returned (.int .u64 (v.natAbs : Nat)) ∧ w = w' := by
  obtain ⟨h1, h2⟩ := hv
  by_cases h : v < 0
  · have HR := Lib.hid (show (v.natAbs : Int) = -v by omega)
    have hw : IntKind.u64.wrap (-v) = -v := by rw [IntKind.wrap_u64]; omega
    go_enter Try.func140, Try.ntmps140
    go_wp2
    all_goals
      go_ret
      refine ⟨ret_int ?_, rfl⟩
      first | (rw [HR.out]; done) | (rw [HR.out, IntKind.wrap_u64]; omega)
  · have HR := Lib.hid (show (v.natAbs : Int) = v by omega)
    have hw : IntKind.u64.wrap v = v := by rw [IntKind.wrap_u64]; omega
    go_enter Try.func140, Try.ntmps140
    go_wp2
    all_goals
      go_ret
      refine ⟨ret_int ?_, rfl⟩
      first | (rw [HR.out]; done) | (rw [HR.out, IntKind.wrap_u64]; omega)
set_option maxRecDepth 100000 in
set_option maxHeartbeats 4000000 in
theorem mul_ok (a b : Int) (w : World) :
    Calls Try.prog 122 #[.int .i64 a, .int .i64 b] w fun e w' => e = .returned (.int .i64 (mulV a b)) ∧ ∃ n, w' = w.drewN n := by
  have HD := Lib.hid (show mulV a b = clampI (clampI a * clampI b / 1000000) from rfl)
  have ⟨a1, a2⟩ := clampI_bd a
  have ⟨b1, b2⟩ := clampI_bd b
  have CA := Lib.hid (clamp_ok a)
  have CB := Lib.hid (clamp_ok b)
  generalize clampI a = x at *
  generalize clampI b = y at *
  generalize mulV a b = R at *
  obtain ⟨A, hA⟩ : ∃ A, A = x.natAbs := ⟨_, rfl⟩
  obtain ⟨B, hB⟩ : ∃ B, B = y.natAbs := ⟨_, rfl⟩
  have hab := Nat.mul_le_mul (show A ≤ 1000000000000 by omega) (show B ≤ 1000000000000 by omega)
  obtain ⟨hi, hhi⟩ : ∃ hi, hi = A * B / 18446744073709551616 := ⟨_, rfl⟩
  obtain ⟨lo, hlo⟩ : ∃ lo, lo = A * B % 18446744073709551616 := ⟨_, rfl⟩
  obtain ⟨q, hq⟩ : ∃ q, A * B / 1000000 = q := ⟨_, rfl⟩
  obtain ⟨r, hr⟩ : ∃ r, A * B % 1000000 = r := ⟨_, rfl⟩
  have hN : hi * 18446744073709551616 + lo = A * B := by omega
  have q0 : q ≤ 1000000000000000000 := by omega
  have HM := Lib.hid (mul_size x y A B hA hB)
  have SA := Lib.hid (size_ok x ⟨a1, a2⟩)
  have SB := Lib.hid (size_ok y ⟨b1, b2⟩)
  rw [← hA] at SA
  rw [← hB] at SB
  have HML := Lib.hid (fun W => bits_Mul64 A B (by omega) (by omega) W)
  rw [← hhi, ← hlo] at HML
  have HDV := Lib.hid (div64_ok hi lo q r (by omega) (by omega) (by rw [hN]; exact hq) (by rw [hN]; exact hr))
  have HQ := Lib.hid (show (((A * B : Nat) : Int) / 1000000 = q ∧ (-((A * B : Nat) : Int)) / 1000000 = if 0 < r then -((q + 1 : Nat) : Int) else -(q : Int)) from ⟨by omega, by split <;> omega⟩)
  clear hab hhi hlo hq hr hN hA hB
  by_cases hs : (x < 0 ↔ y < 0)
  · have HR := Lib.hid (show R = clampI q by rw [HD.out, HM.out.1 hs, HQ.out.1])
    have dd : (decide (x < 0) == decide (y < 0)) = true := by rw [decide_eq_decide.2 hs]; exact beq_self_eq_true _
    have hw : IntKind.i64.wrap (q : Int) = (q : Int) := IntWalk.i64_in _ (by omega)
    clear hs
    go_enter Try.func122, Try.ntmps122
    go_wp2_with (first
      | (go_at_call_of 99 (Value.int IntKind.i64 a); refine (CA.out _).mono ?_; rintro e w' ⟨rfl, rfl⟩)
      | (go_at_call_of 99 (Value.int IntKind.i64 b); refine (CB.out _).mono ?_; rintro e w' ⟨rfl, rfl⟩)
      | (go_at_call_of 140 (Value.int IntKind.i64 x); refine (SA.out _).mono ?_; rintro e w' ⟨rfl, rfl⟩)
      | (go_at_call_of 140 (Value.int IntKind.i64 y); refine (SB.out _).mono ?_; rintro e w' ⟨rfl, rfl⟩))
    refine (HML.out _).mono ?_
    rintro e w' ⟨rfl, rfl⟩
    go_wp2_with fail
    refine (HDV.out _).mono ?_
    rintro e w' ⟨rfl, nd, rfl⟩
    go_wp2_with fail
    refine (clamp_ok _ _).mono ?_
    rintro e w' ⟨rfl, rfl⟩
    go_wp2_with fail
    go_ret
    exact ⟨ret_int HR.out.symm, _, rfl⟩
  · have dd : (decide (x < 0) == decide (y < 0)) = false := beq_eq_false_iff_ne.2 fun h => hs (decide_eq_decide.1 h)
    by_cases hr0 : 0 < r
    · have HR := Lib.hid (show R = clampI (-((q : Int) + 1)) by rw [HD.out, HM.out.2 hs, HQ.out.2, if_pos hr0]; rfl)
      have hw : IntKind.i64.wrap ((q : Int) + 1) = (q : Int) + 1 := IntWalk.i64_in _ (by omega)
      have dr : decide (0 < r) = true := decide_eq_true hr0
      clear hs hr0
      go_enter Try.func122, Try.ntmps122
      go_wp2_with (first
        | (go_at_call_of 99 (Value.int IntKind.i64 a); refine (CA.out _).mono ?_; rintro e w' ⟨rfl, rfl⟩)
        | (go_at_call_of 99 (Value.int IntKind.i64 b); refine (CB.out _).mono ?_; rintro e w' ⟨rfl, rfl⟩)
        | (go_at_call_of 140 (Value.int IntKind.i64 x); refine (SA.out _).mono ?_; rintro e w' ⟨rfl, rfl⟩)
        | (go_at_call_of 140 (Value.int IntKind.i64 y); refine (SB.out _).mono ?_; rintro e w' ⟨rfl, rfl⟩))
      refine (HML.out _).mono ?_
      rintro e w' ⟨rfl, rfl⟩
      go_wp2_with fail
      refine (HDV.out _).mono ?_
      rintro e w' ⟨rfl, nd, rfl⟩
      go_wp2_with fail
      refine (clamp_ok _ _).mono ?_
      rintro e w' ⟨rfl, rfl⟩
      go_wp2_with fail
      go_ret
      exact ⟨ret_int HR.out.symm, _, rfl⟩
    · have HR := Lib.hid (show R = clampI (-(q : Int)) by rw [HD.out, HM.out.2 hs, HQ.out.2, if_neg hr0])
      have hw : IntKind.i64.wrap (q : Int) = (q : Int) := IntWalk.i64_in _ (by omega)
      have dr : decide (0 < r) = false := decide_eq_false hr0
      clear hs hr0
      go_enter Try.func122, Try.ntmps122
      go_wp2_with (first
        | (go_at_call_of 99 (Value.int IntKind.i64 a); refine (CA.out _).mono ?_; rintro e w' ⟨rfl, rfl⟩)
        | (go_at_call_of 99 (Value.int IntKind.i64 b); refine (CB.out _).mono ?_; rintro e w' ⟨rfl, rfl⟩)
        | (go_at_call_of 140 (Value.int IntKind.i64 x); refine (SA.out _).mono ?_; rintro e w' ⟨rfl, rfl⟩)
        | (go_at_call_of 140 (Value.int IntKind.i64 y); refine (SB.out _).mono ?_; rintro e w' ⟨rfl, rfl⟩))
      refine (HML.out _).mono ?_
      rintro e w' ⟨rfl, rfl⟩
      go_wp2_with fail
      refine (HDV.out _).mono ?_
      rintro e w' ⟨rfl, nd, rfl⟩
      go_wp2_with fail
      refine (clamp_ok _ _).mono ?_
      rintro e w' ⟨rfl, rfl⟩
      go_wp2_with fail
      go_ret
      exact ⟨ret_int HR.out.symm, _, rfl⟩
end Go.Proofs.Ytgjjmiaiclhidaa

namespace Go.Proofs.Ytgjjmiaiclhidaa
open Go.RowKit

theorem Conv.infoCC (C : Conv) : (Try.prog.info? 26).map (·.size) = some C.cells.size := by
  show _ = some 7
  kernel_rfl
/-- A conversion whose block is known. -/
theorem wpList_load_conv {ops : Array Oper} {rest : List Oper} {o : Oper} {a : Act} {w : World} {Q : Exit → Act → World → Prop} (hgd : o.guard = none) (x : Operand) (ho : o.op = .load 26 x)
    {g : Nat} {C : Conv} {fr : Nat × Nat} (hb : w.heap[g]? = some (.cells C.cells 26 fr)) (hx : a.eval x = .pointer (some ⟨g, 0, none⟩)) (h : wpList Try.prog ops Q rest (a.put o.dst (.agg C.cells)) w) : wpList Try.prog ops Q (o :: rest) a w :=
  wpList_load_row hgd _ x ho g hx _ _ _ _ hb Try.underlying26 rfl C.infoCC h
theorem valN_eq (C : Conv) (P : List Pt) (x : Int) : valN C P x = if C.form = 5 then (tabI C.sgn P x, 0) else if C.form = 2 then divV 1000000 (linI C x) else if C.form = 3 then (mulV (linI C x) (linI C x), 0)
  else if C.form = 4 then rootV (linI C x) else (linI C x, 0) := rfl
set_option maxRecDepth 100000 in
set_option maxHeartbeats 4000000 in
theorem valueI_ok (w : World) (C : Conv) (P : List Pt) (raw : Nat) (hC : IsConv w C P) (hv : convB C P = true) (hraw : raw < 256) :
    Calls Try.prog 89 #[.agg C.cells, .int .u8 (raw : Nat)] w fun e w' => e = .returned (.tuple #[.int .i64 (valI C P raw).1, .int .i64 (valI C P raw).2]) ∧ Mods [] w w' := by
  have R0 := Lib.hid (heap_alloc_new w (.cells C.cells 26))
  have M0 := Lib.hid ((Mods.refl (S := []) (w := w)).alloc (.cells C.cells 26))
  have HN := Lib.hid (number_ok C.sgn raw hraw)
  have hx := numI_bd (sgn := C.sgn) hraw
  have HV := Lib.hid (show valI C P raw = valN C P (numI C.sgn raw) from rfl)
  generalize valI C P raw = V at HV ⊢
  generalize numI C.sgn raw = x at HN hx HV
  have HE := Lib.hid (HV.out.trans (valN_eq C P x))
  obtain ⟨c0, c1, -⟩ := C.c7
  have HC := Lib.hid hC
  have HB := Lib.hid hv
  have hf := convB_form15 hv
  clear hC hv HV
  by_cases h5 : C.form = 5
  · have HR := Lib.hid (show V = (tabI C.sgn P x, 0) by rw [HE.out, if_pos h5])
    have HT := Lib.hid (fun W (M : Mods [] w W) => between_ok W C P x (HC.out.rd.mods0 M) (convB_Tab HB.out h5) HC.out.pok.raw (by omega))
    have e5 : (C.form == 5) = true := by simpa using h5
    clear h5 hf
    go_enter Try.func89, Try.ntmps89
    go_wp2_with fail
    refine (HN.out _).mono ?_
    rintro e w' ⟨rfl, rfl⟩
    go_wp2_with (refine wpList_load_conv rfl (.tmp 2) rfl R0.out (by rfl) ?_)
    refine (HT.out _ M0.out).mono ?_
    rintro e w1 ⟨rfl, M1⟩
    go_wp2_with fail
    go_ret2
    exact ⟨ret_two HR.out, M0.out.trans M1⟩
  · have HL := convB_Lin HB.out h5
    have HY := Lib.hid (fun W => linear_ok W C HL x (by omega))
    have e5 : (C.form == 5) = false := by simpa using h5
    replace HE := Lib.hid (HE.out.trans (if_neg h5))
    generalize linI C x = y at HY HE
    by_cases h2 : C.form = 2
    · have HR := Lib.hid (show V = divV 1000000 y by rw [HE.out, if_pos h2])
      have e2 : (C.form == 2) = true := by simpa using h2
      clear h5 h2 hf HL
      go_enter Try.func89, Try.ntmps89
      go_wp2_with fail
      refine (HN.out _).mono ?_
      rintro e w' ⟨rfl, rfl⟩
      go_wp2_with (refine wpList_load_conv rfl (.tmp 2) rfl R0.out (by rfl) ?_)
      refine (HY.out _).mono ?_
      rintro e w1 ⟨rfl, M1⟩
      have HM := Lib.hid (M0.out.trans M1)
      have z0 : w1.cell? ⟨w.heap.size, 0, none⟩ = some (.int .i64 C.form) := (cell_blk (M1.heap R0.out (by simp)) 0).trans rfl
      clear M1
      go_wp2_with fail
      refine (div_ok 1000000 y _).mono ?_
      rintro e w' ⟨rfl, rfl⟩
      go_wp2_with fail
      go_ret2
      exact ⟨ret_two (by rw [HR.out]), HM.out⟩
    · have e2 : (C.form == 2) = false := by simpa using h2
      replace HE := Lib.hid (HE.out.trans (if_neg h2))
      by_cases h3 : C.form = 3
      · have HR := Lib.hid (show V = (mulV y y, 0) by rw [HE.out, if_pos h3])
        have e3 : (C.form == 3) = true := by simpa using h3
        clear h5 h2 h3 hf HL
        go_enter Try.func89, Try.ntmps89
        go_wp2_with fail
        refine (HN.out _).mono ?_
        rintro e w' ⟨rfl, rfl⟩
        go_wp2_with (refine wpList_load_conv rfl (.tmp 2) rfl R0.out (by rfl) ?_)
        refine (HY.out _).mono ?_
        rintro e w1 ⟨rfl, M1⟩
        have HM := Lib.hid (M0.out.trans M1)
        have z0 : w1.cell? ⟨w.heap.size, 0, none⟩ = some (.int .i64 C.form) := (cell_blk (M1.heap R0.out (by simp)) 0).trans rfl
        clear M1
        go_wp2_with fail
        refine (mul_ok y y _).mono ?_
        rintro e w' ⟨rfl, nn, rfl⟩
        go_wp2_with fail
        go_ret2
        exact ⟨ret_two HR.out, HM.out.drewN _⟩
      · have e3 : (C.form == 3) = false := by simpa using h3
        replace HE := Lib.hid (HE.out.trans (if_neg h3))
        by_cases h4 : C.form = 4
        · have HR := Lib.hid (show V = rootV y by rw [HE.out, if_pos h4])
          have e4 : (C.form == 4) = true := by simpa using h4
          clear h5 h2 h3 h4 hf HL
          go_enter Try.func89, Try.ntmps89
          go_wp2_with fail
          refine (HN.out _).mono ?_
          rintro e w' ⟨rfl, rfl⟩
          go_wp2_with (refine wpList_load_conv rfl (.tmp 2) rfl R0.out (by rfl) ?_)
          refine (HY.out _).mono ?_
          rintro e w1 ⟨rfl, M1⟩
          have HM := Lib.hid (M0.out.trans M1)
          have z0 : w1.cell? ⟨w.heap.size, 0, none⟩ = some (.int .i64 C.form) := (cell_blk (M1.heap R0.out (by simp)) 0).trans rfl
          clear M1
          go_wp2_with fail
          refine (root_ok y _).mono ?_
          rintro e w' ⟨rfl, rfl⟩
          go_wp2_with fail
          go_ret2
          exact ⟨ret_two (by rw [HR.out]), HM.out⟩
        · have HR := Lib.hid (show V = (y, 0) by rw [HE.out, if_neg h4])
          have e4 : (C.form == 4) = false := by simpa using h4
          clear h5 h2 h3 h4 hf HL
          go_enter Try.func89, Try.ntmps89
          go_wp2_with fail
          refine (HN.out _).mono ?_
          rintro e w' ⟨rfl, rfl⟩
          go_wp2_with (refine wpList_load_conv rfl (.tmp 2) rfl R0.out (by rfl) ?_)
          refine (HY.out _).mono ?_
          rintro e w1 ⟨rfl, M1⟩
          have HM := Lib.hid (M0.out.trans M1)
          have z0 : w1.cell? ⟨w.heap.size, 0, none⟩ = some (.int .i64 C.form) := (cell_blk (M1.heap R0.out (by simp)) 0).trans rfl
          clear M1
          go_wp2_with fail
          go_ret2
          exact ⟨ret_two HR.out, HM.out⟩
set_option maxRecDepth 100000 in
set_option maxHeartbeats 4000000 in
theorem value_ok (w : World) (C : Conv) (P : List Pt) (raw : Nat) (hC : IsConv w C P) (hraw : raw < 256) :
    Calls Try.prog 43 #[.agg C.cells, .int .u8 (raw : Nat)] w fun e w' => e = .returned (.tuple #[.int .i64 (valueI C P raw).1, .int .i64 (valueI C P raw).2]) ∧ Mods [] w w' := by
  have R0 := Lib.hid (heap_alloc_new w (.cells C.cells 26))
  have M0 := Lib.hid ((Mods.refl (S := []) (w := w)).alloc (.cells C.cells 26))
  have HV := Lib.hid (show valueI C P raw = if convB C P then valI C P raw else (0, 1) from rfl)
  generalize valueI C P raw = V at HV ⊢
  have HC := Lib.hid hC
  have CV := Lib.hid (fun W (M : Mods [] w W) => convValid_ok W C P (HC.out.mods0 M))
  have VV := Lib.hid (fun W (M : Mods [] w W) (h : convB C P = true) => valueI_ok W C P raw (HC.out.mods0 M) h hraw)
  clear hC
  cases hb : convB C P with
  | false =>
    rw [hb] at CV
    have HR := Lib.hid (show V = (0, 1) by rw [HV.out, hb]; rfl)
    clear hb
    go_enter Try.func43, Try.ntmps43
    go_wp2_with (refine wpList_load_conv rfl (.tmp 2) rfl R0.out (by rfl) ?_)
    refine (CV.out _ M0.out).mono ?_
    rintro e w1 ⟨rfl, M1⟩
    go_wp2_with fail
    go_ret2
    exact ⟨ret_two HR.out, M0.out.trans M1⟩
  | true =>
    have VV := Lib.hid (fun W M => VV.out W M hb)
    rw [hb] at CV
    have HR := Lib.hid (show V = valI C P raw by rw [HV.out, hb]; rfl)
    clear hb
    go_enter Try.func43, Try.ntmps43
    go_wp2_with (refine wpList_load_conv rfl (.tmp 2) rfl R0.out (by rfl) ?_)
    refine (CV.out _ M0.out).mono ?_
    rintro e w1 ⟨rfl, M1⟩
    have HR1 := Lib.hid (M1.heap R0.out (by simp))
    have HM1 := Lib.hid (M0.out.trans M1)
    clear M1
    go_wp2_with (refine wpList_load_conv rfl (.tmp 2) rfl HR1.out (by rfl) ?_)
    refine (VV.out _ HM1.out).mono ?_
    rintro e w2 ⟨rfl, M2⟩
    go_wp2_with fail
    go_ret2
    exact ⟨ret_two (by rw [HR.out]), HM1.out.trans M2⟩
set_option maxRecDepth 100000 in
set_option maxHeartbeats 8000000 in
theorem refValue_ok (w : World) (C : Conv) (P : List Pt) (raw : Nat) (hC : IsConv w C P) (hraw : raw < 256) :
    Calls Try.prog 44 #[.agg C.cells, .int .u8 (raw : Nat)] w fun e w' => e = .returned (.tuple #[.int .i64 (valueI C P raw).1, .int .i64 (valueI C P raw).2]) ∧ Mods [] w w' := by
  have R0 := Lib.hid (heap_alloc_new w (.cells C.cells 26))
  have M0 := Lib.hid ((Mods.refl (S := []) (w := w)).alloc (.cells C.cells 26))
  have HV := Lib.hid (show valueI C P raw = if convB C P then valI C P raw else (0, 1) from rfl)
  generalize valueI C P raw = V at HV ⊢
  have HC := Lib.hid hC
  have CV := Lib.hid (fun W (M : Mods [] w W) => refConvValid_ok W C P (HC.out.mods0 M))
  clear hC
  cases hb : convB C P with
  | false =>
    rw [hb] at CV
    have HR := Lib.hid (show V = (0, 1) by rw [HV.out, hb]; rfl)
    clear hb
    go_enter Try.func44, Try.ntmps44
    go_wp2_with (refine wpList_load_conv rfl (.tmp 2) rfl R0.out (by rfl) ?_)
    refine (CV.out _ M0.out).mono ?_
    rintro e w1 ⟨rfl, M1⟩
    go_wp2_with fail
    go_ret2
    exact ⟨ret_two HR.out, M0.out.trans M1⟩
  | true =>
    rw [hb] at CV
    have HN := Lib.hid (refNumber_ok C.sgn raw hraw)
    have hx := numI_bd (sgn := C.sgn) hraw
    replace HV := Lib.hid (show V = valN C P (numI C.sgn raw) by rw [HV.out, hb]; rfl)
    generalize numI C.sgn raw = x at HN hx HV
    have HE := Lib.hid (HV.out.trans (valN_eq C P x))
    have HB := Lib.hid hb
    have hf := convB_form15 hb
    obtain ⟨ad, cap, hpts⟩ := HC.out.rd.len
    have HPT := Lib.hid hpts
    clear hb HV hpts
    by_cases h5 : C.form = 5
    · have HR := Lib.hid (show V = (tabI C.sgn P x, 0) by rw [HE.out, if_pos h5])
      have HT := Lib.hid (fun W (M : Mods [] w W) => refTab_ok W C.pts C.sgn P x (HC.out.rd.mods0 M) (convB_Tab HB.out h5) HC.out.pok.raw (by omega))
      rw [HPT.out] at HT
      have e5 : (C.form == 5) = true := by simpa using h5
      clear h5 hf
      go_enter Try.func44, Try.ntmps44
      go_wp2_with (refine wpList_load_conv rfl (.tmp 2) rfl R0.out (by rfl) ?_)
      refine (CV.out _ M0.out).mono ?_
      rintro e w1 ⟨rfl, M1⟩
      have HR1 := Lib.hid (M1.heap R0.out (by simp))
      have HM1 := Lib.hid (M0.out.trans M1)
      have z0 : w1.cell? ⟨w.heap.size, 0, none⟩ = some (.int .i64 C.form) := (cell_blk HR1.out 0).trans rfl
      have z1 : w1.cell? ⟨w.heap.size, 1, none⟩ = some (.bool C.sgn) := (cell_blk HR1.out 1).trans rfl
      clear M1
      go_wp2_with fail
      refine (HN.out _).mono ?_
      rintro e w' ⟨rfl, rfl⟩
      have z6 : w1.cell? ⟨w.heap.size, 6, none⟩ = some (.slice ad P.length cap) := (cell_blk HR1.out 6).trans (by rw [← HPT.out]; rfl)
      go_wp2_with fail
      refine (HT.out _ HM1.out).mono ?_
      rintro e w2 ⟨rfl, n2, rfl⟩
      go_wp2_with fail
      go_ret2
      exact ⟨ret_two HR.out, HM1.out.drewN _⟩
    · have HLN := convB_Lin HB.out h5
      have h := HLN
      replace hx : -128 ≤ x ∧ x ≤ 255 := by omega
      have HYY := Lib.hid (HE.out.trans (if_neg h5))
      clear HE
      have hk1 := h.k1
      have hk2 := h.k2
      have hm := h.m
      have hb := h.b
      have hmx := h.mx hx
      obtain ⟨p1, p2⟩ := h.parts hx
      obtain ⟨u, hu⟩ : ∃ u : Nat, (6 + C.k2) = (u : Int) := ⟨(6 + C.k2).toNat, by omega⟩
      obtain ⟨v, hv⟩ : ∃ v : Nat, (6 + C.k1 + C.k2) = (v : Int) := ⟨(6 + C.k1 + C.k2).toNat, by omega⟩
      have HL := Lib.hid (show linI C x = clampI (C.m * x * tenI u + C.b * tenI v) by unfold linI linS; rw [hu, hv, Int.toNat_natCast, Int.toNat_natCast])
      rw [hu, Int.toNat_natCast] at p1
      rw [hv, Int.toNat_natCast] at p2
      have w1' : IntKind.i64.wrap (C.m * x) = C.m * x := IntWalk.i64_in _ (by omega)
      have w2' : IntKind.i64.wrap (6 + C.k2) = (u : Int) := by rw [hu]; exact IntWalk.i64_in _ (by omega)
      have w3' : IntKind.i64.wrap (6 + C.k1) = 6 + C.k1 := IntWalk.i64_in _ (by omega)
      have w4' : IntKind.i64.wrap (6 + C.k1 + C.k2) = (v : Int) := by rw [hv]; exact IntWalk.i64_in _ (by omega)
      have w5' : IntKind.i64.wrap (C.m * x * tenI u) = C.m * x * tenI u := IntWalk.i64_in _ (by omega)
      have w6' : IntKind.i64.wrap (C.b * tenI v) = C.b * tenI v := IntWalk.i64_in _ (by omega)
      have w7' : IntKind.i64.wrap (C.m * x * tenI u + C.b * tenI v) = C.m * x * tenI u + C.b * tenI v := IntWalk.i64_in _ (by omega)
      have hu9 : u ≤ 12 := by omega
      have hv12 : v ≤ 12 := by omega
      have T1 := Lib.hid (fun W => refTen_ok u hu9 W)
      have T2 := Lib.hid (fun W => refTen_ok v hv12 W)
      have e5 : (C.form == 5) = false := by simpa using h5
      clear hu hv p1 p2 hmx hk1 hk2 hm hb h hx hf HLN
      have HLC := Lib.hid (show clampI (C.m * x * tenI u + C.b * tenI v) = linI C x from HL.out.symm)
      clear HL
      by_cases h2 : C.form = 2
      · have HR := Lib.hid (show V = divV 1000000 (linI C x) by rw [HYY.out, if_pos h2])
        have e2 : (C.form == 2) = true := by simpa using h2
        clear h5 h2
        go_enter Try.func44, Try.ntmps44
        go_wp2_with (refine wpList_load_conv rfl (.tmp 2) rfl R0.out (by rfl) ?_)
        refine (CV.out _ M0.out).mono ?_
        rintro e w1 ⟨rfl, M1⟩
        have HR1 := Lib.hid (M1.heap R0.out (by simp))
        have HM1 := Lib.hid (M0.out.trans M1)
        have z0 : w1.cell? ⟨w.heap.size, 0, none⟩ = some (.int .i64 C.form) := (cell_blk HR1.out 0).trans rfl
        have z1 : w1.cell? ⟨w.heap.size, 1, none⟩ = some (.bool C.sgn) := (cell_blk HR1.out 1).trans rfl
        clear M1
        go_wp2_with fail
        refine (HN.out _).mono ?_
        rintro e w' ⟨rfl, rfl⟩
        have z2 : w1.cell? ⟨w.heap.size, 2, none⟩ = some (.int .i64 C.m) := (cell_blk HR1.out 2).trans rfl
        have z3 : w1.cell? ⟨w.heap.size, 3, none⟩ = some (.int .i64 C.b) := (cell_blk HR1.out 3).trans rfl
        have z4 : w1.cell? ⟨w.heap.size, 4, none⟩ = some (.int .i64 C.k1) := (cell_blk HR1.out 4).trans rfl
        have z5 : w1.cell? ⟨w.heap.size, 5, none⟩ = some (.int .i64 C.k2) := (cell_blk HR1.out 5).trans rfl
        go_wp2_with fail
        go_quiet ((first
          | (go_at_call_of 91 (Value.int IntKind.i64 (u : Int)); exact quiet_left (T1.out _))
          | (go_at_call_of 91 (Value.int IntKind.i64 (v : Int)); exact quiet_left (T2.out _))
          | (go_at_call 51; exact quiet_left (refClamp_ok _ _))))
        go_wp2_with fail
        refine (refDiv_ok 1000000 _ _).mono ?_
        rintro e w' ⟨rfl, rfl⟩
        rw [HLC.out]
        go_wp2_with fail
        go_ret2
        exact ⟨ret_two (by rw [HR.out]), HM1.out.drewN _⟩
      · have e2 : (C.form == 2) = false := by simpa using h2
        replace HYY := Lib.hid (HYY.out.trans (if_neg h2))
        by_cases h3 : C.form = 3
        · have HR := Lib.hid (show V = (mulV (linI C x) (linI C x), 0) by rw [HYY.out, if_pos h3])
          have e3 : (C.form == 3) = true := by simpa using h3
          clear h5 h2 h3
          go_enter Try.func44, Try.ntmps44
          go_wp2_with (refine wpList_load_conv rfl (.tmp 2) rfl R0.out (by rfl) ?_)
          refine (CV.out _ M0.out).mono ?_
          rintro e w1 ⟨rfl, M1⟩
          have HR1 := Lib.hid (M1.heap R0.out (by simp))
          have HM1 := Lib.hid (M0.out.trans M1)
          have z0 : w1.cell? ⟨w.heap.size, 0, none⟩ = some (.int .i64 C.form) := (cell_blk HR1.out 0).trans rfl
          have z1 : w1.cell? ⟨w.heap.size, 1, none⟩ = some (.bool C.sgn) := (cell_blk HR1.out 1).trans rfl
          clear M1
          go_wp2_with fail
          refine (HN.out _).mono ?_
          rintro e w' ⟨rfl, rfl⟩
          have z2 : w1.cell? ⟨w.heap.size, 2, none⟩ = some (.int .i64 C.m) := (cell_blk HR1.out 2).trans rfl
          have z3 : w1.cell? ⟨w.heap.size, 3, none⟩ = some (.int .i64 C.b) := (cell_blk HR1.out 3).trans rfl
          have z4 : w1.cell? ⟨w.heap.size, 4, none⟩ = some (.int .i64 C.k1) := (cell_blk HR1.out 4).trans rfl
          have z5 : w1.cell? ⟨w.heap.size, 5, none⟩ = some (.int .i64 C.k2) := (cell_blk HR1.out 5).trans rfl
          go_wp2_with fail
          go_quiet ((first
            | (go_at_call_of 91 (Value.int IntKind.i64 (u : Int)); exact quiet_left (T1.out _))
            | (go_at_call_of 91 (Value.int IntKind.i64 (v : Int)); exact quiet_left (T2.out _))
            | (go_at_call 51; exact quiet_left (refClamp_ok _ _))))
          go_wp2_with fail
          refine (refMul_ok _ _ _).mono ?_
          rintro e w' ⟨rfl, rfl⟩
          rw [HLC.out]
          go_wp2_with fail
          go_ret2
          exact ⟨ret_two HR.out, HM1.out.drewN _⟩
        · have e3 : (C.form == 3) = false := by simpa using h3
          replace HYY := Lib.hid (HYY.out.trans (if_neg h3))
          by_cases h4 : C.form = 4
          · have HR := Lib.hid (show V = rootV (linI C x) by rw [HYY.out, if_pos h4])
            have e4 : (C.form == 4) = true := by simpa using h4
            clear h5 h2 h3 h4
            go_enter Try.func44, Try.ntmps44
            go_wp2_with (refine wpList_load_conv rfl (.tmp 2) rfl R0.out (by rfl) ?_)
            refine (CV.out _ M0.out).mono ?_
            rintro e w1 ⟨rfl, M1⟩
            have HR1 := Lib.hid (M1.heap R0.out (by simp))
            have HM1 := Lib.hid (M0.out.trans M1)
            have z0 : w1.cell? ⟨w.heap.size, 0, none⟩ = some (.int .i64 C.form) := (cell_blk HR1.out 0).trans rfl
            have z1 : w1.cell? ⟨w.heap.size, 1, none⟩ = some (.bool C.sgn) := (cell_blk HR1.out 1).trans rfl
            clear M1
            go_wp2_with fail
            refine (HN.out _).mono ?_
            rintro e w' ⟨rfl, rfl⟩
            have z2 : w1.cell? ⟨w.heap.size, 2, none⟩ = some (.int .i64 C.m) := (cell_blk HR1.out 2).trans rfl
            have z3 : w1.cell? ⟨w.heap.size, 3, none⟩ = some (.int .i64 C.b) := (cell_blk HR1.out 3).trans rfl
            have z4 : w1.cell? ⟨w.heap.size, 4, none⟩ = some (.int .i64 C.k1) := (cell_blk HR1.out 4).trans rfl
            have z5 : w1.cell? ⟨w.heap.size, 5, none⟩ = some (.int .i64 C.k2) := (cell_blk HR1.out 5).trans rfl
            go_wp2_with fail
            go_quiet ((first
              | (go_at_call_of 91 (Value.int IntKind.i64 (u : Int)); exact quiet_left (T1.out _))
              | (go_at_call_of 91 (Value.int IntKind.i64 (v : Int)); exact quiet_left (T2.out _))
              | (go_at_call 51; exact quiet_left (refClamp_ok _ _))))
            go_wp2_with fail
            refine (refRoot_ok _ _).mono ?_
            rintro e w' ⟨rfl, rfl⟩
            rw [HLC.out]
            go_wp2_with fail
            go_ret2
            exact ⟨ret_two (by rw [HR.out]), HM1.out.drewN _⟩
          · have HR := Lib.hid (show V = (linI C x, 0) by rw [HYY.out, if_neg h4])
            have e4 : (C.form == 4) = false := by simpa using h4
            clear h5 h2 h3 h4
            go_enter Try.func44, Try.ntmps44
            go_wp2_with (refine wpList_load_conv rfl (.tmp 2) rfl R0.out (by rfl) ?_)
            refine (CV.out _ M0.out).mono ?_
            rintro e w1 ⟨rfl, M1⟩
            have HR1 := Lib.hid (M1.heap R0.out (by simp))
            have HM1 := Lib.hid (M0.out.trans M1)
            have z0 : w1.cell? ⟨w.heap.size, 0, none⟩ = some (.int .i64 C.form) := (cell_blk HR1.out 0).trans rfl
            have z1 : w1.cell? ⟨w.heap.size, 1, none⟩ = some (.bool C.sgn) := (cell_blk HR1.out 1).trans rfl
            clear M1
            go_wp2_with fail
            refine (HN.out _).mono ?_
            rintro e w' ⟨rfl, rfl⟩
            have z2 : w1.cell? ⟨w.heap.size, 2, none⟩ = some (.int .i64 C.m) := (cell_blk HR1.out 2).trans rfl
            have z3 : w1.cell? ⟨w.heap.size, 3, none⟩ = some (.int .i64 C.b) := (cell_blk HR1.out 3).trans rfl
            have z4 : w1.cell? ⟨w.heap.size, 4, none⟩ = some (.int .i64 C.k1) := (cell_blk HR1.out 4).trans rfl
            have z5 : w1.cell? ⟨w.heap.size, 5, none⟩ = some (.int .i64 C.k2) := (cell_blk HR1.out 5).trans rfl
            go_wp2_with fail
            go_quiet ((first
              | (go_at_call_of 91 (Value.int IntKind.i64 (u : Int)); exact quiet_left (T1.out _))
              | (go_at_call_of 91 (Value.int IntKind.i64 (v : Int)); exact quiet_left (T2.out _))
              | (go_at_call 51; exact quiet_left (refClamp_ok _ _))))
            go_wp2_with fail
            go_ret2
            exact ⟨ret_two (by rw [HR.out, HLC.out]), HM1.out.drewN _⟩
end Go.Proofs.Ytgjjmiaiclhidaa

namespace Go.Proofs.Ytgjjmiaiclhidaa
open Go.RowKit

def exL : Conv := ⟨1, false, 5, -10, 1, -2, .slice none 0 0⟩
def exT (g : Nat) : Conv := ⟨5, false, 0, 0, 0, 0, .slice (some ⟨g, 0, none⟩) 2 2⟩
def exP : List Pt := [⟨0, 0⟩, ⟨10, 1000000⟩]
theorem exP_ok : PtsOk exP := by
  refine ⟨by simp [exP], fun i => ?_, fun i => ?_⟩
  · match i with
    | 0 | 1 => decide
    | n + 2 => simp [exP, default]
  · match i with
    | 0 | 1 => constructor <;> decide
    | n + 2 => constructor <;> simp [exP, default]
theorem isLit {w : World} {C : Conv} {P : List Pt} (rd : RdPts w C.pts P) (pok : PtsOk P) (h : (-1000000 ≤ C.form ∧ C.form ≤ 1000000) ∧ (-1000000 ≤ C.m ∧ C.m ≤ 1000000) ∧ (-1000000 ≤ C.b ∧ C.b ≤ 1000000) ∧ (-1000000 ≤ C.k1 ∧ C.k1 ≤ 1000000) ∧ (-1000000 ≤ C.k2 ∧ C.k2 ≤ 1000000)) : IsConv w C P :=
  ⟨rd, pok, i64_small h.1, i64_small h.2.1, i64_small h.2.2.1, i64_small h.2.2.2.1, i64_small h.2.2.2.2⟩
theorem exL_val : valueI exL [] 100 = (4000000, 0) := by decide
theorem exT_val (g : Nat) : valueI (exT g) exP 3 = (300000, 0) := by
  have : valueI (exT g) exP 3 = valueI (exT 0) exP 3 := rfl
  rw [this]; decide
set_option maxRecDepth 100000 in
set_option maxHeartbeats 2000000 in
theorem awakeC_ok (w : World) : Calls Try.prog 40 #[] w fun e w' => e = .returned (.bool true) ∧ Mods [] w w' := by
  have HV1 := Lib.hid (fun W => value_ok W exL [] 100 (isLit (RdPts.nil W) PtsOk.nil (by decide)) (by decide))
  rw [exL_val] at HV1
  have HN := Lib.hid (fun W => number_ok true 255 (by decide) W)
  rw [show numI true 255 = -1 from rfl] at HN
  go_enter Try.func40, Try.ntmps40
  go_wp2_with fail
  refine (HV1.out _).mono ?_
  rintro e w1 ⟨rfl, M1⟩
  have HM1 := Lib.hid M1
  clear M1
  go_wp2_with fail
  have R2 := heap_alloc_new w1 (.cells #[.int .u8 0, .int .i64 0, .int .u8 10, .int .i64 1000000] 72)
  have M2 := HM1.out.trans ((Mods.refl (S := []) (w := w1)).alloc (.cells #[.int .u8 0, .int .i64 0, .int .u8 10, .int .i64 1000000] 72))
  generalize w1.alloc (.cells #[.int .u8 0, .int .i64 0, .int .u8 10, .int .i64 1000000] 72) = w2 at R2 M2 ⊢
  generalize w1.heap.size = g at R2 ⊢
  have RD : RdPts w2 (exT g).pts exP := ⟨_, 2, rfl, by decide, by decide, fun i hi => ⟨g, 0, rfl, by
    rw [Nat.zero_add, cell_blk R2]
    match i, hi with
    | 0, _ | 1, _ => rfl, by
    rw [Nat.zero_add, cell_blk R2]
    match i, hi with
    | 0, _ | 1, _ => rfl⟩⟩
  have HV2 := value_ok w2 (exT g) exP 3 (isLit RD exP_ok (by simp [exT])) (by decide)
  rw [exT_val] at HV2
  refine HV2.mono ?_
  rintro e w3 ⟨rfl, M3⟩
  have HM3 := Lib.hid (M2.trans M3)
  clear M3 M2 R2 RD HV2
  go_wp2_with fail
  refine (HN.out _).mono ?_
  rintro e w' ⟨rfl, rfl⟩
  go_wp2_with fail
  go_ret
  exact ⟨rfl, HM3.out⟩
set_option maxRecDepth 100000 in
theorem cLight_ok (w : World) (C : Conv) (P : List Pt) (hv : RdPts w C.pts P) :
    Calls Try.prog 39 #[.agg C.cells] w fun e w' => e = .returned (.bool (decide (P.length ≤ 30))) ∧ Mods [] w w' := by
  have M0 := Lib.hid ((Mods.refl (S := []) (w := w)).alloc (.cells C.cells 26))
  obtain ⟨ad, cap, hpts⟩ := hv.len
  have c6 : C.cells[6]? = some (.slice ad P.length cap) := by rw [← hpts]; rfl
  clear hpts hv
  go_enter Try.func39, Try.ntmps39
  go_wp2_with fail
  go_ret
  exact ⟨ret_bool (by simp; omega), M0.out⟩
end Go.Proofs.Ytgjjmiaiclhidaa

namespace Go.Proofs.Ytgjjmiaiclhidaa

open Go.RowKit
/-- A struct that is read whole under a guard. -/
theorem wpList_load_rowG {P : Program} {ops : Array Oper} {rest : List Oper} {o : Oper} {a : Act} {w : World} {Q : Exit → Act → World → Prop} (hw : Region.wanted o (yielded ops a.tmps) = true) (ty : TypeId) (x : Operand) (ho : o.op = .load ty x)
    (g : Nat) (hx : a.eval x = .pointer (some ⟨g, 0, none⟩)) (t : TypeId) (cs : Array Value) (fr : Nat × Nat) (d : TypeDesc) (hg : w.heap[g]? = some (.cells cs t fr))
    (hu : P.underlying ty = some d) (hd : (match d with | .struct _ | .array _ _ => true | _ => false) = true) (hi : (P.info? ty).map (·.size) = some cs.size)
    (h : wpList P ops Q rest (a.put o.dst (.agg cs)) w) : wpList P ops Q (o :: rest) a w :=
  wpList_step fun _ hK => by rw [if_pos hw]; exact wp_load_row ty x ho g hx t cs fr d hg hu hd hi (hK _ _ h)
theorem wpList_load_convG {ops : Array Oper} {rest : List Oper} {o : Oper} {a : Act} {w : World} {Q : Exit → Act → World → Prop} (hw : Region.wanted o (yielded ops a.tmps) = true) (x : Operand) (ho : o.op = .load 26 x)
    {g : Nat} {C : Conv} {fr : Nat × Nat} (hb : w.heap[g]? = some (.cells C.cells 26 fr)) (hx : a.eval x = .pointer (some ⟨g, 0, none⟩)) (h : wpList Try.prog ops Q rest (a.put o.dst (.agg C.cells)) w) : wpList Try.prog ops Q (o :: rest) a w :=
  wpList_load_rowG hw _ x ho g hx _ _ _ _ hb Try.underlying26 rfl C.infoCC h
theorem convL_len {C : Conv} {P : List Pt} (h : convB C P = true) : 1 ≤ (convL C P).length ∧ (convL C P).length ≤ 86 := by
  unfold convL
  by_cases h5 : C.form = 5
  · have := convB_tab h h5
    rw [if_pos h5, List.length_cons, List.length_cons, ptsL_length]
    omega
  · rw [if_neg h5]
    simp [leL_length]
theorem of_bytes {l : List Int} (h : Bytes l) : ∀ x ∈ l, 0 ≤ x ∧ x ≤ 255 := fun x hx => by
  obtain ⟨i, hi, rfl⟩ := List.mem_iff_getElem.1 hx
  have := h i
  rw [List.getD_eq_getElem?_getD, List.getElem?_eq_getElem hi] at this
  exact this
theorem convL_byt {C : Conv} {P : List Pt} (h : convB C P = true) (hr : ∀ i, (P.getD i default).raw < 256) : ∀ x ∈ convL C P, 0 ≤ x ∧ x ≤ 255 := by
  have hf := convB_f15 h
  intro x hx
  unfold convL at hx
  rw [List.mem_cons] at hx
  rcases hx with rfl | hx
  · split <;> omega
  · by_cases h5 : C.form = 5
    · have hl := convB_tab h h5
      rw [if_pos h5, List.mem_cons] at hx
      rcases hx with rfl | hx
      · omega
      · unfold ptsL at hx
        rw [List.mem_flatMap] at hx
        obtain ⟨p, hp, hx⟩ := hx
        rw [List.mem_cons] at hx
        rcases hx with rfl | hx
        · obtain ⟨i, hi, rfl⟩ := List.mem_iff_getElem.1 hp
          have := hr i
          rw [List.getD_eq_getElem?_getD, List.getElem?_eq_getElem hi] at this
          have h2 : (P[i]).raw < 256 := this
          omega
        · exact leL_bytes _ _ x hx
    · rw [if_neg h5] at hx
      simp only [List.mem_append, List.mem_cons, List.not_mem_nil, or_false] at hx
      rcases hx with (hx | hx) | hx | hx
      · exact leL_bytes _ _ x hx
      · exact leL_bytes _ _ x hx
      · omega
      · omega
end Go.Proofs.Ytgjjmiaiclhidaa
