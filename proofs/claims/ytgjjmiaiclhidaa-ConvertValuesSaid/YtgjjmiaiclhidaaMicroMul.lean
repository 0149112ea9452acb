/- math/bits.Div64 by a million, micro.Mul: contracts. -/
import Derived.Shelf.Bits.Mul64
import Derived.Test.YtgjjmiaiclhidaaMicroDiv
import Derived.Laws.BitsAllLaws
namespace Go.Proofs.Ytgjjmiaiclhidaa
open Go.Shelf
def lays264_ren : Go.Shelf.Ren := ⟨fun | 264 => 139 | n => n, fun | 53 => 115 | 46 => 148 | n => n, fun | n => n⟩
theorem lays264 : _root_.Go.Proofs.Lays.n264 Try.prog lays264_ren := {
  mixed := by kernel_rfl
  f264 := Try.func139.trans (congrArg some (by kernel_rfl))
  t46 := Try.underlying148
  a46 := Try.isAgg148
  z46 := Try.sizeOf148
  v46 := Try.zeroValue148
  t53 := Try.underlying115
  a53 := Try.isAgg115
  z53 := Try.sizeOf115
  v53 := Try.zeroValue115 }
open Go.RowKit Go.Lib in
theorem bits_Mul64 (x y : Nat) (hx : x < 18446744073709551616) (hy : y < 18446744073709551616) (w : World) :
    Calls Try.prog 139 #[.int .u64 x, .int .u64 y] w fun e w' => e = .returned (.tuple #[.int .u64 ((x * y / 18446744073709551616 : Nat) : Int), .int .u64 ((x * y % 18446744073709551616 : Nat) : Int)]) ∧ w' = w := Any.bits_Mul64 lays264 x y hx hy w

open Go.RowKit
theorem ret_pair {k k' : IntKind} {a a' b b' : Int} (h : a = a') (h' : b = b') : Ending.returned (.tuple #[.int k a, .int k' b]) = .returned (.tuple #[.int k a', .int k' b']) := by rw [h, h']
theorem div64_plain (hi lo u32 u10 u1 u0 q1 r1 u21 q0 r0 : Nat) (hh : hi < 1000000) (hl : lo < 18446744073709551616) (e1 : u32 = hi * 17592186044416 + lo / 1048576) (e2 : u10 = lo * 17592186044416 % 18446744073709551616)
    (e3 : u1 = u10 / 4294967296) (e4 : u0 = u10 % 4294967296) (e5 : q1 = u32 / 4096000000) (e6 : r1 = u32 % 4096000000) (e7 : u21 = r1 * 4294967296 + u1) (e8 : q0 = u21 / 4096000000) (e9 : r0 = u21 % 4096000000) :
    q1 * 4294967296 + q0 = (hi * 18446744073709551616 + lo) / 1000000 ∧ (r0 * 4294967296 + u0) / 17592186044416 = (hi * 18446744073709551616 + lo) % 1000000 ∧ q1 < 4294967296 ∧ q0 < 4294967296 := by
  subst e1 e2 e3 e4 e5 e6 e7 e8 e9
  omega
set_option maxRecDepth 100000 in
set_option maxHeartbeats 1000000 in
theorem len_million (w : World) : Calls Try.prog 158 #[.int .u64 1000000] w fun e w' => e = .returned (.int .i64 20) ∧ w = w' := by
  go_enter Try.func158, Try.ntmps158
  go_wp2
  go_ret
  exact ⟨ret_int (by kernel_rfl), rfl⟩
set_option maxRecDepth 100000 in
set_option maxHeartbeats 1000000 in
theorem lead_million (w : World) : Calls Try.prog 147 #[.int .u64 1000000] w fun e w' => e = .returned (.int .i64 44) ∧ w = w' := by
  go_enter Try.func147, Try.ntmps147
  go_wp2_with fail
  refine (len_million _).mono ?_
  rintro e w' ⟨rfl, rfl⟩
  go_wp2
  go_ret
  exact ⟨rfl, rfl⟩
set_option maxRecDepth 100000 in
set_option maxHeartbeats 4000000 in
theorem div64_ok (hi lo Q R : Nat) (hh : hi < 1000000) (hl : lo < 18446744073709551616) (hQ : (hi * 18446744073709551616 + lo) / 1000000 = Q) (hR : (hi * 18446744073709551616 + lo) % 1000000 = R) (w : World) :
    Calls Try.prog 141 #[.int .u64 (hi : Nat), .int .u64 (lo : Nat), .int .u64 1000000] w fun e w' => e = .returned (.tuple #[.int .u64 (Q : Nat), .int .u64 (R : Nat)]) ∧ ∃ n, w' = w.drewN n := by
  have HL := Lib.hid hl
  have HQ := Lib.hid hQ
  have HR := Lib.hid hR
  clear hl hQ hR
  by_cases h0 : hi = 0
  · subst h0
    have q1 : (lo : Int) / 1000000 = (Q : Int) := by have := HQ.out; omega
    have q2 : (lo : Int) % 1000000 = (R : Int) := by have := HR.out; omega
    have hl := HL.out
    have q3 : IntKind.u64.wrap (Q : Int) = (Q : Int) := by rw [IntKind.wrap_u64]; have := HQ.out; omega
    have q4 : IntKind.u64.wrap (R : Int) = (R : Int) := by rw [IntKind.wrap_u64]; have := HR.out; omega
    have Q2 := Lib.hid q2
    clear hh hl
    go_enter Try.func141, Try.ntmps141
    go_wp2_with fail
    go_quiet (fail)
    go_wp2
    go_ret2
    exact ⟨ret_pair rfl Q2.out, _, rfl⟩
  · have i1 : decide ((1000000 : Int) ≤ (hi : Int)) = false := decide_eq_false (by omega)
    have i2 : ((hi : Int) == 0) = false := by simpa using h0
    have HH := Lib.hid hh
    clear h0 hh
    go_enter Try.func141, Try.ntmps141
    go_wp2_with fail
    refine (lead_million _).mono ?_
    rintro e w' ⟨rfl, rfl⟩
    obtain ⟨U32, e1⟩ : ∃ x : Nat, x = hi * 17592186044416 + lo / 1048576 := ⟨_, rfl⟩
    obtain ⟨U10, e2⟩ : ∃ x : Nat, x = lo * 17592186044416 % 18446744073709551616 := ⟨_, rfl⟩
    obtain ⟨U1, e3⟩ : ∃ x : Nat, x = U10 / 4294967296 := ⟨_, rfl⟩
    obtain ⟨U0, e4⟩ : ∃ x : Nat, x = U10 % 4294967296 := ⟨_, rfl⟩
    obtain ⟨Q1, e5⟩ : ∃ x : Nat, x = U32 / 4096000000 := ⟨_, rfl⟩
    obtain ⟨R1, e6⟩ : ∃ x : Nat, x = U32 % 4096000000 := ⟨_, rfl⟩
    obtain ⟨U21, e7⟩ : ∃ x : Nat, x = R1 * 4294967296 + U1 := ⟨_, rfl⟩
    obtain ⟨Q0, e8⟩ : ∃ x : Nat, x = U21 / 4096000000 := ⟨_, rfl⟩
    obtain ⟨R0, e9⟩ : ∃ x : Nat, x = U21 % 4096000000 := ⟨_, rfl⟩
    have hl := HL.out
    have hh := HH.out
    obtain ⟨p1, p2, p3, p4⟩ := div64_plain hi lo U32 U10 U1 U0 Q1 R1 U21 Q0 R0 hh hl e1 e2 e3 e4 e5 e6 e7 e8 e9
    rw [HQ.out] at p1
    rw [HR.out] at p2
    have f1 : bits .or .u64 (IntKind.u64.wrap ((hi : Int) * 17592186044416)) ((lo : Int) / 1048576) = (U32 : Int) := by
      have a : IntKind.u64.wrap ((hi : Int) * 17592186044416) = ((hi * 17592186044416 : Nat) : Int) := by rw [IntKind.wrap_u64]; omega
      have b : (lo : Int) / 1048576 = ((lo / 1048576 : Nat) : Int) := by omega
      rw [a, b, u64_or_nat _ _ (by omega) (by omega), e1, nat_join 44 _ _ (by omega) (by omega)]
    have f2 : IntKind.u64.wrap ((lo : Int) * 17592186044416) = (U10 : Int) := by rw [IntKind.wrap_u64]; omega
    have f3 : (U10 : Int) / 4294967296 = (U1 : Int) := by omega
    have f4 : bits .and .u64 (U10 : Int) 4294967295 = (U0 : Int) := by
      have := u64_and_nat U10 4294967295 (by omega) (by omega)
      rw [show (4294967295 : Nat) = 2 ^ 32 - 1 from rfl, Nat.and_two_pow_sub_one_eq_mod] at this
      rw [e4]
      exact this
    have f5 : bits .and .u64 17592186044416000000 4294967295 = 0 := by kernel_rfl
    have f6 : IntKind.u64.wrap ((U32 : Int) / 4096000000) = (Q1 : Int) := by rw [IntKind.wrap_u64]; omega
    have f6' : IntKind.u64.wrap (Q1 : Int) = (Q1 : Int) := by rw [IntKind.wrap_u64]; omega
    have f16' : IntKind.u64.wrap (Q0 : Int) = (Q0 : Int) := by rw [IntKind.wrap_u64]; omega
    have f7 : (U32 : Int) / 4096000000 = (Q1 : Int) := by omega
    obtain ⟨P1, g1⟩ : ∃ x : Nat, x = Q1 * 4096000000 := ⟨_, rfl⟩
    have f8 : IntKind.u64.wrap ((Q1 : Int) * 4096000000) = (P1 : Int) := by rw [IntKind.wrap_u64]; omega
    have f9 : IntKind.u64.wrap ((U32 : Int) - P1) = (R1 : Int) := by rw [IntKind.wrap_u64]; omega
    have d1 : decide ((4294967296 : Int) ≤ (Q1 : Int)) = false := decide_eq_false (by omega)
    obtain ⟨T1, g2⟩ : ∃ x : Nat, x = 4294967296 * R1 := ⟨_, rfl⟩
    have f10 : IntKind.u64.wrap (4294967296 * (R1 : Int)) = (T1 : Int) := by rw [IntKind.wrap_u64]; omega
    have f11 : IntKind.u64.wrap ((T1 : Int) + U1) = (U21 : Int) := by rw [IntKind.wrap_u64]; omega
    have d2 : decide ((U21 : Int) < 0) = false := decide_eq_false (by omega)
    obtain ⟨V1, g3⟩ : ∃ x : Nat, x = U32 * 4294967296 % 18446744073709551616 := ⟨_, rfl⟩
    have f12 : IntKind.u64.wrap ((U32 : Int) * 4294967296) = (V1 : Int) := by rw [IntKind.wrap_u64]; omega
    obtain ⟨V2, g4⟩ : ∃ x : Nat, x = (V1 + U1) % 18446744073709551616 := ⟨_, rfl⟩
    have f13 : IntKind.u64.wrap ((V1 : Int) + U1) = (V2 : Int) := by rw [IntKind.wrap_u64]; omega
    obtain ⟨V3, g5⟩ : ∃ x : Nat, x = (Q1 * 17592186044416000000) % 18446744073709551616 := ⟨_, rfl⟩
    have f14 : IntKind.u64.wrap ((Q1 : Int) * 17592186044416000000) = (V3 : Int) := by rw [IntKind.wrap_u64]; omega
    have f15 : IntKind.u64.wrap ((V2 : Int) - V3) = (U21 : Int) := by rw [IntKind.wrap_u64]; omega
    have f16 : IntKind.u64.wrap ((U21 : Int) / 4096000000) = (Q0 : Int) := by rw [IntKind.wrap_u64]; omega
    have f17 : (U21 : Int) / 4096000000 = (Q0 : Int) := by omega
    obtain ⟨P0, g6⟩ : ∃ x : Nat, x = Q0 * 4096000000 := ⟨_, rfl⟩
    have f18 : IntKind.u64.wrap ((Q0 : Int) * 4096000000) = (P0 : Int) := by rw [IntKind.wrap_u64]; omega
    have f19 : IntKind.u64.wrap ((U21 : Int) - P0) = (R0 : Int) := by rw [IntKind.wrap_u64]; omega
    have d3 : decide ((4294967296 : Int) ≤ (Q0 : Int)) = false := decide_eq_false (by omega)
    obtain ⟨T3, g7⟩ : ∃ x : Nat, x = 4294967296 * R0 := ⟨_, rfl⟩
    have f20 : IntKind.u64.wrap (4294967296 * (R0 : Int)) = (T3 : Int) := by rw [IntKind.wrap_u64]; omega
    obtain ⟨T4, g8⟩ : ∃ x : Nat, x = T3 + U0 := ⟨_, rfl⟩
    have f21 : IntKind.u64.wrap ((T3 : Int) + U0) = (T4 : Int) := by rw [IntKind.wrap_u64]; omega
    have d4 : decide ((T4 : Int) < 0) = false := decide_eq_false (by omega)
    obtain ⟨V4, g9⟩ : ∃ x : Nat, x = Q1 * 4294967296 := ⟨_, rfl⟩
    have f22 : IntKind.u64.wrap ((Q1 : Int) * 4294967296) = (V4 : Int) := by rw [IntKind.wrap_u64]; omega
    have f23 : IntKind.u64.wrap ((V4 : Int) + Q0) = (Q : Int) := by rw [IntKind.wrap_u64]; omega
    obtain ⟨V5, g10⟩ : ∃ x : Nat, x = U21 * 4294967296 % 18446744073709551616 := ⟨_, rfl⟩
    have f24 : IntKind.u64.wrap ((U21 : Int) * 4294967296) = (V5 : Int) := by rw [IntKind.wrap_u64]; omega
    obtain ⟨V6, g11⟩ : ∃ x : Nat, x = (V5 + U0) % 18446744073709551616 := ⟨_, rfl⟩
    have f25 : IntKind.u64.wrap ((V5 : Int) + U0) = (V6 : Int) := by rw [IntKind.wrap_u64]; omega
    obtain ⟨V7, g12⟩ : ∃ x : Nat, x = (Q0 * 17592186044416000000) % 18446744073709551616 := ⟨_, rfl⟩
    have f26 : IntKind.u64.wrap ((Q0 : Int) * 17592186044416000000) = (V7 : Int) := by rw [IntKind.wrap_u64]; omega
    have f27 : IntKind.u64.wrap ((V6 : Int) - V7) = (T4 : Int) := by rw [IntKind.wrap_u64]; omega
    have f28 : (T4 : Int) / 17592186044416 = (R : Int) := by omega
    clear e1 e2 e3 e4 e5 e6 e7 e8 e9 g1 g2 g3 g4 g5 g6 g7 g8 g9 g10 g11 g12 p1 p2 p3 p4 hl hh
    go_wp2_with fail
    go_loop [15, 16] (fun a b => a = .int .u64 (Q1 : Nat) ∧ b = .int .u64 (R1 : Nat)) (fun _ _ => 0)
    case atStart => exact ⟨rfl, rfl⟩
    case round =>
      obtain ⟨rfl, rfl⟩ := hrel
      go_wp2_with fail
      go_loop [18, 16] (fun a b => a = .int .u64 (Q0 : Nat) ∧ b = .int .u64 (R0 : Nat)) (fun _ _ => 0)
      case atStart => exact ⟨rfl, rfl⟩
      case round =>
        obtain ⟨rfl, rfl⟩ := hrel
        go_wp2_with fail
        go_ret2
        exact ⟨rfl, 0, rfl⟩
/-- A product by its size. -/
theorem mul_size (x y : Int) (A B : Nat) (ha : A = x.natAbs) (hb : B = y.natAbs) : ((x < 0 ↔ y < 0) → x * y = ((A * B : Nat) : Int)) ∧ (¬ (x < 0 ↔ y < 0) → x * y = -((A * B : Nat) : Int)) := by
  subst ha hb
  have e : (x * y).natAbs = x.natAbs * y.natAbs := Int.natAbs_mul x y
  constructor
  · intro h
    have : 0 ≤ x * y := by
      by_cases hx : x < 0
      · exact Int.le_of_lt (Int.mul_pos_of_neg_of_neg hx (h.1 hx))
      · exact Int.mul_nonneg (by omega) (by have := mt h.2 hx; omega)
    omega
  · intro h
    have : x * y ≤ 0 := by
      by_cases hx : x < 0
      · exact Int.mul_nonpos_of_nonpos_of_nonneg (by omega) (by have : ¬ y < 0 := fun h2 => h ⟨fun _ => h2, fun _ => hx⟩; omega)
      · have : y < 0 := Decidable.of_not_not fun h2 => h ⟨fun h3 => absurd h3 hx, fun h3 => absurd h3 h2⟩
        exact Int.mul_nonpos_of_nonneg_of_nonpos (by omega) (by omega)
    omega
set_option maxRecDepth 100000 in
set_option maxHeartbeats 1000000 in
theorem size_ok (v : Int) (hv : -1000000000000 ≤ v ∧ v ≤ 1000000000000) (w : World) :
    Calls Try.prog 140 #[.int .i64 v] w fun e w' => e = .returned (.int .u64 (v.natAbs : Nat)) ∧ w = w' := by
  obtain ⟨h1, h2⟩ := hv
  by_cases h : v < 0
  · have HR := Lib.hid (show (v.natAbs : Int) = -v by omega)
    have hw : IntKind.u64.wrap (-v) = -v := by rw [IntKind.wrap_u64]; omega
    go_enter Try.func140, Try.ntmps140
    go_wp2
    all_goals
      go_ret
      refine ⟨ret_int ?_, rfl⟩
      first | (rw [HR.out]; done) | (rw [HR.out, IntKind.wrap_u64]; omega)
  · have HR := Lib.hid (show (v.natAbs : Int) = v by omega)
    have hw : IntKind.u64.wrap v = v := by rw [IntKind.wrap_u64]; omega
    go_enter Try.func140, Try.ntmps140
    go_wp2
    all_goals
      go_ret
      refine ⟨ret_int ?_, rfl⟩
      first | (rw [HR.out]; done) | (rw [HR.out, IntKind.wrap_u64]; omega)
set_option maxRecDepth 100000 in
set_option maxHeartbeats 4000000 in
theorem mul_ok (a b : Int) (w : World) :
    Calls Try.prog 122 #[.int .i64 a, .int .i64 b] w fun e w' => e = .returned (.int .i64 (mulV a b)) ∧ ∃ n, w' = w.drewN n := by
  have HD := Lib.hid (show mulV a b = clampI (clampI a * clampI b / 1000000) from rfl)
  have ⟨a1, a2⟩ := clampI_bd a
  have ⟨b1, b2⟩ := clampI_bd b
  have CA := Lib.hid (clamp_ok a)
  have CB := Lib.hid (clamp_ok b)
  generalize clampI a = x at *
  generalize clampI b = y at *
  generalize mulV a b = R at *
  obtain ⟨A, hA⟩ : ∃ A, A = x.natAbs := ⟨_, rfl⟩
  obtain ⟨B, hB⟩ : ∃ B, B = y.natAbs := ⟨_, rfl⟩
  have hab := Nat.mul_le_mul (show A ≤ 1000000000000 by omega) (show B ≤ 1000000000000 by omega)
  obtain ⟨hi, hhi⟩ : ∃ hi, hi = A * B / 18446744073709551616 := ⟨_, rfl⟩
  obtain ⟨lo, hlo⟩ : ∃ lo, lo = A * B % 18446744073709551616 := ⟨_, rfl⟩
  obtain ⟨q, hq⟩ : ∃ q, A * B / 1000000 = q := ⟨_, rfl⟩
  obtain ⟨r, hr⟩ : ∃ r, A * B % 1000000 = r := ⟨_, rfl⟩
  have hN : hi * 18446744073709551616 + lo = A * B := by omega
  have q0 : q ≤ 1000000000000000000 := by omega
  have HM := Lib.hid (mul_size x y A B hA hB)
  have SA := Lib.hid (size_ok x ⟨a1, a2⟩)
  have SB := Lib.hid (size_ok y ⟨b1, b2⟩)
  rw [← hA] at SA
  rw [← hB] at SB
  have HML := Lib.hid (fun W => bits_Mul64 A B (by omega) (by omega) W)
  rw [← hhi, ← hlo] at HML
  have HDV := Lib.hid (div64_ok hi lo q r (by omega) (by omega) (by rw [hN]; exact hq) (by rw [hN]; exact hr))
  have HQ := Lib.hid (show (((A * B : Nat) : Int) / 1000000 = q ∧ (-((A * B : Nat) : Int)) / 1000000 = if 0 < r then -((q + 1 : Nat) : Int) else -(q : Int)) from ⟨by omega, by split <;> omega⟩)
  clear hab hhi hlo hq hr hN hA hB
  by_cases hs : (x < 0 ↔ y < 0)
  · have HR := Lib.hid (show R = clampI q by rw [HD.out, HM.out.1 hs, HQ.out.1])
    have dd : (decide (x < 0) == decide (y < 0)) = true := by rw [decide_eq_decide.2 hs]; exact beq_self_eq_true _
    have hw : IntKind.i64.wrap (q : Int) = (q : Int) := IntWalk.i64_in _ (by omega)
    clear hs
    go_enter Try.func122, Try.ntmps122
    go_wp2_with (first
      | (go_at_call_of 99 (Value.int IntKind.i64 a); refine (CA.out _).mono ?_; rintro e w' ⟨rfl, rfl⟩)
      | (go_at_call_of 99 (Value.int IntKind.i64 b); refine (CB.out _).mono ?_; rintro e w' ⟨rfl, rfl⟩)
      | (go_at_call_of 140 (Value.int IntKind.i64 x); refine (SA.out _).mono ?_; rintro e w' ⟨rfl, rfl⟩)
      | (go_at_call_of 140 (Value.int IntKind.i64 y); refine (SB.out _).mono ?_; rintro e w' ⟨rfl, rfl⟩))
    refine (HML.out _).mono ?_
    rintro e w' ⟨rfl, rfl⟩
    go_wp2_with fail
    refine (HDV.out _).mono ?_
    rintro e w' ⟨rfl, nd, rfl⟩
    go_wp2_with fail
    refine (clamp_ok _ _).mono ?_
    rintro e w' ⟨rfl, rfl⟩
    go_wp2_with fail
    go_ret
    exact ⟨ret_int HR.out.symm, _, rfl⟩
  · have dd : (decide (x < 0) == decide (y < 0)) = false := beq_eq_false_iff_ne.2 fun h => hs (decide_eq_decide.1 h)
    by_cases hr0 : 0 < r
    · have HR := Lib.hid (show R = clampI (-((q : Int) + 1)) by rw [HD.out, HM.out.2 hs, HQ.out.2, if_pos hr0]; rfl)
      have hw : IntKind.i64.wrap ((q : Int) + 1) = (q : Int) + 1 := IntWalk.i64_in _ (by omega)
      have dr : decide (0 < r) = true := decide_eq_true hr0
      clear hs hr0
      go_enter Try.func122, Try.ntmps122
      go_wp2_with (first
        | (go_at_call_of 99 (Value.int IntKind.i64 a); refine (CA.out _).mono ?_; rintro e w' ⟨rfl, rfl⟩)
        | (go_at_call_of 99 (Value.int IntKind.i64 b); refine (CB.out _).mono ?_; rintro e w' ⟨rfl, rfl⟩)
        | (go_at_call_of 140 (Value.int IntKind.i64 x); refine (SA.out _).mono ?_; rintro e w' ⟨rfl, rfl⟩)
        | (go_at_call_of 140 (Value.int IntKind.i64 y); refine (SB.out _).mono ?_; rintro e w' ⟨rfl, rfl⟩))
      refine (HML.out _).mono ?_
      rintro e w' ⟨rfl, rfl⟩
      go_wp2_with fail
      refine (HDV.out _).mono ?_
      rintro e w' ⟨rfl, nd, rfl⟩
      go_wp2_with fail
      refine (clamp_ok _ _).mono ?_
      rintro e w' ⟨rfl, rfl⟩
      go_wp2_with fail
      go_ret
      exact ⟨ret_int HR.out.symm, _, rfl⟩
    · have HR := Lib.hid (show R = clampI (-(q : Int)) by rw [HD.out, HM.out.2 hs, HQ.out.2, if_neg hr0])
      have hw : IntKind.i64.wrap (q : Int) = (q : Int) := IntWalk.i64_in _ (by omega)
      have dr : decide (0 < r) = false := decide_eq_false hr0
      clear hs hr0
      go_enter Try.func122, Try.ntmps122
      go_wp2_with (first
        | (go_at_call_of 99 (Value.int IntKind.i64 a); refine (CA.out _).mono ?_; rintro e w' ⟨rfl, rfl⟩)
        | (go_at_call_of 99 (Value.int IntKind.i64 b); refine (CB.out _).mono ?_; rintro e w' ⟨rfl, rfl⟩)
        | (go_at_call_of 140 (Value.int IntKind.i64 x); refine (SA.out _).mono ?_; rintro e w' ⟨rfl, rfl⟩)
        | (go_at_call_of 140 (Value.int IntKind.i64 y); refine (SB.out _).mono ?_; rintro e w' ⟨rfl, rfl⟩))
      refine (HML.out _).mono ?_
      rintro e w' ⟨rfl, rfl⟩
      go_wp2_with fail
      refine (HDV.out _).mono ?_
      rintro e w' ⟨rfl, nd, rfl⟩
      go_wp2_with fail
      refine (clamp_ok _ _).mono ?_
      rintro e w' ⟨rfl, rfl⟩
      go_wp2_with fail
      go_ret
      exact ⟨ret_int HR.out.symm, _, rfl⟩
end Go.Proofs.Ytgjjmiaiclhidaa
