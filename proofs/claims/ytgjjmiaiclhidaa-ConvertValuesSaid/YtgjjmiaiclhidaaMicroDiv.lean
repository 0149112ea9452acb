/- micro.floor, Div, the reference's Div and Mul: contracts. -/
import Derived.Test.YtgjjmiaiclhidaaMicro
import Derived.Test.YtgjjmiaiclhidaaVal
namespace Go.Proofs.Ytgjjmiaiclhidaa
open Go.RowKit

theorem ret_two {k k' : IntKind} {a b : Int} {R : Int × Int} (h : R = (a, b)) : Ending.returned (.tuple #[.int k a, .int k' b]) = .returned (.tuple #[.int k R.1, .int k' R.2]) := by rw [h]
set_option maxHeartbeats 1000000 in
theorem mfloor_ok (n d : Int) (w : World) (hn : -1000000000000000000 ≤ n ∧ n ≤ 1000000000000000000) (hd : d ≠ 0) (hd2 : -1000000000000 ≤ d ∧ d ≤ 1000000000000) :
    Calls Try.prog 138 #[.int .i64 n, .int .i64 d] w fun e w' => e = .returned (.int .i64 (fdivI n d)) ∧ w = w' := by
  have H := Lib.hid (floor_any n d hd)
  obtain ⟨hn1, hn2⟩ := hn
  obtain ⟨d1, d2⟩ := hd2
  have hq := tquot_bd n d 1000000000000000000 hn1 hn2
  have hr0 := Int.natAbs_tmod n d
  have hr : -1000000000000 ≤ n.tmod d ∧ n.tmod d ≤ 1000000000000 := by
    have : (n.tmod d).natAbs < d.natAbs := by rw [hr0]; exact Nat.mod_lt _ (by omega)
    omega
  have hz : (d == 0) = false := by simpa using hd
  clear hr0
  have w1 : IntKind.i64.wrap (n.tdiv d) = n.tdiv d := IntWalk.i64_in _ (by omega)
  have w2 : IntKind.i64.wrap (n.tmod d) = n.tmod d := IntWalk.i64_in _ (by omega)
  by_cases h0 : n.tmod d = 0
  · have HR := Lib.hid (show fdivI n d = n.tdiv d by rw [← H.out, if_neg (by simp [h0])])
    have e0 : (n.tmod d != 0) = false := by simpa using h0
    clear h0
    go_enter Try.func138, Try.ntmps138
    go_wp2
    go_ret
    exact ⟨ret_int HR.out.symm, rfl⟩
  · have e0 : (n.tmod d != 0) = true := by simpa using h0
    by_cases h1 : (n < 0 ↔ ¬ d < 0)
    · have HR := Lib.hid (show fdivI n d = n.tdiv d - 1 by rw [← H.out, if_pos ⟨h0, h1⟩])
      have hh : (decide (n < 0) != decide (d < 0)) = true := by by_cases a : n < 0 <;> by_cases b : d < 0 <;> simp_all
      clear h0
      by_cases a : n < 0
      · have b : ¬ d < 0 := h1.1 a
        clear h1
        go_enter Try.func138, Try.ntmps138
        go_wp2
        go_ret
        exact ⟨ret_int HR.out.symm, rfl⟩
      · have b : d < 0 := Decidable.of_not_not fun h => a (h1.2 h)
        have e1 : (n % d != 0) = true := by rw [← Int.tmod_eq_emod_of_nonneg (by omega)]; exact e0
        clear h1
        go_enter Try.func138, Try.ntmps138
        go_wp2
        go_ret
        exact ⟨ret_int HR.out.symm, rfl⟩
    · have HR := Lib.hid (show fdivI n d = n.tdiv d by rw [← H.out, if_neg (fun h => h1 h.2)])
      clear h0
      by_cases a : n < 0
      · have b : d < 0 := Decidable.of_not_not fun h => h1 ⟨fun _ => h, fun _ => a⟩
        clear h1
        go_enter Try.func138, Try.ntmps138
        go_wp2
        go_ret
        exact ⟨ret_int HR.out.symm, rfl⟩
      · have b : ¬ d < 0 := fun h => h1 ⟨fun h' => absurd h' a, fun h' => absurd h h'⟩
        have e1 : (n % d != 0) = true := by rw [← Int.tmod_eq_emod_of_nonneg (by omega)]; exact e0
        clear h1
        go_enter Try.func138, Try.ntmps138
        go_wp2
        go_ret
        exact ⟨ret_int HR.out.symm, rfl⟩
set_option maxHeartbeats 1000000 in
theorem div_ok (a b : Int) (w : World) :
    Calls Try.prog 121 #[.int .i64 a, .int .i64 b] w fun e w' => e = .returned (.tuple #[.int .i64 (divV a b).1, .int .i64 (divV a b).2]) ∧ w = w' := by
  have HD := Lib.hid (show divV a b = if clampI b = 0 then (0, 12) else (clampI (fdivI (clampI a * 1000000) (clampI b)), 0) from rfl)
  have ⟨a1, a2⟩ := clampI_bd a
  have ⟨b1, b2⟩ := clampI_bd b
  have CA := Lib.hid (clamp_ok a)
  have CB := Lib.hid (clamp_ok b)
  generalize clampI a = x at *
  generalize clampI b = y at *
  generalize divV a b = R at *
  by_cases h : y = 0
  · have HR := Lib.hid (show R = (0, 12) by rw [HD.out, if_pos h])
    have e0 : (y == 0) = true := by simpa using h
    clear h
    go_enter Try.func121, Try.ntmps121
    go_wp2_with (first
      | (go_at_call_of 99 (Value.int IntKind.i64 a); refine (CA.out _).mono ?_; rintro e w' ⟨rfl, rfl⟩)
      | (go_at_call_of 99 (Value.int IntKind.i64 b); refine (CB.out _).mono ?_; rintro e w' ⟨rfl, rfl⟩))
    go_ret2
    exact ⟨ret_two HR.out, rfl⟩
  · have HR := Lib.hid (show R = (clampI (fdivI (x * 1000000) y), 0) by rw [HD.out, if_neg h])
    have e0 : (y == 0) = false := by simpa using h
    go_enter Try.func121, Try.ntmps121
    go_wp2_with (first
      | (go_at_call_of 99 (Value.int IntKind.i64 a); refine (CA.out _).mono ?_; rintro e w' ⟨rfl, rfl⟩)
      | (go_at_call_of 99 (Value.int IntKind.i64 b); refine (CB.out _).mono ?_; rintro e w' ⟨rfl, rfl⟩))
    refine (mfloor_ok _ y _ (by omega) h ⟨b1, b2⟩).mono ?_
    rintro e w' ⟨rfl, rfl⟩
    go_wp2_with fail
    refine (clamp_ok _ _).mono ?_
    rintro e w' ⟨rfl, rfl⟩
    go_wp2_with fail
    go_ret2
    exact ⟨ret_two HR.out, rfl⟩
set_option maxHeartbeats 1000000 in
theorem refDiv_ok (a b : Int) (w : World) :
    Calls Try.prog 92 #[.int .i64 a, .int .i64 b] w fun e w' => e = .returned (.tuple #[.int .i64 (divV a b).1, .int .i64 (divV a b).2]) ∧ w = w' := by
  have HD := Lib.hid (show divV a b = if clampI b = 0 then (0, 12) else (clampI (fdivI (clampI a * 1000000) (clampI b)), 0) from rfl)
  have ⟨a1, a2⟩ := clampI_bd a
  have ⟨b1, b2⟩ := clampI_bd b
  have CA := Lib.hid (refClamp_ok a)
  have CB := Lib.hid (refClamp_ok b)
  generalize clampI a = x at *
  generalize clampI b = y at *
  generalize divV a b = R at *
  rcases Int.lt_trichotomy y 0 with h | h | h
  · obtain ⟨z, rfl⟩ : ∃ z : Int, y = -z := ⟨-y, by omega⟩
    have HR := Lib.hid (show R = (clampI (-x * 1000000 / z), 0) by rw [HD.out, if_neg (by omega), fdivI_neg h, Int.neg_mul, Int.neg_neg])
    have e0 : (-z == 0) = false := by simp; omega
    have e2 : (z == 0) = false := by simp; omega
    have z0 : 0 < z := by omega
    go_enter Try.func92, Try.ntmps92
    go_wp2_with fail
    refine (CA.out _).mono ?_
    rintro e w' ⟨rfl, rfl⟩
    go_wp2_with fail
    refine (CB.out _).mono ?_
    rintro e w' ⟨rfl, rfl⟩
    go_wp2_with fail
    refine (rfloor_ok (-x * 1000000) z _ (by omega) (by omega) (by omega)).mono ?_
    rintro e w' ⟨rfl, rfl⟩
    go_wp2_with fail
    refine (refClamp_ok _ _).mono ?_
    rintro e w' ⟨rfl, rfl⟩
    go_wp2_with fail
    go_ret2
    exact ⟨ret_two HR.out, rfl⟩
  · have HR := Lib.hid (show R = (0, 12) by rw [HD.out, if_pos h])
    have e0 : (y == 0) = true := by simpa using h
    clear h
    go_enter Try.func92, Try.ntmps92
    go_wp2_with fail
    refine (CA.out _).mono ?_
    rintro e w' ⟨rfl, rfl⟩
    go_wp2_with fail
    refine (CB.out _).mono ?_
    rintro e w' ⟨rfl, rfl⟩
    go_wp2_with fail
    go_ret2
    exact ⟨ret_two HR.out, rfl⟩
  · have HR := Lib.hid (show R = (clampI (x * 1000000 / y), 0) by rw [HD.out, if_neg (by omega), fdivI_pos h])
    have e0 : (y == 0) = false := by simp; omega
    go_enter Try.func92, Try.ntmps92
    go_wp2_with fail
    refine (CA.out _).mono ?_
    rintro e w' ⟨rfl, rfl⟩
    go_wp2_with fail
    refine (CB.out _).mono ?_
    rintro e w' ⟨rfl, rfl⟩
    go_wp2_with fail
    refine (rfloor_ok (x * 1000000) y _ (by omega) (by omega) (by omega)).mono ?_
    rintro e w' ⟨rfl, rfl⟩
    go_wp2_with fail
    refine (refClamp_ok _ _).mono ?_
    rintro e w' ⟨rfl, rfl⟩
    go_wp2_with fail
    go_ret2
    exact ⟨ret_two HR.out, rfl⟩
set_option maxHeartbeats 1000000 in
theorem refMul_ok (a b : Int) (w : World) :
    Calls Try.prog 93 #[.int .i64 a, .int .i64 b] w fun e w' => e = .returned (.int .i64 (mulV a b)) ∧ w = w' := by
  have HD := Lib.hid (show mulV a b = clampI (clampI a * clampI b / 1000000) from rfl)
  have ⟨a1, a2⟩ := clampI_bd a
  have ⟨b1, b2⟩ := clampI_bd b
  have CA := Lib.hid (refClamp_ok a)
  have CB := Lib.hid (refClamp_ok b)
  generalize clampI a = x at *
  generalize clampI b = y at *
  generalize mulV a b = R at *
  have HS := Lib.hid (mul_split x y)
  have q1 : -1000000 ≤ x / 1000000 ∧ x / 1000000 ≤ 1000000 := by omega
  have q2 : 0 ≤ x - x / 1000000 * 1000000 ∧ x - x / 1000000 * 1000000 ≤ 999999 := by omega
  go_enter Try.func93, Try.ntmps93
  go_wp2_with fail
  refine (CA.out _).mono ?_
  rintro e w' ⟨rfl, rfl⟩
  go_wp2_with fail
  refine (CB.out _).mono ?_
  rintro e w' ⟨rfl, rfl⟩
  go_wp2_with fail
  refine (rfloor_ok x 1000000 _ (by omega) (by omega) (by omega)).mono ?_
  rintro e w' ⟨rfl, rfl⟩
  generalize x / 1000000 = q at *
  generalize hp : x - q * 1000000 = p at *
  have HP := Lib.hid hp
  have m1 := mul_bds (a := q) (b := y) (A := 1000000) (B := 1000000000000) q1 ⟨b1, b2⟩
  have m2 := mul_bds (a := p) (b := y) (A := 999999) (B := 1000000000000) (by omega) ⟨b1, b2⟩
  have hpw : IntKind.i64.wrap (x - q * 1000000) = p := by rw [hp]; exact IntWalk.i64_in _ (by omega)
  obtain ⟨q3, q4⟩ := q1
  have m3 := quot_bd (p * y) 1000000 (by omega) 1000000000000000000 (by omega) (by omega)
  obtain ⟨m4, m5⟩ := m1
  obtain ⟨m6, m7⟩ := m2
  clear hp
  go_wp2_with fail
  refine (rfloor_ok (p * y) 1000000 _ (by omega) (by omega) (by omega)).mono ?_
  rintro e w' ⟨rfl, rfl⟩
  go_wp2_with fail
  refine (refClamp_ok _ _).mono ?_
  rintro e w' ⟨rfl, rfl⟩
  go_wp2_with fail
  go_ret
  exact ⟨ret_int (by rw [HS.out, HD.out]), rfl⟩
end Go.Proofs.Ytgjjmiaiclhidaa
