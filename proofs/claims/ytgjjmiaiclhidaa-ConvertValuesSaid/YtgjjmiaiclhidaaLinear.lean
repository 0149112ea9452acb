/- convert.ten, linear and the reference's ten: contracts. -/
import Derived.Test.YtgjjmiaiclhidaaVal
import Derived.Test.YtgjjmiaiclhidaaMicro
namespace Go.Proofs.Ytgjjmiaiclhidaa
open Go.RowKit

set_option maxHeartbeats 1000000 in
theorem ten_ok (n : Nat) (hn : n ≤ 12) (w : World) : Calls Try.prog 137 #[.int .i64 (n : Nat)] w fun e w' => e = .returned (.int .i64 (tenI n)) ∧ w = w' := by
  go_enter Try.func137, Try.ntmps137
  go_wp2
  go_loop [3, 5] (fun out i => ∃ k : Nat, k ≤ n ∧ i = .int .i64 k ∧ out = .int .i64 (tenI k)) (fun _ i => n - (intOf i).toNat)
  case atStart => exact ⟨0, Nat.zero_le _, rfl, rfl⟩
  case round =>
    obtain ⟨k, hk, rfl, rfl⟩ := hrel
    have ht := ten12 (k := k) (by omega)
    have hs := Lib.hid (tenI_succ k)
    by_cases hlt : k < n
    · have ht2 := ten12 (k := k + 1) (by omega)
      rw [hs.out] at ht2
      obtain ⟨t1, t2⟩ := ht
      obtain ⟨t3, t4⟩ := ht2
      generalize tenI k = t at *
      go_wp2
      go_round
      case rel => exact ⟨k + 1, by omega, by go_num, by first | (rw [hs.out, Int.mul_comm]; done) | rw [hs.out]⟩
      case measure => simp [intOf]; omega
    · obtain rfl : k = n := by omega
      go_wp2
      go_ret
      exact ⟨rfl, rfl⟩
set_option maxHeartbeats 1000000 in
theorem refTen_ok (n : Nat) (hn : n ≤ 12) (w : World) : Calls Try.prog 91 #[.int .i64 (n : Nat)] w fun e w' => e = .returned (.int .i64 (tenI n)) ∧ w = w' := by
  go_enter Try.func91, Try.ntmps91
  go_wp2
  go_loop [3, 4] (fun out i => ∃ k : Nat, k ≤ n ∧ i = .int .i64 k ∧ out = .int .i64 (tenI k)) (fun _ i => n - (intOf i).toNat)
  case atStart => exact ⟨0, Nat.zero_le _, rfl, rfl⟩
  case round =>
    obtain ⟨k, hk, rfl, rfl⟩ := hrel
    have ht := ten12 (k := k) (by omega)
    have hs := Lib.hid (tenI_succ k)
    by_cases hlt : k < n
    · have ht2 := ten12 (k := k + 1) (by omega)
      rw [hs.out] at ht2
      obtain ⟨t1, t2⟩ := ht
      obtain ⟨t3, t4⟩ := ht2
      generalize tenI k = t at *
      go_wp2
      go_round
      case rel => exact ⟨k + 1, by omega, by go_num, by first | (rw [hs.out, Int.mul_comm]; done) | rw [hs.out]⟩
      case measure => simp [intOf]; omega
    · obtain rfl : k = n := by omega
      go_wp2
      go_ret
      exact ⟨rfl, rfl⟩
theorem Conv.c7 (C : Conv) : C.cells[0]? = some (.int .i64 C.form) ∧ C.cells[1]? = some (.bool C.sgn) ∧ C.cells[2]? = some (.int .i64 C.m) ∧ C.cells[3]? = some (.int .i64 C.b) ∧ C.cells[4]? = some (.int .i64 C.k1) ∧ C.cells[5]? = some (.int .i64 C.k2) ∧ C.cells[6]? = some C.pts := ⟨rfl, rfl, rfl, rfl, rfl, rfl, rfl⟩
set_option maxRecDepth 100000 in
set_option maxHeartbeats 2000000 in
theorem linear_ok (w : World) (C : Conv) (h : Lin C) (x : Int) (hx : -128 ≤ x ∧ x ≤ 255) :
    Calls Try.prog 120 #[.agg C.cells, .int .i64 x] w fun e w' => e = .returned (.int .i64 (linI C x)) ∧ Mods [] w w' := by
  have hk1 := h.k1
  have hk2 := h.k2
  have hm := h.m
  have hb := h.b
  have hmx := h.mx hx
  obtain ⟨p1, p2⟩ := h.parts hx
  obtain ⟨u, hu⟩ : ∃ u : Nat, (6 + C.k2) = (u : Int) := ⟨(6 + C.k2).toNat, by omega⟩
  obtain ⟨v, hv⟩ : ∃ v : Nat, (6 + C.k1 + C.k2) = (v : Int) := ⟨(6 + C.k1 + C.k2).toNat, by omega⟩
  have HL := Lib.hid (show linI C x = clampI (C.m * x * tenI u + C.b * tenI v) by unfold linI linS; rw [hu, hv, Int.toNat_natCast, Int.toNat_natCast])
  rw [hu, Int.toNat_natCast] at p1
  rw [hv, Int.toNat_natCast] at p2
  have M0 := Lib.hid ((Mods.refl (S := []) (w := w)).alloc (.cells C.cells 26))
  obtain ⟨_, _, c2, c3, c4, c5, _⟩ := C.c7
  have hk3 : 6 + C.k1 + C.k2 = 6 + C.k1 + C.k2 := rfl
  clear hk3
  have w1 : IntKind.i64.wrap (C.m * x) = C.m * x := IntWalk.i64_in _ (by omega)
  have w2 : IntKind.i64.wrap (6 + C.k2) = (u : Int) := by rw [hu]; exact IntWalk.i64_in _ (by omega)
  have w3 : IntKind.i64.wrap (6 + C.k1) = 6 + C.k1 := IntWalk.i64_in _ (by omega)
  have w4 : IntKind.i64.wrap (6 + C.k1 + C.k2) = (v : Int) := by rw [hv]; exact IntWalk.i64_in _ (by omega)
  have w5 : IntKind.i64.wrap (C.m * x * tenI u) = C.m * x * tenI u := IntWalk.i64_in _ (by omega)
  have w6 : IntKind.i64.wrap (C.b * tenI v) = C.b * tenI v := IntWalk.i64_in _ (by omega)
  have w7 : IntKind.i64.wrap (C.m * x * tenI u + C.b * tenI v) = C.m * x * tenI u + C.b * tenI v := IntWalk.i64_in _ (by omega)
  have hu9 : u ≤ 12 := by omega
  have hv12 : v ≤ 12 := by omega
  have HU := Lib.hid hu
  have HV := Lib.hid hv
  have T1 := Lib.hid (fun W => ten_ok u hu9 W)
  have T2 := Lib.hid (fun W => ten_ok v hv12 W)
  clear hu hv p1 p2 hmx hk1 hk2 hm hb h hx
  go_enter Try.func120, Try.ntmps120
  go_wp2_with fail
  go_quiet ((first
    | (go_at_call_of 137 (Value.int IntKind.i64 (u : Int)); exact quiet_left (T1.out _))
    | (go_at_call_of 137 (Value.int IntKind.i64 (v : Int)); exact quiet_left (T2.out _))
    | (go_at_call 99; exact quiet_left (clamp_ok _ _))))
  go_wp2
  go_ret
  exact ⟨ret_int HL.out.symm, M0.out.drewN _⟩
end Go.Proofs.Ytgjjmiaiclhidaa
