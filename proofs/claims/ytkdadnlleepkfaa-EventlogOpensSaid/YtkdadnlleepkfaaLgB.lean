/- Numbers in bytes, events in bytes: contracts. -/
import Derived.Test.YtkdadnlleepkfaaLgA
namespace Go.Proofs.Ytkdadnlleepkfaa
open Go.RowKit
set_option linter.unusedVariables false
set_option linter.unusedSimpArgs false

theorem or64 (X Y i : Nat) (hX : X < 2 ^ i) (hi : i ≤ 24) (hY : Y < 256) : bits .or .i64 (X : Int) ((Y * 2 ^ i : Nat) : Int) = ((X + Y * 2 ^ i : Nat) : Int) := by
  have hp : 2 ^ i ≤ 2 ^ 24 := Nat.pow_le_pow_right (by decide) hi
  have h2 : Y * 2 ^ i ≤ 255 * 2 ^ 24 := Nat.mul_le_mul (by omega) hp
  show IntKind.i64.wrap ((BitVec.ofInt 64 (X : Int) ||| BitVec.ofInt 64 ((Y * 2 ^ i : Nat) : Int)).toNat : Int) = _
  have hp2 : (2 : Nat) ^ 24 = 16777216 := by decide
  rw [BitVec.toNat_or, ofInt_u64 X (by omega), ofInt_u64 (Y * 2 ^ i) (by omega), Nat.or_comm, nat_join i (Y * 2 ^ i) X (Nat.mul_mod_left _ _) hX, Nat.add_comm]
  exact IntWalk.i64_in _ (by omega)
set_option maxRecDepth 100000 in
set_option maxHeartbeats 2000000 in
theorem read4_ok (w : World) (v : Value) (A : List Int) (hv : Rd w v (u8s A)) (hb : Bytes A) (hl : 4 ≤ A.length) :
    Calls Try.prog 82 #[v] w fun e w' => e = .returned (.int .i64 ((le4 (fun i => (A.getD i 0).toNat) 0 : Nat) : Int)) ∧ ∃ n, w' = w.drewN n := by
  obtain ⟨ad, cap, rfl, h1, h2, hc⟩ := hv.u8
  obtain ⟨bb, off, rfl, x0⟩ := hc 0 (by omega)
  have x1 : w.cell? ⟨bb, off + 1, none⟩ = some (.int .u8 (A.getD 1 0)) := by obtain ⟨b', o', he, hx⟩ := hc 1 (by omega); cases he; exact hx
  have x2 : w.cell? ⟨bb, off + 2, none⟩ = some (.int .u8 (A.getD 2 0)) := by obtain ⟨b', o', he, hx⟩ := hc 2 (by omega); cases he; exact hx
  have x3 : w.cell? ⟨bb, off + 3, none⟩ = some (.int .u8 (A.getD 3 0)) := by obtain ⟨b', o', he, hx⟩ := hc 3 (by omega); cases he; exact hx
  rw [Nat.add_zero] at x0
  have b0 := hb 0
  have b1 := hb 1
  have b2 := hb 2
  have b3 := hb 3
  obtain ⟨n0, e0⟩ : ∃ n : Nat, A.getD 0 0 = n := ⟨(A.getD 0 0).toNat, by omega⟩
  obtain ⟨n1, e1⟩ : ∃ n : Nat, A.getD 1 0 = n := ⟨(A.getD 1 0).toNat, by omega⟩
  obtain ⟨n2, e2⟩ : ∃ n : Nat, A.getD 2 0 = n := ⟨(A.getD 2 0).toNat, by omega⟩
  obtain ⟨n3, e3⟩ : ∃ n : Nat, A.getD 3 0 = n := ⟨(A.getD 3 0).toNat, by omega⟩
  have HR := Lib.hid (show le4 (fun i => (A.getD i 0).toNat) 0 = n0 + 256 * n1 + 65536 * n2 + 16777216 * n3 by unfold le4; simp only [Nat.zero_add, e0, e1, e2, e3, Int.toNat_natCast])
  rw [e0] at x0 b0
  rw [e1] at x1 b1
  rw [e2] at x2 b2
  rw [e3] at x3 b3
  have j1 : bits .or .i64 (n0 : Int) ((n1 : Int) * 256) = ((n0 + n1 * 256 : Nat) : Int) := by have := or64 n0 n1 8 (by omega) (by omega) (by omega); simpa using this
  have j2 : bits .or .i64 ((n0 + n1 * 256 : Nat) : Int) ((n2 : Int) * 65536) = ((n0 + n1 * 256 + n2 * 65536 : Nat) : Int) := by have := or64 (n0 + n1 * 256) n2 16 (by omega) (by omega) (by omega); simpa using this
  have j3 : bits .or .i64 ((n0 + n1 * 256 + n2 * 65536 : Nat) : Int) ((n3 : Int) * 16777216) = ((n0 + n1 * 256 + n2 * 65536 + n3 * 16777216 : Nat) : Int) := by have := or64 (n0 + n1 * 256 + n2 * 65536) n3 24 (by omega) (by omega) (by omega); simpa using this
  rw [HR.out]
  have HJ := Lib.hid (And.intro j1 (And.intro j2 j3))
  clear hc hv hb e0 e1 e2 e3 HR j1 j2 j3
  have i0 : (0 : Int) < (A.length : Int) := by omega
  have i1 : (1 : Int) < (A.length : Int) := by omega
  have i2 : (2 : Int) < (A.length : Int) := by omega
  have i3 : (3 : Int) < (A.length : Int) := by omega
  obtain ⟨p0, q0⟩ := b0
  obtain ⟨p1, q1⟩ := b1
  obtain ⟨p2, q2⟩ := b2
  obtain ⟨p3, q3⟩ := b3
  go_enter Try.func82, Try.ntmps82
  go_wp2_with fail
  go_quiet (fail)
  go_wp2_with fail
  go_ret
  refine ⟨?_, _, rfl⟩
  obtain ⟨j1, j2, j3⟩ := HJ.out
  refine (show _ = Ending.returned (Value.int .i64 (bits .or .i64 (bits .or .i64 (bits .or .i64 (n0 : Int) ((n1 : Int) * 256)) ((n2 : Int) * 65536)) ((n3 : Int) * 16777216))) from rfl).trans ?_
  rw [j1, j2, j3]
  exact ret_int (by omega)
set_option maxRecDepth 100000 in
set_option maxHeartbeats 1000000 in
theorem write4_ok (w : World) (q : Nat) (hq : q < 9223372036854775808) :
    Calls Try.prog 96 #[.int .i64 q] w fun e w' => OwnedBy 5 w (u8s (leL q 4)) e w' := by
  have HL := Lib.hid (show leL q 4 = [(q : Int) % 256, (q : Int) / 256 % 256, (q : Int) / 65536 % 256, (q : Int) / 16777216 % 256] by simp [leL, List.range_succ])
  go_enter Try.func96, Try.ntmps96
  go_wp2_with fail
  go_ret
  rw [HL.out]
  exact ⟨_, rfl, OwnB.lit w (Nat.le_refl _) [(q : Int) % 256, (q : Int) / 256 % 256, (q : Int) / 65536 % 256, (q : Int) / 16777216 % 256] (by unfold maxLen; simp), Mods.refl.alloc _⟩
set_option maxHeartbeats 400000 in
theorem slot_ok (w : World) (ad : Option Addr) (n cap i : Nat) (h1 : 28 + 17 * i ≤ n) (h2 : n ≤ cap) (h3 : n ≤ 1024) (g off : Nat) (had : ad = some ⟨g, off, none⟩) :
    Calls Try.prog 83 #[.slice ad n cap, .int .i64 i] w fun e w' => e = .returned (.slice (some ⟨g, off + (11 + 17 * i), none⟩) 17 (cap - (11 + 17 * i))) ∧ w = w' := by
  subst had
  go_enter Try.func83, Try.ntmps83
  go_wp2_with fail
  go_ret
  refine ⟨?_, rfl⟩
  refine (show _ = Ending.returned (Value.slice (some ⟨g, off + (11 + i * 17), none⟩) (11 + i * 17 + 17 - (11 + i * 17)) (cap - (11 + i * 17))) from rfl).trans ?_
  rw [show 11 + i * 17 = 11 + 17 * i by omega, show 11 + 17 * i + 17 - (11 + 17 * i) = 17 by omega]
end Go.Proofs.Ytkdadnlleepkfaa
