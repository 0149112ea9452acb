/- convert.write and the reference's Little: contracts. -/
import Derived.Test.YtkdadnlleepkfaaAppB
namespace Go.Proofs.Ytkdadnlleepkfaa
open Go.RowKit

/-- n bytes of a number, the least significant one first. -/
def leL (v : Int) (n : Nat) : List Int := (List.range n).map fun i => v / 256 ^ i % 256
theorem leL_length (v : Int) (n : Nat) : (leL v n).length = n := by simp [leL]
theorem leL_succ (v : Int) (n : Nat) : leL v (n + 1) = leL v n ++ [v / 256 ^ n % 256] := by simp [leL, List.range_succ]
theorem leL_bytes (v : Int) (n : Nat) : ∀ x ∈ leL v n, 0 ≤ x ∧ x ≤ 255 := by
  intro x hx
  simp only [leL, List.mem_map] at hx
  obtain ⟨i, _, rfl⟩ := hx
  constructor <;> omega
theorem div_pow_succ (v : Int) (k : Nat) : v / 256 ^ k / 256 = v / 256 ^ (k + 1) := by
  rw [Int.pow_succ, Int.ediv_ediv_of_nonneg (Int.pow_nonneg (by decide))]
theorem div_bd (v : Int) (k : Nat) (h : I64 v) : I64 (v / 256 ^ k) := by
  have hp : (0 : Int) < 256 ^ k := Int.pow_pos (by decide)
  have h1 : (1 : Int) ≤ 256 ^ k := hp
  obtain ⟨h0, h2⟩ := h
  constructor
  · rw [Int.le_ediv_iff_mul_le hp]
    have : -9223372036854775808 * (256 : Int) ^ k ≤ -9223372036854775808 * 1 := Int.mul_le_mul_of_nonpos_left (by decide) h1
    omega
  · rcases (by omega : v < 0 ∨ 0 ≤ v) with hn | hn
    · have := Int.ediv_neg_of_neg_of_pos hn hp; omega
    · have : v / 256 ^ k ≤ v := Int.ediv_le_self _ hn
      omega
theorem div_bdU (v : Int) (k : Nat) (h : 0 ≤ v ∧ v ≤ 18446744073709551615) : 0 ≤ v / 256 ^ k ∧ v / 256 ^ k ≤ 18446744073709551615 := by
  have hp : (0 : Int) < 256 ^ k := Int.pow_pos (by decide)
  have : v / 256 ^ k ≤ v := Int.ediv_le_self _ h.1
  exact ⟨Int.ediv_nonneg h.1 (Int.le_of_lt hp), by omega⟩
/-- The bytes of a number are those of its 64 bits. -/
theorem leL_mod (v : Int) (n : Nat) (hn : n ≤ 8) : leL (v % 18446744073709551616) n = leL v n := by
  unfold leL
  refine List.map_congr_left fun i hi => ?_
  have hi := List.mem_range.1 hi
  match i, (show i < 8 by omega) with
  | 0, _ | 1, _ | 2, _ | 3, _ | 4, _ | 5, _ | 6, _ | 7, _ => simp only [Int.reducePow]; omega
set_option maxRecDepth 100000 in
set_option maxHeartbeats 1000000 in
theorem little_ok (w : World) (V : Int) (n : Nat) (hv : 0 ≤ V ∧ V ≤ 18446744073709551615) (hn : n ≤ 100) :
    Calls Try.prog 93 #[.int .u64 V, .int .i64 n] w fun e w' => OwnedBy 5 w (u8s (leL V n)) e w' := by
  obtain ⟨i0, hi, hz0, hz1, hz2⟩ := info_parts Try.infoB
  go_enter Try.func93, Try.ntmps93
  go_wp2_with fail
  go_loopw [0, 5, 6] (fun x s i wr => ∃ (k : Nat) (y : Int), k ≤ n ∧ i = .int .i64 k ∧ x = .int .u64 y ∧ Hid (y = V / 256 ^ k) ∧ wr.ownsRow w.heap.size 5 1 s (u8s (leL V k)).length (u8s (leL V k)) ∧ Mods [] w wr) (fun _ _ i _ => n - (intOf i).toNat)
  case atStart => exact ⟨0, V, Nat.zero_le _, rfl, rfl, Lib.hid (by simp), World.ownsRow_nil _ _ _ _, Mods.refl⟩
  case round =>
    obtain ⟨k, y, hk, rfl, rfl, HY, O, M⟩ := hrel
    by_cases hlt : k < n
    · obtain ⟨y1, y2⟩ : 0 ≤ y ∧ y ≤ 18446744073709551615 := by rw [HY.out]; exact div_bdU V k hv
      have i1 : (0 : Int) ≤ (k : Int) := by omega
      have i2 : (k : Int) < (n : Int) := by omega
      have HS := Lib.hid (leL_succ V k)
      have HM := Lib.hid M
      have HO := Lib.hid O
      have hzw := M.size
      have hln : (u8s (leL V k)).length = k := by rw [u8s_length, leL_length]
      clear M O
      go_wp2_with (at_builtin; refine wpList_push rfl (.tmp 12) (.tmp 16) 61 rfl w.heap.size 5 i0 (.int .u8 0) 1 Try.underlying61 hi hz0 hz1 hz2 rfl _ (u8s (leL V k)).length (u8s (leL V k)) (by rfl) HO.out (.int .u8 (y % 256)) _ (by rfl) (by rfl) (by omega) (by omega) HM.out.size ?_; intro v5 w5 O5 M5)
      have HM5 := Lib.hid (HM.out.then_from M5 (Nat.le_refl _))
      have HO5 : Hid (w5.ownsRow w.heap.size 5 1 v5 (u8s (leL V (k + 1))).length (u8s (leL V (k + 1)))) := Lib.hid (by
        have := own_u8 O5
        rw [u8s_length] at this
        rw [u8s_length, HS.out, ← HY.out, List.length_append]
        exact this)
      clear O5 M5
      go_wp2
      exact ⟨⟨k + 1, y / 256, by omega, by go_num, by go_num, Lib.hid (by rw [HY.out, div_pow_succ]), HO5.out, HM5.out⟩, by simp only [intOf]; omega⟩
    · have hk2 : k = n := by omega
      subst hk2
      have HM := Lib.hid M
      clear M
      go_wp2_with fail
      go_ret
      exact ⟨_, rfl, O, HM.out⟩
end Go.Proofs.Ytkdadnlleepkfaa
