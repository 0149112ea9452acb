/- The small functions: contracts. -/
import Derived.Test.YtjdimdebplggnaaFlashBase
import Derived.Test.YtjdimdebplggnaaProg
import Derived.Deep.QuietTactic
import Derived.BigQuiet
import Derived.StillTailTactics
namespace Go.Proofs.Ytjdimdebplggnaa
open Go.RowKit

/-- Bounds of an int. -/
def I64 (n : Int) : Prop := -9223372036854775808 ≤ n ∧ n ≤ 9223372036854775807

theorem tmod_emod (n m : Int) (hm : 0 < m) : (if n.tmod m < 0 then n.tmod m + m else n.tmod m) = n % m := by
  have h1 := Int.tmod_add_mul_tdiv n m
  have h2 := Int.emod_nonneg n (show m ≠ 0 by omega)
  have h3 := Int.emod_lt_of_pos n hm
  have h4 := Int.tmod_lt_of_pos n hm
  rcases Int.lt_or_le n 0 with hn | hn
  · have h5 : -m < n.tmod m := by have := Int.neg_tmod n m; have h6 := Int.tmod_lt_of_pos (-n) hm; omega
    have h7 : n.tmod m ≤ 0 := by have := Int.neg_tmod n m; have h6 := Int.tmod_nonneg m (show 0 ≤ -n by omega); omega
    by_cases h : n.tmod m < 0
    · rw [if_pos h]
      have : n % m = (n.tmod m + m) % m := by
        have e : n = (n.tmod m) + m * n.tdiv m := by omega
        conv => lhs; rw [e]
        rw [Int.add_mul_emod_self_left, Int.add_emod_right]
      rw [this, Int.emod_eq_of_lt (by omega) (by omega)]
    · rw [if_neg h]
      have : n % m = (n.tmod m) % m := by
        have e : n = (n.tmod m) + m * n.tdiv m := by omega
        conv => lhs; rw [e]
        rw [Int.add_mul_emod_self_left]
      rw [this, Int.emod_eq_of_lt (by omega) (by omega)]
  · have h5 := Int.tmod_nonneg m hn
    rw [if_neg (by omega), Int.tmod_eq_emod_of_nonneg hn]

set_option maxHeartbeats 400000 in
theorem mod_ok (n m : Int) (w : World) (hn : I64 n) (hm : 0 < m) (hm2 : m ≤ 4611686018427387904) :
    Calls Try.prog 15 #[.int .i64 n, .int .i64 m] w fun e w' => e = .returned (.int .i64 (n % m)) ∧ w = w' := by
  have H := Lib.hid (tmod_emod n m hm)
  obtain ⟨hn1, hn2⟩ := hn
  have h4 := Int.tmod_lt_of_pos n hm
  have h5 : -m < n.tmod m := by have := Int.neg_tmod n m; have h6 := Int.tmod_lt_of_pos (-n) hm; omega
  by_cases hneg : n.tmod m < 0
  · by_cases hn0 : 0 ≤ n
    · have := Int.tmod_nonneg m hn0; omega
    · go_enter Try.func15, Try.ntmps15
      go_wp2
      go_ret
      refine ⟨ret_int ?_, rfl⟩
      rw [← H.out, if_pos hneg]
  · go_enter Try.func15, Try.ntmps15
    go_wp2
    go_ret
    refine ⟨ret_int ?_, rfl⟩
    rw [← H.out, if_neg (by omega)]

def fits (D : Dev) (at_ n : Int) : Bool := decide (0 ≤ at_ ∧ 0 ≤ n ∧ at_ + n ≤ D.data.length)

set_option maxHeartbeats 400000 in
theorem within_ok (w : World) (p : DevAt) (D : Dev) (h : IsDev w p D) (ok : D.Ok) (at_ n : Int) :
    Calls Try.prog 42 #[.pointer (some ⟨p.b, 0, none⟩), .int .i64 at_, .int .i64 n] w fun e w' => e = .returned (.bool (fits D at_ n)) ∧ w = w' := by
  have h1 := h.c1
  have h2 := ok.len
  clear h ok
  go_enter Try.func42, Try.ntmps42
  go_wp2
  all_goals
    go_ret
    refine ⟨ret_bool ?_, rfl⟩
    first | (simp [fits]; done) | (simp only [fits]; rw [Bool.eq_iff_iff]; simp; omega) | (simp [fits]; omega)

def Dev.step (D : Dev) : Dev := if 0 < D.left then { D with steps := D.steps + 1, left := D.left - 1, down := D.left - 1 == 0 } else { D with steps := D.steps + 1 }

set_option maxHeartbeats 400000 in
theorem step_ok (w : World) (p : DevAt) (D : Dev) (h : IsDev w p D) (ok : D.Ok) (hs : D.steps ≤ 4611686018427387904) :
    Calls Try.prog 43 #[.pointer (some ⟨p.b, 0, none⟩)] w fun e w' => e = .returned (.bool D.step.down) ∧ IsDev w' p D.step ∧ Mods [p.b] w w' := by
  have h3 := h.c3
  have h4 := h.c4
  have h6 := h.c6
  have hf := h.fb
  have hs1 := ok.st
  have hl := ok.lf
  clear ok
  by_cases hp : 0 < D.left
  · have e : D.step = { D with steps := D.steps + 1, left := D.left - 1, down := D.left - 1 == 0 } := by rw [Dev.step, if_pos hp]
    have H := Lib.hid ((((h.set3 (D.steps + 1)).set4 (D.left - 1)).set6 (D.left - 1 == 0)))
    rw [e]
    clear h e
    go_enter Try.func43, Try.ntmps43
    go_wp2
    go_ret
    exact ⟨rfl, H.out, ((Mods.refl.setCell (.inl (by simp)) _).setCell (.inl (by simp)) _).setCell (.inl (by simp)) _⟩
  · have e : D.step = { D with steps := D.steps + 1 } := by rw [Dev.step, if_neg hp]
    have H := Lib.hid (h.set3 (D.steps + 1))
    rw [e]
    clear h e
    go_enter Try.func43, Try.ntmps43
    go_wp2
    go_ret
    exact ⟨rfl, H.out, Mods.refl.setCell (.inl (by simp)) _⟩

def Dev.arm (D : Dev) (steps torn : Int) : Dev := if D.down then D else { D with left := max steps 0, torn := torn }
theorem Dev.arm_down {D : Dev} (h : D.down = true) (s t : Int) : D.arm s t = D := by rw [Dev.arm, if_pos h]
theorem Dev.arm_up {D : Dev} (h : D.down = false) (s t : Int) : D.arm s t = { D with left := max s 0, torn := t } := by rw [Dev.arm, if_neg (by rw [h]; simp)]

set_option maxHeartbeats 400000 in
theorem arm_ok (w : World) (p : DevAt) (D : Dev) (h : IsDev w p D) (steps torn : Int) :
    Calls Try.prog 17 #[.pointer (some ⟨p.b, 0, none⟩), .int .i64 steps, .int .u8 torn] w fun e w' => e = .returned (.tuple #[]) ∧ IsDev w' p (D.arm steps torn) ∧ Mods [p.b] w w' := by
  have h4 := h.c4
  have h5 := h.c5
  have h6 := h.c6
  have hf := h.fb
  have H := Lib.hid h
  clear h
  by_cases hd : D.down = true
  · have E := Lib.hid (Dev.arm_down hd steps torn)
    rw [hd] at h6
    clear hd
    go_enter Try.func17, Try.ntmps17
    go_wp2
    go_end0
    exact ⟨rfl, by rw [E.out]; exact H.out, Mods.refl⟩
  · have hd' : D.down = false := by simpa using hd
    have E := Lib.hid (Dev.arm_up hd' steps torn)
    rw [hd'] at h6
    clear hd hd'
    go_enter Try.func17, Try.ntmps17
    go_wp2
    · go_end0
      have e : max steps 0 = 0 := by omega
      exact ⟨rfl, by rw [E.out, e]; exact (H.out.set4 0).set5 torn, (Mods.refl.setCell (.inl (by simp)) _).setCell (.inl (by simp)) _⟩
    · go_end0
      have e : max steps 0 = steps := by omega
      exact ⟨rfl, by rw [E.out, e]; exact (H.out.set4 steps).set5 torn, (Mods.refl.setCell (.inl (by simp)) _).setCell (.inl (by simp)) _⟩

set_option maxHeartbeats 400000 in
theorem restore_ok (w : World) (p : DevAt) (D : Dev) (h : IsDev w p D) :
    Calls Try.prog 20 #[.pointer (some ⟨p.b, 0, none⟩)] w fun e w' => e = .returned (.tuple #[]) ∧ IsDev w' p { D with down := false, left := 0 } ∧ Mods [p.b] w w' := by
  have h4 := h.c4
  have h6 := h.c6
  have hf := h.fb
  have H := Lib.hid ((h.set6 false).set4 0)
  clear h
  go_enter Try.func20, Try.ntmps20
  go_wp2
  go_end0
  exact ⟨rfl, H.out, (Mods.refl.setCell (.inl (by simp)) _).setCell (.inl (by simp)) _⟩

set_option maxHeartbeats 400000 in
theorem steps_ok (w : World) (p : DevAt) (D : Dev) (h : IsDev w p D) :
    Calls Try.prog 21 #[.pointer (some ⟨p.b, 0, none⟩)] w fun e w' => e = .returned (.int .i64 D.steps) ∧ w = w' := by
  have h3 := h.c3
  clear h
  go_enter Try.func21, Try.ntmps21
  go_wp2
  go_ret
  exact ⟨rfl, rfl⟩
set_option maxHeartbeats 400000 in
theorem down_ok (w : World) (p : DevAt) (D : Dev) (h : IsDev w p D) :
    Calls Try.prog 27 #[.pointer (some ⟨p.b, 0, none⟩)] w fun e w' => e = .returned (.bool D.down) ∧ w = w' := by
  have h6 := h.c6
  clear h
  go_enter Try.func27, Try.ntmps27
  go_wp2
  go_ret
  exact ⟨rfl, rfl⟩
end Go.Proofs.Ytjdimdebplggnaa
