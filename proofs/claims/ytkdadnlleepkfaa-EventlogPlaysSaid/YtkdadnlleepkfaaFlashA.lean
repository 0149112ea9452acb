/- The small functions: contracts. -/
import Derived.Test.YtkdadnlleepkfaaFlashBase
import Derived.Test.YtkdadnlleepkfaaNums
namespace Go.Proofs.Ytkdadnlleepkfaa
open Go.RowKit

def fits (D : Dev) (at_ n : Int) : Bool := decide (0 ≤ at_ ∧ 0 ≤ n ∧ at_ + n ≤ D.data.length)

set_option maxHeartbeats 400000 in
theorem within_ok (w : World) (p : DevAt) (D : Dev) (h : IsDev w p D) (ok : D.Ok) (at_ n : Int) :
    Calls Try.prog 62 #[.pointer (some ⟨p.b, 0, none⟩), .int .i64 at_, .int .i64 n] w fun e w' => e = .returned (.bool (fits D at_ n)) ∧ w = w' := by
  have h1 := h.c1
  have h2 := ok.len
  clear h ok
  go_enter Try.func62, Try.ntmps62
  go_wp2
  all_goals
    go_ret
    refine ⟨ret_bool ?_, rfl⟩
    first | (simp [fits]; done) | (simp only [fits]; rw [Bool.eq_iff_iff]; simp; omega) | (simp [fits]; omega)

def Dev.step (D : Dev) : Dev := if 0 < D.left then { D with steps := D.steps + 1, left := D.left - 1, down := D.left - 1 == 0 } else { D with steps := D.steps + 1 }

set_option maxHeartbeats 400000 in
theorem step_ok (w : World) (p : DevAt) (D : Dev) (h : IsDev w p D) (ok : D.Ok) (hs : D.steps ≤ 4611686018427387904) :
    Calls Try.prog 63 #[.pointer (some ⟨p.b, 0, none⟩)] w fun e w' => e = .returned (.bool D.step.down) ∧ IsDev w' p D.step ∧ Mods [p.b] w w' := by
  have h3 := h.c3
  have h4 := h.c4
  have h6 := h.c6
  have hf := h.fb
  have hs1 := ok.st
  have hl := ok.lf
  clear ok
  by_cases hp : 0 < D.left
  · have e : D.step = { D with steps := D.steps + 1, left := D.left - 1, down := D.left - 1 == 0 } := by rw [Dev.step, if_pos hp]
    have H := Lib.hid ((((h.set3 (D.steps + 1)).set4 (D.left - 1)).set6 (D.left - 1 == 0)))
    rw [e]
    clear h e
    go_enter Try.func63, Try.ntmps63
    go_wp2
    go_ret
    exact ⟨rfl, H.out, ((Mods.refl.setCell (.inl (by simp)) _).setCell (.inl (by simp)) _).setCell (.inl (by simp)) _⟩
  · have e : D.step = { D with steps := D.steps + 1 } := by rw [Dev.step, if_neg hp]
    have H := Lib.hid (h.set3 (D.steps + 1))
    rw [e]
    clear h e
    go_enter Try.func63, Try.ntmps63
    go_wp2
    go_ret
    exact ⟨rfl, H.out, Mods.refl.setCell (.inl (by simp)) _⟩

def Dev.arm (D : Dev) (steps torn : Int) : Dev := if D.down then D else { D with left := max steps 0, torn := torn }
theorem Dev.arm_down {D : Dev} (h : D.down = true) (s t : Int) : D.arm s t = D := by rw [Dev.arm, if_pos h]
theorem Dev.arm_up {D : Dev} (h : D.down = false) (s t : Int) : D.arm s t = { D with left := max s 0, torn := t } := by rw [Dev.arm, if_neg (by rw [h]; simp)]

set_option maxHeartbeats 400000 in
theorem arm_ok (w : World) (p : DevAt) (D : Dev) (h : IsDev w p D) (steps torn : Int) :
    Calls Try.prog 26 #[.pointer (some ⟨p.b, 0, none⟩), .int .i64 steps, .int .u8 torn] w fun e w' => e = .returned (.tuple #[]) ∧ IsDev w' p (D.arm steps torn) ∧ Mods [p.b] w w' := by
  have h4 := h.c4
  have h5 := h.c5
  have h6 := h.c6
  have hf := h.fb
  have H := Lib.hid h
  clear h
  by_cases hd : D.down = true
  · have E := Lib.hid (Dev.arm_down hd steps torn)
    rw [hd] at h6
    clear hd
    go_enter Try.func26, Try.ntmps26
    go_wp2
    go_end0
    exact ⟨rfl, by rw [E.out]; exact H.out, Mods.refl⟩
  · have hd' : D.down = false := by simpa using hd
    have E := Lib.hid (Dev.arm_up hd' steps torn)
    rw [hd'] at h6
    clear hd hd'
    go_enter Try.func26, Try.ntmps26
    go_wp2
    · go_end0
      have e : max steps 0 = 0 := by omega
      exact ⟨rfl, by rw [E.out, e]; exact (H.out.set4 0).set5 torn, (Mods.refl.setCell (.inl (by simp)) _).setCell (.inl (by simp)) _⟩
    · go_end0
      have e : max steps 0 = steps := by omega
      exact ⟨rfl, by rw [E.out, e]; exact (H.out.set4 steps).set5 torn, (Mods.refl.setCell (.inl (by simp)) _).setCell (.inl (by simp)) _⟩

set_option maxHeartbeats 400000 in
theorem restore_ok (w : World) (p : DevAt) (D : Dev) (h : IsDev w p D) :
    Calls Try.prog 27 #[.pointer (some ⟨p.b, 0, none⟩)] w fun e w' => e = .returned (.tuple #[]) ∧ IsDev w' p { D with down := false, left := 0 } ∧ Mods [p.b] w w' := by
  have h4 := h.c4
  have h6 := h.c6
  have hf := h.fb
  have H := Lib.hid ((h.set6 false).set4 0)
  clear h
  go_enter Try.func27, Try.ntmps27
  go_wp2
  go_end0
  exact ⟨rfl, H.out, (Mods.refl.setCell (.inl (by simp)) _).setCell (.inl (by simp)) _⟩

set_option maxHeartbeats 400000 in
theorem steps_ok (w : World) (p : DevAt) (D : Dev) (h : IsDev w p D) :
    Calls Try.prog 16 #[.pointer (some ⟨p.b, 0, none⟩)] w fun e w' => e = .returned (.int .i64 D.steps) ∧ w = w' := by
  have h3 := h.c3
  clear h
  go_enter Try.func16, Try.ntmps16
  go_wp2
  go_ret
  exact ⟨rfl, rfl⟩
set_option maxHeartbeats 400000 in
theorem down_ok (w : World) (p : DevAt) (D : Dev) (h : IsDev w p D) :
    Calls Try.prog 77 #[.pointer (some ⟨p.b, 0, none⟩)] w fun e w' => e = .returned (.bool D.down) ∧ w = w' := by
  have h6 := h.c6
  clear h
  go_enter Try.func77, Try.ntmps77
  go_wp2
  go_ret
  exact ⟨rfl, rfl⟩
end Go.Proofs.Ytkdadnlleepkfaa
