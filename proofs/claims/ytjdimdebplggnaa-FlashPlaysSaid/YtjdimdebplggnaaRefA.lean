/- The reference's device: Fits, fails, Arm, Restore: contracts. Its layout is the program's. -/
import Derived.Test.YtjdimdebplggnaaFlashLaw
namespace Go.Proofs.Ytjdimdebplggnaa
open Go.RowKit
set_option maxHeartbeats 400000 in
theorem refFits_ok (w : World) (p : DevAt) (D : Dev) (h : IsDev w p D) (ok : D.Ok) (at_ n : Int) :
    Calls Try.prog 50 #[.pointer (some ⟨p.b, 0, none⟩), .int .i64 at_, .int .i64 n] w fun e w' => e = .returned (.bool (fits D at_ n)) ∧ w = w' := by
  have h1 := h.c1
  have hl := ok.len
  have E := Lib.hid (show ∀ b, (b = true ↔ (0 ≤ at_ ∧ 0 ≤ n ∧ at_ + n ≤ (D.data.length : Int))) → b = fits D at_ n from fun b hb => by
    unfold fits
    cases b with
    | true => exact (decide_eq_true (hb.1 rfl)).symm
    | false => exact (decide_eq_false (fun h => by have := hb.2 h; cases this)).symm)
  clear h
  by_cases a0 : 0 ≤ at_
  · by_cases n0 : 0 ≤ n
    · by_cases a1 : at_ ≤ (D.data.length : Int)
      · have hw : IntKind.i64.wrap ((D.data.length : Int) - at_) = (D.data.length : Int) - at_ := IntWalk.i64_in _ (by omega)
        by_cases n1 : n ≤ (D.data.length : Int) - at_
        · go_enter Try.func50, Try.ntmps50
          go_wp2_with fail
          go_ret
          exact ⟨ret_bool (E.out _ ⟨fun _ => by omega, fun _ => rfl⟩), rfl⟩
        · have n2 : decide (n ≤ (D.data.length : Int) - at_) = false := by simpa using n1
          have K := Lib.hid (E.out false ⟨nofun, fun h => by omega⟩)
          clear n1
          go_enter Try.func50, Try.ntmps50
          go_wp2_with fail
          go_ret
          exact ⟨ret_bool (by first | exact K.out | (rw [← K.out]; simp; omega)), rfl⟩
      · have a2 : decide (at_ ≤ (D.data.length : Int)) = false := by simpa using a1
        have K := Lib.hid (E.out false ⟨nofun, fun h => by omega⟩)
        clear a1
        go_enter Try.func50, Try.ntmps50
        go_wp2_with fail
        go_ret
        exact ⟨ret_bool (by first | exact K.out | (rw [← K.out]; simp; omega)), rfl⟩
    · have n2 : decide (0 ≤ n) = false := by simpa using n0
      have K := Lib.hid (E.out false ⟨nofun, fun h => by omega⟩)
      clear n0
      go_enter Try.func50, Try.ntmps50
      go_wp2_with fail
      go_ret
      exact ⟨ret_bool (by first | exact K.out | (rw [← K.out]; simp; omega)), rfl⟩
  · have a2 : decide (0 ≤ at_) = false := by simpa using a0
    have K := Lib.hid (E.out false ⟨nofun, fun h => by omega⟩)
    clear a0
    go_enter Try.func50, Try.ntmps50
    go_wp2_with fail
    go_ret
    exact ⟨ret_bool (by first | exact K.out | (rw [← K.out]; simp; omega)), rfl⟩

set_option maxHeartbeats 1000000 in
theorem refFails_ok (w : World) (p : DevAt) (D : Dev) (h : IsDev w p D) (ok : D.Ok) (hd : D.down = false) (hs : D.steps ≤ 4611686018427387904) :
    Calls Try.prog 51 #[.pointer (some ⟨p.b, 0, none⟩)] w fun e w' => e = .returned (.bool D.step.down) ∧ IsDev w' p D.step ∧ Mods [p.b] w w' := by
  have h3 := h.c3
  have h4 := h.c4
  have h6 := h.c6
  have hf := h.fb
  have hs0 := ok.st
  have hlf := ok.lf
  have H := Lib.hid h
  clear h
  by_cases c0 : D.left = 0
  · have e0 : (D.left == 0) = true := by simpa using c0
    have E := Lib.hid (show D.step = { D with steps := D.steps + 1 } by rw [Dev.step, if_neg (by omega)])
    have E2 := Lib.hid (show D.step.down = false by rw [E.out]; exact hd)
    clear c0 hd
    go_enter Try.func51, Try.ntmps51
    go_wp2_with fail
    go_ret
    exact ⟨ret_bool (by rw [E2.out]), by rw [E.out]; exact H.out.set3 _, Mods.refl.setCell (.inl (by simp)) _⟩
  · have e0 : (D.left == 0) = false := by simpa using c0
    by_cases c1 : D.left = 1
    · have E := Lib.hid (show D.step = { D with steps := D.steps + 1, left := D.left - 1, down := true } by rw [Dev.step, if_pos (by omega), c1]; rfl)
      have E2 := Lib.hid (show D.step.down = true by rw [E.out])
      have e1 : ¬ (0 : Int) < D.left - 1 := by omega
      clear c0 c1 hd
      go_enter Try.func51, Try.ntmps51
      go_wp2_with fail
      go_ret
      exact ⟨ret_bool (by rw [E2.out]), by rw [E.out]; exact ((H.out.set3 _).set4 _).set6 _, ((Mods.refl.setCell (.inl (by simp)) _).setCell (.inl (by simp)) _).setCell (.inl (by simp)) _⟩
    · have E := Lib.hid (show D.step = { D with steps := D.steps + 1, left := D.left - 1 } by
        rw [Dev.step, if_pos (by omega)]
        have : (D.left - 1 == 0) = false := by simp; omega
        rw [this, hd])
      have E2 := Lib.hid (show D.step.down = false by rw [E.out]; exact hd)
      have e1 : (0 : Int) < D.left - 1 := by omega
      clear c0 c1 hd
      go_enter Try.func51, Try.ntmps51
      go_wp2_with fail
      go_ret
      exact ⟨ret_bool (by rw [E2.out]), by rw [E.out]; exact (H.out.set3 _).set4 _, (Mods.refl.setCell (.inl (by simp)) _).setCell (.inl (by simp)) _⟩

set_option maxHeartbeats 400000 in
theorem refArm_ok (w : World) (p : DevAt) (D : Dev) (h : IsDev w p D) (steps torn : Int) :
    Calls Try.prog 35 #[.pointer (some ⟨p.b, 0, none⟩), .int .i64 steps, .int .u8 torn] w fun e w' => e = .returned (.tuple #[]) ∧ IsDev w' p (D.arm steps torn) ∧ Mods [p.b] w w' := by
  have h4 := h.c4
  have h5 := h.c5
  have h6 := h.c6
  have hf := h.fb
  have H := Lib.hid h
  clear h
  by_cases hd : D.down = true
  · have E := Lib.hid (Dev.arm_down hd steps torn)
    rw [hd] at h6
    clear hd
    go_enter Try.func35, Try.ntmps35
    go_wp2
    refine bodyPost_ret (results_none rfl _ _ _) rfl ?_
    exact ⟨rfl, by rw [E.out]; exact H.out, Mods.refl⟩
  · have hd' : D.down = false := by simpa using hd
    have E := Lib.hid (Dev.arm_up hd' steps torn)
    rw [hd'] at h6
    clear hd hd'
    go_enter Try.func35, Try.ntmps35
    go_wp2
    · go_end0
      have e : max steps 0 = 0 := by omega
      exact ⟨rfl, by rw [E.out, e]; exact (H.out.set4 0).set5 torn, (Mods.refl.setCell (.inl (by simp)) _).setCell (.inl (by simp)) _⟩
    · go_end0
      have e : max steps 0 = steps := by omega
      exact ⟨rfl, by rw [E.out, e]; exact (H.out.set4 steps).set5 torn, (Mods.refl.setCell (.inl (by simp)) _).setCell (.inl (by simp)) _⟩

set_option maxHeartbeats 400000 in
theorem refRestore_ok (w : World) (p : DevAt) (D : Dev) (h : IsDev w p D) :
    Calls Try.prog 36 #[.pointer (some ⟨p.b, 0, none⟩)] w fun e w' => e = .returned (.tuple #[]) ∧ IsDev w' p D.restore ∧ Mods [p.b] w w' := by
  have h4 := h.c4
  have h6 := h.c6
  have hf := h.fb
  have H := Lib.hid ((h.set6 false).set4 0)
  clear h
  go_enter Try.func36, Try.ntmps36
  go_wp2
  go_end0
  exact ⟨rfl, H.out, (Mods.refl.setCell (.inl (by simp)) _).setCell (.inl (by simp)) _⟩
theorem geometry_ok (s m : Int) (w : World) (hs : I64 s) (hm : I64 m) :
    Calls Try.prog 30 #[.int .i64 s, .int .i64 m] w fun e w' => e = .returned (.tuple #[.int .i64 (1 + s % 4), .int .i64 (64 + m % 70)]) ∧ w = w' := by
  have a0 := Int.emod_nonneg s (show (4 : Int) ≠ 0 by omega)
  have a1 := Int.emod_lt_of_pos s (show (0 : Int) < 4 by omega)
  have b0 := Int.emod_nonneg m (show (70 : Int) ≠ 0 by omega)
  have b1 := Int.emod_lt_of_pos m (show (0 : Int) < 70 by omega)
  go_enter Try.func30, Try.ntmps30
  go_wp2_with fail
  refine (mod_ok s 4 w hs (by omega) (by omega)).mono ?_
  rintro e w' ⟨rfl, rfl⟩
  go_wp2_with fail
  refine (mod_ok m 70 w hm (by omega) (by omega)).mono ?_
  rintro e w' ⟨rfl, rfl⟩
  go_wp2
  go_ret2
  exact ⟨rfl, rfl⟩
end Go.Proofs.Ytjdimdebplggnaa
