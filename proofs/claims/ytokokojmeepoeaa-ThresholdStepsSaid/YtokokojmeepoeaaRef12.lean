/- The reference's thresholds: contracts. -/
import Derived.Test.YtokokojmeepoeaaStep
import Derived.Test.YtokokojmeepoeaaThLaws
import Derived.Test.YtokokojmeepoeaaRefValid
namespace Go.Proofs.Ytokokojmeepoeaa
open Go.RowKit

set_option maxRecDepth 100000 in
theorem refAnalog_ok (w : World) (S : Sen) (P : List Pt) (hS : IsSen w S P) :
    Calls Try.prog 65 #[.agg S.cells] w fun e w' => e = .returned (.bool (anaB S P)) ∧ Mods [] w w' := by
  have HS := Lib.hid hS
  clear hS
  have BB := Lib.hid (SenBox.new w S)
  have M0 := Lib.hid ((Mods.refl (S := []) (w := w)).alloc (.cells S.cells 32))
  obtain ⟨_, _, _, _, _, _, x6⟩ := S.headc
  have HA := Lib.hid (show anaB S P = (!S.disc && validB S P) from rfl)
  cases hd : S.disc with
  | true =>
    rw [hd] at x6
    rw [hd] at HA
    clear hd
    go_enter Try.func65, Try.ntmps65
    go_wp2_with fail
    go_ret
    exact ⟨ret_bool (by rw [HA.out]; rfl), M0.out⟩
  | false =>
    rw [hd] at x6
    rw [hd] at HA
    clear hd
    go_enter Try.func65, Try.ntmps65
    go_wp2_with (refine wpList_load_senG (by rfl) (.tmp 1) rfl BB.out (by rfl) ?_)
    refine (refValid_ok _ S P (HS.out.mods0 M0.out)).mono ?_
    rintro e w2 ⟨rfl, M2⟩
    go_wp2
    go_ret
    exact ⟨ret_bool (by rw [HA.out]; rfl), M0.out.trans M2⟩
def reachesB (S : Sen) (i : Nat) (x : Int) : Bool := decide (0 ≤ beyI S i x)
def leavesB (S : Sen) (i : Nat) (x : Int) : Bool := decide (beyI S i x < -(hysI S i : Int))
set_option maxRecDepth 100000 in
theorem reaches_ok (w : World) (S : Sen) (P : List Pt) (hS : IsSen w S P) (i : Nat) (hi : i < 6) (x : Int) (_hx : -128 ≤ x ∧ x ≤ 255) :
    Calls Try.prog 66 #[.agg S.cells, .int .i64 i, .int .i64 x] w fun e w' => e = .returned (.bool (reachesB S i x)) ∧ Mods [] w w' := by
  have HS := Lib.hid hS
  have hn := Sen.num_bd hS i
  clear hS
  have BB := Lib.hid (SenBox.new w S)
  have M0 := Lib.hid ((Mods.refl (S := []) (w := w)).alloc (.cells S.cells 32))
  go_enter Try.func66, Try.ntmps66
  go_wp2_with (refine wpList_load_sen rfl (.tmp 3) rfl BB.out (by rfl) ?_)
  refine (limit_ok _ S P (HS.out.mods0 M0.out) i hi).mono ?_
  rintro e w2 ⟨rfl, M2⟩
  have HM := Lib.hid (M0.out.trans M2)
  clear M2
  by_cases h3 : i ≤ 2
  · have d : decide ((i : Int) < 3) = true := decide_eq_true (by omega)
    have HR := Lib.hid (show reachesB S i x = decide (x ≤ S.num i) by unfold reachesB beyI; rw [if_pos h3]; exact decide_eq_decide.2 ⟨fun h => by omega, fun h => by omega⟩)
    go_wp2_with fail
    go_ret
    exact ⟨ret_bool (by rw [HR.out]), HM.out⟩
  · have d : decide ((i : Int) < 3) = false := decide_eq_false (by omega)
    have HR := Lib.hid (show reachesB S i x = decide (S.num i ≤ x) by unfold reachesB beyI; rw [if_neg h3]; exact decide_eq_decide.2 ⟨fun h => by omega, fun h => by omega⟩)
    go_wp2_with fail
    go_ret
    exact ⟨ret_bool (by rw [HR.out]), HM.out⟩
set_option maxRecDepth 100000 in
theorem leaves_ok (w : World) (S : Sen) (P : List Pt) (hS : IsSen w S P) (i : Nat) (hi : i < 6) (x : Int) (_hx : -128 ≤ x ∧ x ≤ 255) :
    Calls Try.prog 67 #[.agg S.cells, .int .i64 i, .int .i64 x] w fun e w' => e = .returned (.bool (leavesB S i x)) ∧ Mods [] w w' := by
  have HS := Lib.hid hS
  have hn := Sen.num_bd hS i
  have hl := hS.hl
  have hu := hS.hu
  clear hS
  have BB := Lib.hid (SenBox.new w S)
  have M0 := Lib.hid ((Mods.refl (S := []) (w := w)).alloc (.cells S.cells 32))
  go_enter Try.func67, Try.ntmps67
  go_wp2_with (refine wpList_load_sen rfl (.tmp 3) rfl BB.out (by rfl) ?_)
  refine (limit_ok _ S P (HS.out.mods0 M0.out) i hi).mono ?_
  rintro e w2 ⟨rfl, M2⟩
  have c21 := (BB.out.mods0 M2).rest.1
  have c22 := (BB.out.mods0 M2).rest.2.1
  have HM := Lib.hid (M0.out.trans M2)
  clear M2
  by_cases h3 : i ≤ 2
  · have d : decide ((i : Int) < 3) = true := decide_eq_true (by omega)
    have HR := Lib.hid (show leavesB S i x = decide (S.num i + (S.hl : Int) < x) by unfold leavesB beyI hysI; rw [if_pos h3, if_pos h3]; exact decide_eq_decide.2 ⟨fun h => by omega, fun h => by omega⟩)
    go_wp2_with fail
    go_ret
    exact ⟨ret_bool (by rw [HR.out]), HM.out⟩
  · have d : decide ((i : Int) < 3) = false := decide_eq_false (by omega)
    have HR := Lib.hid (show leavesB S i x = decide (x < S.num i - (S.hu : Int)) by unfold leavesB beyI hysI; rw [if_neg h3, if_neg h3]; exact decide_eq_decide.2 ⟨fun h => by omega, fun h => by omega⟩)
    go_wp2_with fail
    go_ret
    exact ⟨ret_bool (by rw [HR.out]), HM.out⟩
set_option maxRecDepth 100000 in
theorem refSeverity_ok (st : Nat) (hst : st < 256) (w : World) :
    Calls Try.prog 42 #[.int .u8 st] w fun e w' => e = .returned (.int .i64 (sevI st)) ∧ Mods [] w w' := by
  have hw := wrap16 (m := st) (by omega)
  go_enter Try.func42, Try.ntmps42
  go_wp2_with fail
  go_loopw [3] (fun i wr => ∃ k : Int, -1 ≤ k ∧ k ≤ 2 ∧ i = .int .i64 k ∧ wr = w ∧ Hid (∀ j : Nat, k + 1 < j → j ≤ 3 → sevB st j = false)) (fun i _ => (intOf i + 1).toNat)
  case atStart => exact ⟨2, by omega, by omega, rfl, rfl, fun j h1 h2 => by omega⟩
  case round =>
    obtain ⟨k, hk0, hk, rfl, rfl, hs⟩ := hrel
    by_cases hz : 0 ≤ k
    · obtain ⟨j, rfl⟩ := Int.eq_ofNat_of_zero_le hz
      have hj : j ≤ 2 := by omega
      have d0 : decide ((0 : Int) ≤ (j : Int)) = true := decide_eq_true (by omega)
      have HB := Lib.hid (show sevB st (j + 1) = (st.testBit j || st.testBit (j + 3)) from rfl)
      go_wp2_with fail
      refine (has_ok st j (by omega) (by omega) _).mono ?_
      rintro e w3 ⟨rfl, rfl⟩
      cases hb : st.testBit j with
      | true =>
        rw [hb, Bool.true_or] at HB
        clear hb
        have HF := Lib.hid (show sevI st = (j : Int) + 1 by
          have h3 := hs.out 3
          have h2 := hs.out 2
          have hv := HB.out
          unfold sevI
          rcases (show j = 0 ∨ j = 1 ∨ j = 2 by omega) with rfl | rfl | rfl
          · rw [h3 (by omega) (by omega), h2 (by omega) (by omega), show sevB st 1 = true from hv]; rfl
          · rw [h3 (by omega) (by omega), show sevB st 2 = true from hv]; rfl
          · rw [show sevB st 3 = true from hv]; rfl)
        go_wp2_with fail
        go_ret
        exact ⟨ret_int (by rw [HF.out]), Mods.refl⟩
      | false =>
        rw [hb, Bool.false_or] at HB
        clear hb
        go_wp2_with fail
        rw [show ((j : Int) + 3) = ((j + 3 : Nat) : Int) by omega]
        refine (has_ok st (j + 3) (by omega) (by omega) _).mono ?_
        rintro e w4 ⟨rfl, rfl⟩
        cases hb : st.testBit (j + 3) with
        | true =>
          rw [hb] at HB
          clear hb
          have HF := Lib.hid (show sevI st = (j : Int) + 1 by
            have h3 := hs.out 3
            have h2 := hs.out 2
            have hv := HB.out
            unfold sevI
            rcases (show j = 0 ∨ j = 1 ∨ j = 2 by omega) with rfl | rfl | rfl
            · rw [h3 (by omega) (by omega), h2 (by omega) (by omega), show sevB st 1 = true from hv]; rfl
            · rw [h3 (by omega) (by omega), show sevB st 2 = true from hv]; rfl
            · rw [show sevB st 3 = true from hv]; rfl)
          go_wp2_with fail
          go_ret
          exact ⟨ret_int (by rw [HF.out]), Mods.refl⟩
        | false =>
          rw [hb] at HB
          clear hb
          go_wp2_with fail
          exact ⟨⟨(j : Int) - 1, by omega, by omega, by go_num, trivial, Lib.hid (fun q h1 h2 => by
            by_cases h : q = j + 1
            · rw [h]; exact HB.out
            · exact hs.out q (by omega) h2)⟩, by simp only [intOf]; omega⟩
    · have d0 : decide ((0 : Int) ≤ k) = false := decide_eq_false (by omega)
      have HF := Lib.hid (show sevI st = 0 by
        unfold sevI
        rw [hs.out 3 (by omega) (by omega), hs.out 2 (by omega) (by omega), hs.out 1 (by omega) (by omega)]; rfl)
      go_wp2_with fail
      go_ret
      exact ⟨ret_int (by rw [HF.out]), Mods.refl⟩
end Go.Proofs.Ytokokojmeepoeaa
