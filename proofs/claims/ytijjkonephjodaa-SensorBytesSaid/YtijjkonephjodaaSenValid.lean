/- sensor.Valid: contract. -/
import Derived.Test.YtijjkonephjodaaDisc
namespace Go.Proofs.Ytijjkonephjodaa
open Go.RowKit

set_option maxRecDepth 100000 in
set_option maxHeartbeats 4000000 in
theorem valid_ok (w : World) (S : Sen) (P : List Pt) (hS : IsSen w S P) :
    Calls Try.prog 44 #[.agg S.cells] w fun e w' => e = .returned (.bool (validB S P)) ∧ Mods [] w w' := by
  have hn := hS.name
  have HS := Lib.hid hS
  clear hS
  have B0 := SenBox.new w S
  have BB := Lib.hid B0
  have M0 := Lib.hid ((Mods.refl (S := []) (w := w)).alloc (.cells S.cells 32))
  obtain ⟨_, _, _, x3, _, _, x6⟩ := S.headc
  obtain ⟨_, _, _, _, _, _, x27⟩ := S.restc
  clear B0
  have HV := Lib.hid (show validB S P = (nameB S.name && decide (S.samples = 1 ∨ S.samples = 3 ∨ S.samples = 5) && if S.disc then discB S P else analogB S P) from rfl)
  go_enter Try.func44, Try.ntmps44
  go_wp2_with fail
  refine (named_ok S.name (by omega) _).mono ?_
  rintro e w' ⟨rfl, rfl⟩
  cases hnm : nameB S.name with
  | false =>
    have HN := Lib.hid hnm
    clear hnm
    go_wp2_with fail
    go_ret
    exact ⟨ret_bool (by rw [HV.out, HN.out]; rfl), M0.out⟩
  | true =>
    have HN := Lib.hid hnm
    clear hnm
    by_cases hs : S.samples = 1 ∨ S.samples = 3 ∨ S.samples = 5
    · have HV := Lib.hid (show validB S P = if S.disc then discB S P else analogB S P by rw [HV.out, HN.out, decide_eq_true hs]; rfl)
      cases hd : S.disc with
      | true =>
        have HD := Lib.hid hd
        rw [hd] at x6
        clear hd
        rcases hs with hs | hs | hs
        all_goals
          rw [hs] at x27
          clear hs
          go_wp2_with (refine wpList_load_sen rfl (.tmp 1) rfl BB.out (by rfl) ?_)
          refine (discrete_ok _ S P (HS.out.mods0 M0.out)).mono ?_
          rintro e w3 ⟨rfl, M3⟩
          go_wp2
          go_ret
          exact ⟨ret_bool (by rw [HV.out, HD.out]; rfl), M0.out.trans M3⟩
      | false =>
        have HD := Lib.hid hd
        rw [hd] at x6
        clear hd
        rcases hs with hs | hs | hs
        all_goals
          rw [hs] at x27
          clear hs
          go_wp2_with (refine wpList_load_sen rfl (.tmp 1) rfl BB.out (by rfl) ?_)
          refine (analog_ok _ S P (HS.out.mods0 M0.out)).mono ?_
          rintro e w3 ⟨rfl, M3⟩
          go_wp2
          go_ret
          exact ⟨ret_bool (by rw [HV.out, HD.out]; rfl), M0.out.trans M3⟩
    · have HF := Lib.hid (show validB S P = false by rw [HV.out, decide_eq_false hs, Bool.and_false, Bool.false_and])
      have e1 : (S.samples != 1) = true := by simp; omega
      have e3 : (S.samples != 3) = true := by simp; omega
      have e5 : (S.samples != 5) = true := by simp; omega
      clear hs
      go_wp2_with fail
      go_ret
      exact ⟨ret_bool (by rw [HF.out]), M0.out⟩
end Go.Proofs.Ytijjkonephjodaa
