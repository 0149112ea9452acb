/- The reference's Step of discrete sensors: contract. -/
import Derived.Test.YtokokojmeepoeaaRefD
namespace Go.Proofs.Ytokokojmeepoeaa
open Go.RowKit

set_option maxRecDepth 100000 in
set_option maxHeartbeats 2000000 in
theorem refDStep_ok (w : World) (S : Sen) (P : List Pt) (hS : IsSen w S P) (st to : Nat) (hst : st < 65536) (hto : to < 65536) :
    Calls Try.prog 26 #[.agg S.cells, .int .u16 st, .int .u16 to] w fun e w' => StepOut w .u16 (dstepN S P st to) e w' := by
  have hm := hS.states
  have HS := Lib.hid hS
  clear hS
  have BB := Lib.hid (SenBox.new w S)
  have M0 := Lib.hid ((Mods.refl (S := []) (w := w)).alloc (.cells S.cells 32))
  obtain ⟨_, _, _, _, _, _, x6⟩ := S.headc
  have HA := Lib.hid (show digB S P = (S.disc && validB S P) from rfl)
  cases hd : S.disc with
  | false =>
    rw [hd] at x6
    rw [hd] at HA
    have HR := Lib.hid (show dstepN S P st to = (0, [], 1) by simp [dstepN, HA.out])
    clear hd
    go_enter Try.func26, Try.ntmps26
    go_wp2_with fail
    go_ret3
    exact ⟨_, by rw [HR.out]; rfl, by rw [HR.out]; exact OwnChg.nil _ _, M0.out⟩
  | true =>
    rw [hd] at x6
    rw [hd, Bool.true_and] at HA
    clear hd
    go_enter Try.func26, Try.ntmps26
    go_wp2_with (refine wpList_load_senG (by rfl) (.tmp 3) rfl BB.out (by rfl) ?_)
    refine (refValid_ok _ S P (HS.out.mods0 M0.out)).mono ?_
    rintro e w2 ⟨rfl, M2⟩
    have B2 := BB.out.mods0 M2
    have M2 := Lib.hid (M0.out.trans M2)
    obtain ⟨_, _, x23, _, _, _, _⟩ := B2.rest
    clear x6 M0 HS BB
    cases ha : validB S P with
    | false =>
      have HR := Lib.hid (show dstepN S P st to = (0, [], 1) by simp [dstepN, HA.out, ha])
      clear ha HA
      go_wp2_with fail
      go_ret3
      exact ⟨_, by rw [HR.out]; rfl, by rw [HR.out]; exact OwnChg.nil _ _, M2.out⟩
    | true =>
      have e1 : bits .andNot .u16 (st : Int) (S.states : Int) = ((st &&& (65535 - S.states) : Nat) : Int) := u16_andNot_nat _ _ hst hm
      have e2 : bits .andNot .u16 (to : Int) (S.states : Int) = ((to &&& (65535 - S.states) : Nat) : Int) := u16_andNot_nat _ _ hto hm
      have HOA := or_and_zero st to (65535 - S.states)
      by_cases hx : (st ||| to) &&& (65535 - S.states) = 0
      · have HR := Lib.hid (show dstepN S P st to = (to, chL st to 15, 0) by simp [dstepN, HA.out, ha, hx])
        obtain ⟨z1, z2⟩ := HOA.1 hx
        rw [z1] at e1
        rw [z2] at e2
        have M3 := M2.out
        clear ha hx HA HOA z1 z2
        go_wp2_with fail
        clear e1 e2 x23 B2
        go_loopw [9, 10] (fun d i wr => ∃ k : Nat, k ≤ 15 ∧ i = .int .i64 k ∧ OwnChg wr w.heap.size d (chL st to k) ∧ Mods [] w wr) (fun _ i _ => 15 - (intOf i).toNat)
        case atStart => exact ⟨0, by omega, rfl, OwnChg.nil _ _, M3⟩
        case round =>
          obtain ⟨k, hk, rfl, O, M⟩ := hrel
          clear M3
          by_cases hlt : k < 15
          · have hz := M.size
            have hln := chL_length st to k
            have HC := Lib.hid (show chL st to (k + 1) = chL st to k ++ (if (st ^^^ to).testBit k then [⟨k, to.testBit k⟩] else []) from rfl)
            rw [Nat.testBit_xor] at HC
            have HO := Lib.hid O
            have HM := Lib.hid M
            clear O M
            go_wp2_with fail
            refine (has_ok to k hto (by omega) _).mono ?_
            rintro e w3 ⟨rfl, rfl⟩
            go_wp2_with fail
            refine (has_ok st k hst (by omega) _).mono ?_
            rintro e w4 ⟨rfl, rfl⟩
            generalize hb1 : to.testBit k = b1 at HC ⊢
            generalize hb2 : st.testBit k = b2 at HC ⊢
            clear hb1 hb2
            cases b1 with
            | false =>
              cases b2 with
              | false =>
                have HC := Lib.hid (show chL st to (k + 1) = chL st to k by rw [HC.out]; simp)
                go_wp2_with fail
                exact ⟨⟨k + 1, by omega, by go_num, by rw [HC.out]; exact HO.out, HM.out⟩, by simp only [intOf]; omega⟩
              | true =>
                have HC2 := Lib.hid (show chL st to (k + 1) = chL st to k ++ [⟨k, false⟩] by rw [HC.out]; simp)
                clear HC
                go_wp2_with (at_builtin; refine wpList_pushC rfl (.tmp 44) (.tmp 48) rfl w.heap.size _ (chL st to k) (by rfl) (HO.out.mods0 (Mods.refl.alloc _)) wr.heap.size ⟨k, false⟩ _ _ (heap_alloc_new wr _) (by rfl) (by omega) (by simp; omega) ?_)
                intro v' w5 O5 M5
                have M5 := Lib.hid ((HM.out.alloc _).then_from M5 (Nat.le_refl _))
                have O5 := Lib.hid O5
                go_wp2
                exact ⟨⟨k + 1, by omega, by go_num, by rw [HC2.out]; exact O5.out, M5.out⟩, by simp only [intOf]; omega⟩
            | true =>
              cases b2 with
              | false =>
                have HC2 := Lib.hid (show chL st to (k + 1) = chL st to k ++ [⟨k, true⟩] by rw [HC.out]; simp)
                clear HC
                go_wp2_with (at_builtin; refine wpList_pushC rfl (.tmp 44) (.tmp 48) rfl w.heap.size _ (chL st to k) (by rfl) (HO.out.mods0 (Mods.refl.alloc _)) wr.heap.size ⟨k, true⟩ _ _ (heap_alloc_new wr _) (by rfl) (by omega) (by simp; omega) ?_)
                intro v' w5 O5 M5
                have M5 := Lib.hid ((HM.out.alloc _).then_from M5 (Nat.le_refl _))
                have O5 := Lib.hid O5
                go_wp2
                exact ⟨⟨k + 1, by omega, by go_num, by rw [HC2.out]; exact O5.out, M5.out⟩, by simp only [intOf]; omega⟩
              | true =>
                have HC := Lib.hid (show chL st to (k + 1) = chL st to k by rw [HC.out]; simp)
                go_wp2_with fail
                exact ⟨⟨k + 1, by omega, by go_num, by rw [HC.out]; exact HO.out, HM.out⟩, by simp only [intOf]; omega⟩
          · have hk6 : k = 15 := by omega
            subst hk6
            go_wp2
            go_ret3
            exact ⟨_, by rw [HR.out]; rfl, by rw [HR.out]; exact O, M⟩
      · have HR := Lib.hid (show dstepN S P st to = (0, [], 2) by simp [dstepN, HA.out, ha, hx])
        by_cases h1 : st &&& (65535 - S.states) = 0
        · have h2 : to &&& (65535 - S.states) ≠ 0 := fun h => hx (HOA.2 ⟨h1, h⟩)
          rw [h1] at e1
          have q2 : (((to &&& (65535 - S.states) : Nat) : Int) != 0) = true := by simp only [bne_iff_ne, ne_eq, Int.natCast_eq_zero]; exact h2
          clear ha hx HA HOA h1 h2
          go_wp2_with fail
          go_ret3
          exact ⟨_, by rw [HR.out]; rfl, by rw [HR.out]; exact OwnChg.nil _ _, M2.out⟩
        · have q1 : (((st &&& (65535 - S.states) : Nat) : Int) != 0) = true := by simp only [bne_iff_ne, ne_eq, Int.natCast_eq_zero]; exact h1
          clear ha hx HA HOA h1 e2
          go_wp2_with fail
          go_ret3
          exact ⟨_, by rw [HR.out]; rfl, by rw [HR.out]; exact OwnChg.nil _ _, M2.out⟩
end Go.Proofs.Ytokokojmeepoeaa
