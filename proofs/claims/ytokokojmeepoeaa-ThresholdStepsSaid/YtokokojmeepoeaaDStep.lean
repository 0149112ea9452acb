/- discrete.Step and discrete.Apply: contracts. -/
import Derived.Test.YtokokojmeepoeaaStep
import Derived.Test.YtokokojmeepoeaaChgLaw
namespace Go.Proofs.Ytokokojmeepoeaa
open Go.RowKit

/-- A valid discrete sensor. -/
def digB (S : Sen) (P : List Pt) : Bool := S.disc && validB S P
/-- What Step gives. -/
def dstepN (S : Sen) (P : List Pt) (a b : Nat) : Nat × List Chg × Int :=
  if digB S P then (if (a ||| b) &&& (65535 - S.states) = 0 then (b, chL a b 15, 0) else (0, [], 2)) else (0, [], 1)
set_option maxRecDepth 100000 in
set_option maxHeartbeats 2000000 in
theorem dstep_ok (w : World) (S : Sen) (P : List Pt) (hS : IsSen w S P) (st to : Nat) (hst : st < 65536) (hto : to < 65536) :
    Calls Try.prog 25 #[.agg S.cells, .int .u16 st, .int .u16 to] w fun e w' => StepOut w .u16 (dstepN S P st to) e w' := by
  have hm := hS.states
  have HS := Lib.hid hS
  clear hS
  have BB := Lib.hid (SenBox.new w S)
  have M0 := Lib.hid ((Mods.refl (S := []) (w := w)).alloc (.cells S.cells 32))
  obtain ⟨_, _, _, _, _, _, x6⟩ := S.headc
  have HA := Lib.hid (show digB S P = (S.disc && validB S P) from rfl)
  cases hd : S.disc with
  | false =>
    rw [hd] at x6
    rw [hd] at HA
    have HR := Lib.hid (show dstepN S P st to = (0, [], 1) by simp [dstepN, HA.out])
    clear hd
    go_enter Try.func25, Try.ntmps25
    go_wp2_with fail
    go_ret3
    exact ⟨_, by rw [HR.out]; rfl, by rw [HR.out]; exact OwnChg.nil _ _, M0.out⟩
  | true =>
    rw [hd] at x6
    rw [hd, Bool.true_and] at HA
    clear hd
    go_enter Try.func25, Try.ntmps25
    go_wp2_with (refine wpList_load_senG (by rfl) (.tmp 3) rfl BB.out (by rfl) ?_)
    refine (valid_ok _ S P (HS.out.mods0 M0.out)).mono ?_
    rintro e w2 ⟨rfl, M2⟩
    have B2 := BB.out.mods0 M2
    have M2 := Lib.hid (M0.out.trans M2)
    obtain ⟨_, _, x23, _, _, _, _⟩ := B2.rest
    clear x6 M0 HS BB
    cases ha : validB S P with
    | false =>
      have HR := Lib.hid (show dstepN S P st to = (0, [], 1) by simp [dstepN, HA.out, ha])
      clear ha HA
      go_wp2_with fail
      go_ret3
      exact ⟨_, by rw [HR.out]; rfl, by rw [HR.out]; exact OwnChg.nil _ _, M2.out⟩
    | true =>
      have ho : st ||| to < 65536 := Nat.or_lt_two_pow (n := 16) hst hto
      have eo : bits .or .u16 (st : Int) (to : Int) = ((st ||| to : Nat) : Int) := u16_or_nat _ _ hst hto
      have ea : bits .andNot .u16 ((st ||| to : Nat) : Int) (S.states : Int) = (((st ||| to) &&& (65535 - S.states) : Nat) : Int) := u16_andNot_nat _ _ ho hm
      by_cases hx : (st ||| to) &&& (65535 - S.states) = 0
      · have HR := Lib.hid (show dstepN S P st to = (to, chL st to 15, 0) by simp [dstepN, HA.out, ha, hx])
        have e1 : ((((st ||| to) &&& (65535 - S.states) : Nat) : Int) != 0) = false := by simp only [hx]; rfl
        have M3 := M2.out
        have hxl : st ^^^ to < 65536 := Nat.xor_lt_two_pow (n := 16) hst hto
        have ex : bits .xor .u16 (st : Int) (to : Int) = ((st ^^^ to : Nat) : Int) := u16_xor_nat _ _ hst hto
        clear ha hx HA ho
        go_wp2_with fail
        clear ea e1 x23 eo B2
        go_loopw [9, 28] (fun d i wr => ∃ k : Nat, k ≤ 15 ∧ i = .int .i64 k ∧ OwnChg wr w.heap.size d (chL st to k) ∧ Mods [] w wr) (fun _ i _ => 15 - (intOf i).toNat)
        case atStart => exact ⟨0, by omega, rfl, OwnChg.nil _ _, M3⟩
        case round =>
          obtain ⟨k, hk, rfl, O, M⟩ := hrel
          clear M3
          by_cases hlt : k < 15
          · have hz := M.size
            have hln := chL_length st to k
            have b8 := bit16 hxl k
            have HC := Lib.hid (show chL st to (k + 1) = chL st to k ++ (if (st ^^^ to).testBit k then [⟨k, to.testBit k⟩] else []) from rfl)
            cases hb : (st ^^^ to).testBit k with
            | false =>
              rw [hb] at b8
              have b9 : (bits .and .u16 (((st ^^^ to : Nat) : Int) / 2 ^ k) 1 == 1) = false := by rw [b8]; rfl
              rw [hb] at HC
              have HC := Lib.hid (show chL st to (k + 1) = chL st to k by rw [HC.out]; simp)
              clear hb b8
              go_wp2_with fail
              exact ⟨⟨k + 1, by omega, by go_num, by rw [HC.out]; exact O, M⟩, by simp only [intOf]; omega⟩
            | true =>
              rw [hb] at b8
              have b9 : (bits .and .u16 (((st ^^^ to : Nat) : Int) / 2 ^ k) 1 == 1) = true := by rw [b8]; rfl
              rw [hb] at HC
              have HC2 := Lib.hid (show chL st to (k + 1) = chL st to k ++ [⟨k, to.testBit k⟩] by rw [HC.out]; simp)
              clear HC
              have t8 := bit16 hto k
              obtain ⟨tb1, htb⟩ : ∃ tb1, tb1 = to.testBit k := ⟨_, rfl⟩
              rw [← htb] at t8 HC2
              have t9 : (bits .and .u16 ((to : Int) / 2 ^ k) 1 == 1) = tb1 := by rw [t8]; cases tb1 <;> rfl
              clear hb b8 t8 htb
              go_wp2_with (at_builtin; refine wpList_pushC rfl (.tmp 38) (.tmp 46) rfl w.heap.size _ (chL st to k) (by rfl) (O.mods0 (Mods.refl.alloc _)) wr.heap.size ⟨k, tb1⟩ _ _ (heap_alloc_new wr _) (by rfl) (by omega) (by simp; omega) ?_)
              intro v' w5 O5 M5
              have M5 := Lib.hid ((M.alloc _).then_from M5 (Nat.le_refl _))
              have O5 := Lib.hid O5
              clear O
              go_wp2
              exact ⟨⟨k + 1, by omega, by go_num, by rw [HC2.out]; exact O5.out, M5.out⟩, by simp only [intOf]; omega⟩
          · have hk6 : k = 15 := by omega
            subst hk6
            go_wp2
            go_ret3
            exact ⟨_, by rw [HR.out]; rfl, by rw [HR.out]; exact O, M⟩
      · have HR := Lib.hid (show dstepN S P st to = (0, [], 2) by simp [dstepN, HA.out, ha, hx])
        have e1 : ((((st ||| to) &&& (65535 - S.states) : Nat) : Int) != 0) = true := by simp only [bne_iff_ne, ne_eq, Int.natCast_eq_zero]; exact hx
        clear ha hx HA
        go_wp2_with fail
        go_ret3
        exact ⟨_, by rw [HR.out]; rfl, by rw [HR.out]; exact OwnChg.nil _ _, M2.out⟩
end Go.Proofs.Ytokokojmeepoeaa
