/- threshold.Step and threshold.Reached: contracts. -/
import Derived.Test.YtokokojmeepoeaaChg
namespace Go.Proofs.Ytokokojmeepoeaa
open Go.RowKit

/-- A valid analog sensor. -/
def anaB (S : Sen) (P : List Pt) : Bool := !S.disc && validB S P
set_option maxRecDepth 100000 in
theorem tAnalog_ok (w : World) (S : Sen) (P : List Pt) (hS : IsSen w S P) :
    Calls Try.prog 62 #[.agg S.cells] w fun e w' => e = .returned (.bool (anaB S P)) ∧ Mods [] w w' := by
  have HS := Lib.hid hS
  clear hS
  have BB := Lib.hid (SenBox.new w S)
  have M0 := Lib.hid ((Mods.refl (S := []) (w := w)).alloc (.cells S.cells 32))
  obtain ⟨_, _, _, _, _, _, x6⟩ := S.headc
  have HA := Lib.hid (show anaB S P = (!S.disc && validB S P) from rfl)
  cases hd : S.disc with
  | true =>
    rw [hd] at x6
    rw [hd] at HA
    clear hd
    go_enter Try.func62, Try.ntmps62
    go_wp2_with fail
    go_ret
    exact ⟨ret_bool (by rw [HA.out]; rfl), M0.out⟩
  | false =>
    rw [hd] at x6
    rw [hd] at HA
    clear hd
    go_enter Try.func62, Try.ntmps62
    go_wp2_with (refine wpList_load_senG (by rfl) (.tmp 1) rfl BB.out (by rfl) ?_)
    refine (valid_ok _ S P (HS.out.mods0 M0.out)).mono ?_
    rintro e w2 ⟨rfl, M2⟩
    go_wp2
    go_ret
    exact ⟨ret_bool (by rw [HA.out]; rfl), M0.out.trans M2⟩
/-- What Reached gives. -/
def reachN (S : Sen) (P : List Pt) (r : Nat) : Nat × Int := if anaB S P then (nextN S 0 (numI S.conv.sgn r), 0) else (0, 1)
set_option maxRecDepth 100000 in
theorem reached_ok (w : World) (S : Sen) (P : List Pt) (hS : IsSen w S P) (r : Nat) (hr : r < 256) :
    Calls Try.prog 37 #[.agg S.cells, .int .u8 r] w fun e w' => e = .returned (.tuple #[.int .u8 (reachN S P r).1, .int .i64 (reachN S P r).2]) ∧ Mods [] w w' := by
  have HS := Lib.hid hS
  clear hS
  have BB := Lib.hid (SenBox.new w S)
  have M0 := Lib.hid ((Mods.refl (S := []) (w := w)).alloc (.cells S.cells 32))
  go_enter Try.func37, Try.ntmps37
  go_wp2_with (refine wpList_load_sen rfl (.tmp 2) rfl BB.out (by rfl) ?_)
  refine (tAnalog_ok _ S P (HS.out.mods0 M0.out)).mono ?_
  rintro e w2 ⟨rfl, M2⟩
  have BB := Lib.hid (BB.out.mods0 M2)
  have M2 := Lib.hid (M0.out.trans M2)
  cases ha : anaB S P with
  | false =>
    have HR := Lib.hid (show reachN S P r = (0, 1) by simp [reachN, ha])
    clear ha
    go_wp2_with fail
    go_ret2
    exact ⟨by rw [HR.out]; rfl, M2.out⟩
  | true =>
    have HR := Lib.hid (show reachN S P r = (nextN S 0 (numI S.conv.sgn r), 0) by simp [reachN, ha])
    clear ha
    go_wp2_with (refine wpList_load_sen rfl (.tmp 2) rfl BB.out (by rfl) ?_)
    refine (next_state_ok _ S P (HS.out.mods0 M2.out) 0 r (by omega) hr).mono ?_
    rintro e w3 ⟨rfl, M3⟩
    go_wp2
    go_ret2
    exact ⟨by rw [HR.out]; rfl, M2.out.trans M3⟩
/-- What Step gives. -/
def stepN (S : Sen) (P : List Pt) (st r : Nat) : Nat × List Chg × Int :=
  if anaB S P then (if st &&& (255 - S.mask) = 0 then (nextN S st (numI S.conv.sgn r), chL st (nextN S st (numI S.conv.sgn r)) 6, 0) else (0, [], 2)) else (0, [], 1)
def StepOut (w : World) (k : IntKind) (o : Nat × List Chg × Int) (e : Ending) (w' : World) : Prop :=
  ∃ v, e = .returned (.tuple #[.int k o.1, v, .int .i64 o.2.2]) ∧ OwnChg w' w.heap.size v o.2.1 ∧ Mods [] w w'
theorem nextN_lt (S : Sen) (st : Nat) (x : Int) : nextN S st x < 64 := ofBits_lt _ 6
set_option maxRecDepth 100000 in
set_option maxHeartbeats 2000000 in
theorem step_ok (w : World) (S : Sen) (P : List Pt) (hS : IsSen w S P) (st r : Nat) (hst : st < 256) (hr : r < 256) :
    Calls Try.prog 34 #[.agg S.cells, .int .u8 st, .int .u8 r] w fun e w' => StepOut w .u8 (stepN S P st r) e w' := by
  have hm := hS.mask
  have HS := Lib.hid hS
  clear hS
  have BB := Lib.hid (SenBox.new w S)
  have M0 := Lib.hid ((Mods.refl (S := []) (w := w)).alloc (.cells S.cells 32))
  go_enter Try.func34, Try.ntmps34
  go_wp2_with (refine wpList_load_sen rfl (.tmp 3) rfl BB.out (by rfl) ?_)
  refine (tAnalog_ok _ S P (HS.out.mods0 M0.out)).mono ?_
  rintro e w2 ⟨rfl, M2⟩
  have B2 := BB.out.mods0 M2
  have M2 := Lib.hid (M0.out.trans M2)
  have x14 := B2.lims.1
  have BB := Lib.hid B2
  clear B2
  cases ha : anaB S P with
  | false =>
    have HR := Lib.hid (show stepN S P st r = (0, [], 1) by simp [stepN, ha])
    clear ha
    go_wp2_with fail
    go_ret3
    exact ⟨_, by rw [HR.out]; rfl, by rw [HR.out]; exact OwnChg.nil _ _, M2.out⟩
  | true =>
    have ea : bits .andNot .u8 (st : Int) (S.mask : Int) = ((st &&& (255 - S.mask) : Nat) : Int) := u8_andNot_nat _ _ hst hm
    by_cases hx : st &&& (255 - S.mask) = 0
    · have HR := Lib.hid (show stepN S P st r = (nextN S st (numI S.conv.sgn r), chL st (nextN S st (numI S.conv.sgn r)) 6, 0) by simp [stepN, ha, hx])
      have e1 : (((st &&& (255 - S.mask) : Nat) : Int) != 0) = false := by simp only [hx]; rfl
      clear ha hx
      go_wp2_with (refine wpList_load_sen rfl (.tmp 3) rfl BB.out (by rfl) ?_)
      refine (next_state_ok _ S P (HS.out.mods0 M2.out) st r hst hr).mono ?_
      rintro e w3 ⟨rfl, M3⟩
      have hto := nextN_lt S st (numI S.conv.sgn r)
      generalize nextN S st (numI S.conv.sgn r) = to at hto HR
      have M3 := M2.out.trans M3
      have hxl : st ^^^ to < 256 := Nat.xor_lt_two_pow (n := 8) hst (by omega)
      have ex : bits .xor .u8 (st : Int) (to : Int) = ((st ^^^ to : Nat) : Int) := u8_xor_nat _ _ hst (by omega)
      clear ea e1 x14 BB M2
      go_wp2_with fail
      go_loopw [10, 27] (fun d i wr => ∃ k : Nat, k ≤ 6 ∧ i = .int .i64 k ∧ OwnChg wr w.heap.size d (chL st to k) ∧ Mods [] w wr) (fun _ i _ => 6 - (intOf i).toNat)
      case atStart => exact ⟨0, by omega, rfl, OwnChg.nil _ _, M3⟩
      case round =>
        obtain ⟨k, hk, rfl, O, M⟩ := hrel
        clear M3
        by_cases hlt : k < 6
        · have hz := M.size
          have hln := chL_length st to k
          have b8 := bit8 hxl k
          have HC := Lib.hid (show chL st to (k + 1) = chL st to k ++ (if (st ^^^ to).testBit k then [⟨k, to.testBit k⟩] else []) from rfl)
          cases hb : (st ^^^ to).testBit k with
          | false =>
            rw [hb] at b8
            have b9 : (bits .and .u8 (((st ^^^ to : Nat) : Int) / 2 ^ k) 1 == 1) = false := by rw [b8]; rfl
            rw [hb] at HC
            have HC := Lib.hid (show chL st to (k + 1) = chL st to k by rw [HC.out]; simp)
            clear hb b8
            go_wp2_with fail
            exact ⟨⟨k + 1, by omega, by go_num, by rw [HC.out]; exact O, M⟩, by simp only [intOf]; omega⟩
          | true =>
            rw [hb] at b8
            have b9 : (bits .and .u8 (((st ^^^ to : Nat) : Int) / 2 ^ k) 1 == 1) = true := by rw [b8]; rfl
            rw [hb] at HC
            have HC2 := Lib.hid (show chL st to (k + 1) = chL st to k ++ [⟨k, to.testBit k⟩] by rw [HC.out]; simp)
            clear HC
            have t8 := bit8 (m := to) (by omega) k
            obtain ⟨tb1, htb⟩ : ∃ tb1, tb1 = to.testBit k := ⟨_, rfl⟩
            rw [← htb] at t8 HC2
            have t9 : (bits .and .u8 ((to : Int) / 2 ^ k) 1 == 1) = tb1 := by rw [t8]; cases tb1 <;> rfl
            clear hb b8 t8 htb
            go_wp2_with (at_builtin; refine wpList_pushC rfl (.tmp 37) (.tmp 45) rfl w.heap.size _ (chL st to k) (by rfl) (O.mods0 (Mods.refl.alloc _)) wr.heap.size ⟨k, tb1⟩ _ _ (heap_alloc_new wr _) (by rfl) (by omega) (by simp; omega) ?_)
            intro v' w5 O5 M5
            have M5 := Lib.hid ((M.alloc _).then_from M5 (Nat.le_refl _))
            have O5 := Lib.hid O5
            clear O
            go_wp2
            exact ⟨⟨k + 1, by omega, by go_num, by rw [HC2.out]; exact O5.out, M5.out⟩, by simp only [intOf]; omega⟩
        · have hk6 : k = 6 := by omega
          subst hk6
          go_wp2
          go_ret3
          exact ⟨_, by rw [HR.out]; rfl, by rw [HR.out]; exact O, M⟩
    · have HR := Lib.hid (show stepN S P st r = (0, [], 2) by simp [stepN, ha, hx])
      have e1 : (((st &&& (255 - S.mask) : Nat) : Int) != 0) = true := by simp only [bne_iff_ne, ne_eq, Int.natCast_eq_zero]; exact hx
      clear ha hx
      go_wp2_with fail
      go_ret3
      exact ⟨_, by rw [HR.out]; rfl, by rw [HR.out]; exact OwnChg.nil _ _, M2.out⟩
end Go.Proofs.Ytokokojmeepoeaa
