/- ThresholdNested: the walk. -/
import Derived.Test.YtokokojmeepoeaaThLaws
import Derived.Test.YtokokojmeepoeaaHeldRow
import Derived.Test.YtokokojmeepoeaaBytes
namespace Go.Proofs.Ytokokojmeepoeaa
open Go.RowKit

theorem tbI (m i : Nat) : (((m : Int) / 2 ^ i).tmod 2 == 1) = m.testBit i := by
  rw [tb, shr_nat]
  generalize m / 2 ^ i = q
  rw [show (q : Int).tmod 2 = ((q % 2 : Nat) : Int) from (Int.ofNat_tmod q 2).symm]
  rcases Nat.mod_two_eq_zero_or_one q with h | h <;> rw [h] <;> rfl
theorem tbI0 (m i : Nat) : (((m : Int) / 2 ^ i).tmod 2 == 0) = !m.testBit i := by
  rw [tb, shr_nat]
  generalize m / 2 ^ i = q
  rw [show (q : Int).tmod 2 = ((q % 2 : Nat) : Int) from (Int.ofNat_tmod q 2).symm]
  rcases Nat.mod_two_eq_zero_or_one q with h | h <;> rw [h] <;> rfl
set_option maxRecDepth 100000 in
set_option maxHeartbeats 4000000 in
theorem thresholdNested_walk (w : World) (v : Value) (L : List Int) (hv : Rd w v (i64s L)) (hb : ∀ i, -9223372036854775808 ≤ L.getD i 0 ∧ L.getD i 0 ≤ 9223372036854775807)
    (vr : Value) (R : List Int) (hr : Rd w vr (u8s R)) (hrb : Bytes R) :
    Calls Try.prog 6 #[v, vr] w fun e w' => e = .returned (.bool true) ∧ Mods [] w w' := by
  have HRR := Lib.hid hr
  have HRB := Lib.hid hrb
  obtain ⟨adr, capr, rfl, hr1, hr2, _⟩ := hr.u8
  have hr3 : capr ≤ 9223372036854775807 := hr2
  clear hr hr2 hrb
  have HL := Lib.hid (light_ok w v L hv)
  have HV := Lib.hid hv
  have HB := Lib.hid hb
  clear hv hb
  by_cases hl : L.length ≤ 600
  · by_cases hl2 : R.length ≤ 80
    · have HGT : decide ((80 : Int) < (R.length : Int)) = false := decide_eq_false (by omega)
      have HLL := Lib.hid (decide_eq_true hl)
      go_enter Try.func6, Try.ntmps6
      go_wp2_with fail
      refine HL.out.mono ?_
      rw [HLL.out]
      rintro e w' ⟨rfl, rfl⟩
      go_wp2_with fail
      refine (roll_ok w v L HV.out (by omega) HB.out).mono ?_
      rintro e w1 ⟨rfl, D1, M1, z1⟩
      go_wp2_with fail
      refine (analogM_ok w1 w.heap.size v L 0 D1 1 (by omega)).mono ?_
      rintro e w2 ⟨S, P, n2, rfl, IS, VS, DS, OP, PL, SN, D2, M2⟩
      have M2 : Mods [] w w2 := M1.comp M2 (fun q hq => by simp at hq; subst hq; exact .inr (Nat.le_refl _))
      have hone := Lib.hid IS.conv.rd.one
      have ⟨v1, v2, v3, _⟩ := validB_ana VS DS
      have HM64 := Lib.hid v3
      have HV1 := Lib.hid v1
      have HV2 := Lib.hid v2
      have HMK := Lib.hid IS.mask
      have HA : Hid (∀ W, W.heap[w2.heap.size]? = some (.cells S.cells 32 (0, 0)) → Mods [w2.heap.size] (w2.alloc (.cells zS.cells 32)) W → Sn W w.heap.size w2.heap.size S P ∧ IsDice W w.heap.size v L n2 ∧ Mods [] w W) := Lib.hid (fun W R M => by
        have ⟨x, y, z⟩ := Sn.made D1.lt IS OP D2 R M
        exact ⟨x, y, M2.trans z⟩)
      have HGW := Lib.hid M2.size
      clear D1 D2 M1 VS DS OP PL SN IS v1 v2 v3
      go_wp2_with (first | (refine wpList_load_sen rfl (.tmp 5) rfl HB4.out (by rfl) ?_) | (refine wpList_store_row (cs := S.cells) rfl 32 (.tmp 5) (.tmp 24) rfl (heap_alloc_new w2 _) (by rfl) (by rfl) (by rfl) (Sen.infoS _) (Sen.one _ hone.out) ?_; intro w4 R4 M4; have HA4 := Lib.hid (HA.out w4 R4 M4); have HB4 := Lib.hid HA4.out.1.box; skip; clear M4 R4))
      clear HA M2
      have HS := Lib.hid HA4.out.1
      have HM := Lib.hid HA4.out.2.2
      have HST := Lib.hid (show ∀ u x, u &&& (255 - S.mask) = 0 → stepN S P u x = (nextN S u (numI S.conv.sgn x), chL u (nextN S u (numI S.conv.sgn x)) 6, 0) from fun u x hu => by simp [stepN, HV1.out, hu])
      clear HA4 HB4
      go_loopw [6, 7] (fun s i wr => ∃ k st : Nat, k ≤ R.length ∧ i = .int .i64 k ∧ s = .int .u8 st ∧ st < 256 ∧ Hid (Nest S.mask st ∧ st &&& (255 - S.mask) = 0) ∧ Mods [] w4 wr) (fun _ i _ => R.length - (intOf i).toNat)
      case atStart => exact ⟨0, 0, Nat.zero_le _, rfl, rfl, by omega, Lib.hid ⟨Nest.zero _, by simp⟩, Mods.refl⟩
      case round =>
        obtain ⟨k, st, hk, rfl, rfl, hst, HN, M5⟩ := hrel
        by_cases hlt : k < R.length
        · have i1 : (0 : Int) ≤ (k : Int) := by omega
          have i2 : (k : Int) < (R.length : Int) := by omega
          have HW := Lib.hid (HM.out.trans M5)
          have HS5 := Lib.hid (HS.out.mods0 M5)
          obtain ⟨_, _, he, _, _, hc⟩ := (HRR.out.mods0 HW.out).u8
          obtain ⟨bb, off, rfl, x0⟩ := hc k hlt
          injection he with he1 he2 he3
          subst he1 he3
          clear hc he2
          have hb1 := HRB.out k
          obtain ⟨rk, hrk⟩ := Int.eq_ofNat_of_zero_le hb1.1
          rw [hrk] at x0 hb1
          have hrk2 : rk < 256 := by omega
          clear hrk hb1
          generalize w2.heap.size = g at HS HS5 HGW ⊢
          have HSC := Lib.hid (fun W (M : Mods [] wr W) => step_ok W S P (HS5.out.sen.mods0 M) st rk hst hrk2)
          rw [HST.out st rk HN.out.2] at HSC
          have HM5 := Lib.hid M5
          clear M5 hone HV1
          go_wp2_with fail
          refine heldStart (S := fun W => W.heap[g]? = some (.cells S.cells 32 (0, 0)) ∧ W.cell? ⟨bb, off + k, none⟩ = some (.int .u8 rk)) 14 rfl (by kernel_rfl) ⟨HS5.out.box.blk, x0⟩ (fun hHeld => ?_)
          refine takeD (i := 0) (d := 32) (v := .agg S.cells) rfl rfl (by kernel_rfl) (by kernel_rfl) (by kernel_rfl) (fun _ _ _ h => h) (yieldsIf_load_row rfl 32 (.tmp 5) rfl g rfl 32 S.cells (0, 0) _ (fun w h=>h.1) Try.underlying32 rfl S.infoS) hHeld ?_
          simp only [List.setIfInBounds_toArray, List.set_cons_zero, List.set_cons_succ]
          refine takeD (i := 1) (d := 33) (v := ?_) rfl rfl (by kernel_rfl) (by kernel_rfl) (by kernel_rfl) (fun _ _ _ h => h) (Or.inl ⟨by rfl, ?_⟩) hHeld ?_
          rotate_left 1
          · (intro w hSw; (try dsimp only at hSw); go_simp; (try with_reducible rfl))
          simp only [List.setIfInBounds_toArray, List.set_cons_zero, List.set_cons_succ]
          refine takeD (i := 2) (d := 34) (v := ?_) rfl rfl (by kernel_rfl) (by kernel_rfl) (by kernel_rfl) (fun _ _ _ h => h) (Or.inl ⟨by rfl, ?_⟩) hHeld ?_
          rotate_left 1
          · (intro w hSw; (try dsimp only at hSw); go_simp; (try with_reducible rfl))
          simp only [List.setIfInBounds_toArray, List.set_cons_zero, List.set_cons_succ]
          refine takeD (i := 3) (d := 35) (v := ?_) rfl rfl (by kernel_rfl) (by kernel_rfl) (by kernel_rfl) (fun _ _ _ h => h) (Or.inl ⟨by rfl, ?_⟩) hHeld ?_
          rotate_left 1
          · (intro w hSw; (try dsimp only at hSw); go_simp; (try with_reducible rfl))
          simp only [List.setIfInBounds_toArray, List.set_cons_zero, List.set_cons_succ]
          refine takeD (i := 4) (d := 36) (v := ?_) rfl rfl (by kernel_rfl) (by kernel_rfl) (by kernel_rfl) (fun _ _ _ h => h) (Or.inl ⟨by rfl, ?_⟩) hHeld ?_
          rotate_left 1
          · (intro w hSw; (try dsimp only at hSw); go_simp; (try with_reducible rfl))
          simp only [List.setIfInBounds_toArray, List.set_cons_zero, List.set_cons_succ]
          refine takeD (i := 5) (d := 37) (v := ?_) rfl rfl (by kernel_rfl) (by kernel_rfl) (by kernel_rfl) (fun _ _ _ h => h) (Or.inl ⟨by rfl, ?_⟩) hHeld ?_
          rotate_left 1
          · (intro w hSw; (try dsimp only at hSw); go_simp; (try with_reducible rfl))
          simp only [List.setIfInBounds_toArray, List.set_cons_zero, List.set_cons_succ]
          refine wpAnyH_ready (rs := [6]) (by kernel_rfl) (by simp) ?_
          refine AllReadyH.cons rfl (fun K hK => ?_) AllReadyH.nil
          go_simp
          go_wp2_with (go_at_call 34; refine (HSC.out _ (Mods.refl.drewN 1)).mono ?_; rintro e wy ⟨vv, rfl, _, My⟩)
          refine hK.out _ _ ?_ (fun hHeld => ?_)
          · exact ⟨My.heap hHeld.1 (by simp), My.cell hHeld.2 (by simp)⟩
          clear hK K
          refine takeD (i := 7) (d := 31) (v := ?_) rfl rfl (by kernel_rfl) (by kernel_rfl) (by kernel_rfl) (fun _ _ _ h => h) (Or.inl ⟨by rfl, ?_⟩) hHeld ?_
          rotate_left 1
          · (intro w hSw; (try dsimp only at hSw); go_simp; (try with_reducible rfl))
          simp only [List.setIfInBounds_toArray, List.set_cons_zero, List.set_cons_succ]
          refine takeD (i := 8) (d := 39) (v := ?_) rfl rfl (by kernel_rfl) (by kernel_rfl) (by kernel_rfl) (fun _ _ _ h => h) (Or.inl ⟨by rfl, ?_⟩) hHeld ?_
          rotate_left 1
          · (intro w hSw; (try dsimp only at hSw); go_simp; (try with_reducible rfl))
          simp only [List.setIfInBounds_toArray, List.set_cons_zero, List.set_cons_succ]
          refine takeD (i := 9) (d := 40) (v := ?_) rfl rfl (by kernel_rfl) (by kernel_rfl) (by kernel_rfl) (fun _ _ _ h => h) (Or.inl ⟨by rfl, ?_⟩) hHeld ?_
          rotate_left 1
          · (intro w hSw; (try dsimp only at hSw); go_simp; (try with_reducible rfl))
          simp only [List.setIfInBounds_toArray, List.set_cons_zero, List.set_cons_succ]
          refine takeD (i := 10) (d := 41) (v := ?_) rfl rfl (by kernel_rfl) (by kernel_rfl) (by kernel_rfl) (fun _ _ _ h => h) (Or.inl ⟨by rfl, ?_⟩) hHeld ?_
          rotate_left 1
          · (intro w hSw; (try dsimp only at hSw); go_simp; (try with_reducible rfl))
          simp only [List.setIfInBounds_toArray, List.set_cons_zero, List.set_cons_succ]
          refine takeD (i := 11) (d := 8) (v := ?_) rfl rfl (by kernel_rfl) (by kernel_rfl) (by kernel_rfl) (fun _ _ _ h => h) (Or.inl ⟨by rfl, ?_⟩) hHeld ?_
          rotate_left 1
          · (intro w hSw; (try dsimp only at hSw); go_simp; (try with_reducible rfl))
          simp only [List.setIfInBounds_toArray, List.set_cons_zero, List.set_cons_succ]
          refine takeD (i := 12) (d := 9) (v := ?_) rfl rfl (by kernel_rfl) (by kernel_rfl) (by kernel_rfl) (fun _ _ _ h => h) (Or.inl ⟨by rfl, ?_⟩) hHeld ?_
          rotate_left 1
          · (intro w hSw; (try dsimp only at hSw); go_simp; (try with_reducible rfl))
          simp only [List.setIfInBounds_toArray, List.set_cons_zero, List.set_cons_succ]
          refine takeD (i := 13) (d := 10) (v := ?_) rfl rfl (by kernel_rfl) (by kernel_rfl) (by kernel_rfl) (fun _ _ _ h => h) (Or.inl ⟨by rfl, ?_⟩) hHeld ?_
          rotate_left 1
          · (intro w hSw; (try dsimp only at hSw); go_simp; (try with_reducible rfl))
          simp only [List.setIfInBounds_toArray, List.set_cons_zero, List.set_cons_succ]
          refine wpAnyH_done (by kernel_rfl) ?_ _
          have MY : Mods [] wr wy := (Mods.refl.drewN 1).trans My
          have HSY := Lib.hid (HS5.out.mods0 MY)
          have HMY := Lib.hid (HM5.out.trans MY)
          have HN2 : Hid (Nest S.mask (nextN S st (numI S.conv.sgn rk)) ∧ nextN S st (numI S.conv.sgn rk) &&& (255 - S.mask) = 0) := Lib.hid ⟨HN.out.1.next HV2.out _, next_mask S _ _ HMK.out⟩
          have hlt2 := nextN_lt S st (numI S.conv.sgn rk)
          generalize nextN S st (numI S.conv.sgn rk) = st2 at HN2 hlt2 ⊢
          clear hHeld My HSC HS5 HN x0
          go_wp2_with fail
          go_loopw [11] (fun q wr2 => ∃ m : Nat, m ≤ 6 ∧ q = .int .i64 m ∧ Mods [] wy wr2) (fun q _ => 6 - (intOf q).toNat)
          case atStart => exact ⟨0, by omega, rfl, Mods.refl⟩
          case round =>
            obtain ⟨m, hm, rfl, M8⟩ := hrel
            by_cases hlm : m < 6
            · have i3 : (0 : Int) ≤ (m : Int) := by omega
              go_wp2_with fail
              go_loopw [12] (fun q wr3 => ∃ j : Nat, m / 3 * 3 ≤ j ∧ j ≤ m ∧ q = .int .i64 j ∧ Mods [] wy wr3) (fun q _ => 6 - (intOf q).toNat)
              case atStart => exact ⟨m / 3 * 3, Nat.le_refl _, by omega, by simp, M8⟩
              case round =>
                obtain ⟨j, hj1, hj2, rfl, M9⟩ := hrel
                by_cases hjm : j < m
                · have hne := HN2.out.1 m j hjm hlm (by omega)
                  have c14 : wr.cell? ⟨g, 14, none⟩ = some (.int .u8 S.mask) := (HSY.out.mods0 M9).box.lims.1
                  have t1 := tbI st2 m
                  have t2 := tbI S.mask j
                  have t3 := tbI0 st2 j
                  have i5 : (0 : Int) ≤ (j : Int) := by omega
                  have i6 : (j : Int) < 64 := by omega
                  have i7 : (m : Int) < 64 := by omega
                  generalize st2.testBit m = b1 at hne t1
                  generalize st2.testBit j = b3 at hne t3
                  generalize S.mask.testBit j = b2 at hne t2
                  clear M8
                  cases b1 with
                  | false =>
                    clear hne
                    go_wp2_with fail
                    exact ⟨⟨j + 1, by omega, by omega, by go_num, M9⟩, by simp only [intOf]; omega⟩
                  | true =>
                    cases b2 with
                    | false =>
                      clear hne
                      go_wp2_with fail
                      exact ⟨⟨j + 1, by omega, by omega, by go_num, M9⟩, by simp only [intOf]; omega⟩
                    | true =>
                      rw [hne rfl rfl] at t3
                      clear hne
                      go_wp2_with fail
                      exact ⟨⟨j + 1, by omega, by omega, by go_num, M9⟩, by simp only [intOf]; omega⟩
                · have hjm2 : j = m := by omega
                  subst hjm2
                  go_wp2_with fail
                  exact ⟨⟨j + 1, by omega, by go_num, M9⟩, by simp only [intOf]; omega⟩
            · go_wp2
              exact ⟨⟨k + 1, st2, by omega, by go_num, rfl, by omega, HN2, HMY.out.trans M8⟩, by simp only [intOf]; omega⟩
        · have HM9 := Lib.hid (HM.out.trans M5)
          go_wp2_with fail
          refine (awakeT_ok _).mono ?_
          rintro e w10 ⟨rfl, M10⟩
          go_wp2
          go_ret
          exact ⟨rfl, HM9.out.trans M10⟩
    · have HGT : decide ((80 : Int) < (R.length : Int)) = true := decide_eq_true (by omega)
      have HLL := Lib.hid (decide_eq_true hl)
      go_enter Try.func6, Try.ntmps6
      go_wp2_with fail
      refine HL.out.mono ?_
      rw [HLL.out]
      rintro e w' ⟨rfl, rfl⟩
      go_wp2_with fail
      refine (awakeT_ok _).mono ?_
      rintro e w1 ⟨rfl, M1⟩
      go_wp2
      go_ret
      exact ⟨rfl, M1⟩
  · skip
    have HLL := Lib.hid (decide_eq_false hl)
    go_enter Try.func6, Try.ntmps6
    go_wp2_with fail
    refine HL.out.mono ?_
    rw [HLL.out]
    rintro e w' ⟨rfl, rfl⟩
    go_wp2_with fail
    refine (awakeT_ok _).mono ?_
    rintro e w1 ⟨rfl, M1⟩
    go_wp2
    go_ret
    exact ⟨rfl, M1⟩
end Go.Proofs.Ytokokojmeepoeaa
