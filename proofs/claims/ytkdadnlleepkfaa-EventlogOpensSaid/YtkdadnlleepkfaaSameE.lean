/- baseboardref07.SameList of events, endOf: contracts. -/
import Derived.Test.YtkdadnlleepkfaaLgZ
namespace Go.Proofs.Ytkdadnlleepkfaa
open Go.RowKit
set_option linter.unusedVariables false
set_option linter.unusedSimpArgs false
theorem ev_neq (x y : Evt) (w : World) : (binOp .neq 37 (.agg x.cells.toArray) (.agg y.cells.toArray)).run Try.prog w = .ok (.bool (!decide (x = y))) w := by
  have h := ev_eq x y w
  simp only [binOp, Sem.run_bind, Sem.run_pure] at h ⊢
  generalize hr : (Op.equal 37 (.agg x.cells.toArray) (.agg y.cells.toArray)).run Try.prog w = r at h ⊢
  cases r with
  | ok b w' =>
    simp only [Result.andThen_ok, Result.ok.injEq, Value.bool.injEq] at h ⊢
    obtain ⟨rfl, rfl⟩ := h
    exact ⟨rfl, rfl⟩
  | halt a b => simp [Result.andThen] at h
set_option maxRecDepth 100000 in
set_option maxHeartbeats 4000000 in
theorem sameL_ok (w : World) (va vb : Value) (A B : List Evt) (ha : RdE evE w va A) (hb : RdE evE w vb B) :
    Calls Try.prog 23 #[va, vb] w fun en w' => en = .returned (.bool (decide (A = B))) ∧ Mods [] w w' := by
  obtain ⟨ada, ca, rfl⟩ := ha.len
  obtain ⟨adb, cb, rfl⟩ := hb.len
  have hca : A.length ≤ 9223372036854775807 := by obtain ⟨_, _, _, h1, h2, _⟩ := ha; exact Nat.le_trans h1 h2
  have HA := Lib.hid ha
  have HB := Lib.hid hb
  clear ha hb
  by_cases hl : A.length = B.length
  · have hl2 : ((A.length : Int) != (B.length : Int)) = false := by simp [hl]
    have HL := Lib.hid hl
    clear hl
    go_enter Try.func23, Try.ntmps23
    go_wp2_with fail
    go_loopw [5] (fun i wr => ∃ k : Nat, k ≤ A.length ∧ i = .int .i64 k ∧ Mods [] w wr ∧ Hid (∀ j, j < k → A.getD j evE.dflt = B.getD j evE.dflt)) (fun i _ => A.length - (intOf i).toNat)
    case atStart => exact ⟨0, Nat.zero_le _, rfl, Mods.refl, fun j hj => by omega⟩
    case round =>
      obtain ⟨k, hk, rfl, hM, hS⟩ := hrel
      have i0 : (0 : Int) ≤ (k : Int) := by omega
      have HM := Lib.hid hM
      by_cases hlt : k < A.length
      · have hlb : k < B.length := by rw [← HL.out]; exact hlt
        have i1 : (k : Int) < (A.length : Int) := by omega
        have i2 : (k : Int) < (B.length : Int) := by omega
        obtain ⟨ba, oa, ca', hv2, _, _, -⟩ := HA.out.at (by omega)
        injection hv2 with hv3 hv5 hv4
        subst hv3 hv4
        clear hv5
        obtain ⟨bb, ob, cb', hv2, _, _, -⟩ := HB.out.at (by omega)
        injection hv2 with hv3 hv5 hv4
        subst hv3 hv4
        clear hv5
        have HRA := Lib.hid (HA.out.range hlt evOk.len)
        have HRB := Lib.hid (HB.out.range hlb evOk.len)
        have HSX := Lib.hid (fun h : A.getD k evE.dflt = B.getD k evE.dflt => show Hid (∀ j, j < k + 1 → A.getD j evE.dflt = B.getD j evE.dflt) from fun j hj => by
          rcases Nat.lt_or_ge j k with h2 | h2
          · exact hS.out j h2
          · rw [show j = k by omega]; exact h)
        have HNE := Lib.hid (fun h : ¬ A.getD k evE.dflt = B.getD k evE.dflt => show decide (A = B) = false from decide_eq_false (fun he => h (by rw [he])))
        clear hM hS
        generalize A.getD k evE.dflt = x at HRA HSX HNE
        generalize B.getD k evE.dflt = y at HRB HSX HNE
        have HRA : Hid (w.rangeAt ba (oa + k * 10) x.cells) := HRA
        have HRB : Hid (w.rangeAt bb (ob + k * 10) y.cells) := HRB
        have HXY := Lib.hid (ev_neq x y)
        go_upto_region 6 with (fail)
        go_cut [25] (fun u wx => u = .bool (!decide (x = y)) ∧ Mods [] w wx)
        case first =>
          refine heldStart (S := fun W => Mods [] w W) 9 rfl (by kernel_rfl) HM.out.drew (fun hHeld => ?_)
          refine takeD (i := 0) (d := 17) (v := ?_) rfl rfl (by kernel_rfl) (by kernel_rfl) (by kernel_rfl) (fun _ _ _ h => h) (Or.inl ⟨by rfl, ?_⟩) hHeld ?_
          rotate_left 1
          · (intro w hSw; (try dsimp only at hSw); go_simp; (try with_reducible rfl))
          simp only [List.setIfInBounds_toArray, List.set_cons_zero, List.set_cons_succ]
          refine takeD (i := 1) (d := 18) (v := ?_) rfl rfl (by kernel_rfl) (by kernel_rfl) (by kernel_rfl) (fun _ _ _ h => h) (Or.inl ⟨by rfl, ?_⟩) hHeld ?_
          rotate_left 1
          · (intro w hSw; (try dsimp only at hSw); go_simp; (try with_reducible rfl))
          simp only [List.setIfInBounds_toArray, List.set_cons_zero, List.set_cons_succ]
          refine takeD (i := 2) (d := 19) (v := ?_) rfl rfl (by kernel_rfl) (by kernel_rfl) (by kernel_rfl) (fun _ _ _ h => h) (Or.inl ⟨by rfl, ?_⟩) hHeld ?_
          rotate_left 1
          · (intro w hSw; (try dsimp only at hSw); go_simp; (try with_reducible rfl))
          simp only [List.setIfInBounds_toArray, List.set_cons_zero, List.set_cons_succ]
          refine takeD (i := 3) (d := 20) (v := .agg x.cells.toArray) rfl rfl (by kernel_rfl) (by kernel_rfl) (by kernel_rfl) (fun _ _ _ h => h) (yieldsIf_load_mid (by rfl) 37 (.tmp 19) rfl ba (oa + k * 10) rfl x.cells _ (fun W h i u hu => h.cell (HRA.out i u hu) (by simp)) Try.underlying37 rfl Try.sizeEv) hHeld ?_
          simp only [List.setIfInBounds_toArray, List.set_cons_zero, List.set_cons_succ]
          refine takeD (i := 4) (d := 21) (v := ?_) rfl rfl (by kernel_rfl) (by kernel_rfl) (by kernel_rfl) (fun _ _ _ h => h) (Or.inl ⟨by rfl, ?_⟩) hHeld ?_
          rotate_left 1
          · (intro w hSw; (try dsimp only at hSw); go_simp; (try with_reducible rfl))
          simp only [List.setIfInBounds_toArray, List.set_cons_zero, List.set_cons_succ]
          refine takeD (i := 5) (d := 22) (v := ?_) rfl rfl (by kernel_rfl) (by kernel_rfl) (by kernel_rfl) (fun _ _ _ h => h) (Or.inl ⟨by rfl, ?_⟩) hHeld ?_
          rotate_left 1
          · (intro w hSw; (try dsimp only at hSw); go_simp; (try with_reducible rfl))
          simp only [List.setIfInBounds_toArray, List.set_cons_zero, List.set_cons_succ]
          refine takeD (i := 6) (d := 23) (v := ?_) rfl rfl (by kernel_rfl) (by kernel_rfl) (by kernel_rfl) (fun _ _ _ h => h) (Or.inl ⟨by rfl, ?_⟩) hHeld ?_
          rotate_left 1
          · (intro w hSw; (try dsimp only at hSw); go_simp; (try with_reducible rfl))
          simp only [List.setIfInBounds_toArray, List.set_cons_zero, List.set_cons_succ]
          refine takeD (i := 7) (d := 24) (v := .agg y.cells.toArray) rfl rfl (by kernel_rfl) (by kernel_rfl) (by kernel_rfl) (fun _ _ _ h => h) (yieldsIf_load_mid (by rfl) 37 (.tmp 23) rfl bb (ob + k * 10) rfl y.cells _ (fun W h i u hu => h.cell (HRB.out i u hu) (by simp)) Try.underlying37 rfl Try.sizeEv) hHeld ?_
          simp only [List.setIfInBounds_toArray, List.set_cons_zero, List.set_cons_succ]
          refine takeD (i := 8) (d := 25) (v := .bool (!decide (x = y))) rfl rfl (by kernel_rfl) (by kernel_rfl) (by kernel_rfl) (fun _ _ _ h => h) (Or.inl ⟨by rfl, fun W hW => ?_⟩) hHeld ?_
          · have hxy := HXY.out
            (try dsimp only at hW)
            go_simp
            try simp only [hxy, Result.andThen_ok]
          simp only [List.setIfInBounds_toArray, List.set_cons_zero, List.set_cons_succ]
          refine wpAnyH_done (by kernel_rfl) ?_ _
          go_wp2_with fail
          go_meet
          exact ⟨rfl, hHeld⟩
        case rest =>
          obtain ⟨rfl, MC⟩ := hcut
          have HMC := Lib.hid MC
          clear MC HXY
          by_cases hxy : x = y
          · have HSY := Lib.hid (HSX.out hxy)
            have hd : (!decide (x = y)) = false := by rw [decide_eq_true hxy]; rfl
            rw [hd]
            clear hd hxy
            go_wp2_with fail
            go_roundw
            case rel => exact ⟨k + 1, by omega, by go_num, HMC.out, HSY.out⟩
            case measure => simp [intOf]; omega
          · have HNN := Lib.hid (HNE.out hxy)
            have hd : (!decide (x = y)) = true := by rw [decide_eq_false hxy]; rfl
            rw [hd]
            clear hd hxy
            go_wp2_with fail
            go_ret
            exact ⟨by rw [HNN.out]; rfl, HMC.out⟩
      · have i1 : ¬ (k : Int) < (A.length : Int) := by omega
        have hkA : k = A.length := by omega
        have HAB := Lib.hid (show decide (A = B) = true from decide_eq_true (by
          refine List.ext_getElem HL.out fun i h1 h2 => ?_
          have := hS.out i (by omega)
          rw [List.getD_eq_getElem?_getD, List.getD_eq_getElem?_getD, List.getElem?_eq_getElem h1, List.getElem?_eq_getElem h2] at this
          simpa using this))
        clear hkA hM hS
        go_wp2_with fail
        go_ret
        exact ⟨by rw [HAB.out]; rfl, HM.out⟩
  · have hl2 : ((A.length : Int) != (B.length : Int)) = true := by simp; omega
    have HAB := Lib.hid (show decide (A = B) = false from decide_eq_false (fun h => hl (by rw [h])))
    clear hl
    go_enter Try.func23, Try.ntmps23
    go_wp2_with fail
    go_ret
    exact ⟨by rw [HAB.out]; rfl, Mods.refl⟩
end Go.Proofs.Ytkdadnlleepkfaa
