/- The reference's Direction: contract. -/
import Derived.Test.YtgjjmiaiclhidaaRefNearest
import Derived.Test.YtgjjmiaiclhidaaBaseG
import Derived.BigGuardPart
namespace Go.Proofs.Ytgjjmiaiclhidaa
open Go.RowKit

def seenB (l : List Pt) : Bool := !l.isEmpty
def lastV (l : List Pt) : Int := match l.getLast? with | some q => q.val | none => 0
theorem rise_snoc (l : List Pt) (p : Pt) : riseL (l ++ [p]) = (riseL l || (seenB l && decide (lastV l < p.val))) := by
  rw [riseL_snoc]
  cases l with
  | nil => rfl
  | cons q l =>
    unfold lastV seenB
    rw [List.getLast?_cons]
    simp
theorem fall_snoc (l : List Pt) (p : Pt) : fallL (l ++ [p]) = (fallL l || (seenB l && decide (p.val < lastV l))) := by
  rw [fallL_snoc]
  cases l with
  | nil => rfl
  | cons q l =>
    unfold lastV seenB
    rw [List.getLast?_cons]
    simp
theorem seen_snoc (l : List Pt) (p : Pt) : seenB (l ++ [p]) = true := by unfold seenB; simp
theorem last_snoc (l : List Pt) (p : Pt) : lastV (l ++ [p]) = p.val := by unfold lastV; simp
theorem pr_step {C : Conv} {P : List Pt} (k : Nat) {rr : Nat} (hr : rr = rawAt C.sgn k) : prL C P (k + 1) = if (valI C P rr).2 = 0 then prL C P k ++ [⟨rr, (valI C P rr).1⟩] else prL C P k := by
  subst hr
  show prL C P k ++ prOf C P k = _
  unfold prOf
  by_cases h0 : (valI C P (rawAt C.sgn k)).2 = 0
  · rw [if_pos h0, if_pos h0]
  · rw [if_neg h0, if_neg h0, List.append_nil]
set_option maxRecDepth 100000 in
set_option maxHeartbeats 4000000 in
theorem refDirection_ok (w : World) (C : Conv) (P : List Pt) (hC : IsConv w C P) :
    Calls Try.prog 56 #[.agg C.cells] w fun e w' => e = .returned (.tuple #[.int .i64 (dirI C P).1, .int .i64 (dirI C P).2]) ∧ Mods [] w w' := by
  have HC := Lib.hid hC
  have HR0 := Lib.hid (heap_alloc_new w (.cells C.cells 26))
  have HM0 := Lib.hid ((Mods.refl (S := []) (w := w)).alloc (.cells C.cells 26))
  have HN := Lib.hid (show dirI C P = if convB C P then (if fallL (prL C P 256) = false then (1, 0) else if riseL (prL C P 256) = false then (-1, 0) else (0, 0)) else (0, 1) from rfl)
  have CV := Lib.hid (fun W (M : Mods [] w W) => refConvValid_ok W C P (HC.out.mods0 M))
  clear hC
  generalize dirI C P = N at HN ⊢
  cases hb : convB C P with
  | false =>
    rw [hb] at CV
    have HR := Lib.hid (HN.out.trans (if_neg (by rw [hb]; decide)))
    clear hb
    go_enter Try.func56, Try.ntmps56
    go_wp2_with (refine wpList_load_conv rfl (.tmp 1) rfl HR0.out (by rfl) ?_)
    refine (CV.out _ HM0.out).mono ?_
    rintro e w1 ⟨rfl, M1⟩
    go_wp2_with fail
    go_ret2
    exact ⟨ret_two HR.out, HM0.out.trans M1⟩
  | true =>
    rw [hb] at CV
    replace HN := Lib.hid (HN.out.trans (if_pos hb))
    have HVV := Lib.hid (fun W (M : Mods [] w W) r hr => show Calls Try.prog 44 #[.agg C.cells, .int .u8 (r : Nat)] W fun e w' => e = .returned (.tuple #[.int .i64 (valI C P r).1, .int .i64 (valI C P r).2]) ∧ Mods [] W w' from by
      have := refValue_ok W C P r (HC.out.mods0 M) hr
      have e : valueI C P r = valI C P r := if_pos hb
      rwa [e] at this)
    clear hb
    have HST := Lib.hid (fun k => pr_step (C := C) (P := P) k rfl)
    have HL := Lib.hid (fun W => least_ok C.sgn W)
    have hl0 : leastI C.sgn = -128 ∨ leastI C.sgn = 0 := by unfold leastI; split <;> simp
    go_enter Try.func56, Try.ntmps56
    go_wp2_with (refine wpList_load_conv rfl (.tmp 1) rfl HR0.out (by rfl) ?_)
    refine (CV.out _ HM0.out).mono ?_
    rintro e w1 ⟨rfl, M1⟩
    have HM1 := Lib.hid (HM0.out.trans M1)
    have HR1 := Lib.hid (M1.heap HR0.out (by simp))
    clear M1 CV HR0 HM0
    go_wp2_with fail
    generalize w.heap.size = g at HR1 ⊢
    go_loopw [4, 5, 6, 7, 8, 9, 10] (fun s t r f i _ _ wr => ∃ k : Nat, k ≤ 256 ∧ i = .int .i64 k ∧ s = .bool (seenB (prL C P k)) ∧ t = .int .i64 (lastV (prL C P k)) ∧ r = .bool (riseL (prL C P k)) ∧ f = .bool (fallL (prL C P k)) ∧ Mods [] w1 wr) (fun _ _ _ _ i _ _ _ => 256 - (intOf i).toNat)
    case atStart => exact ⟨0, by omega, rfl, rfl, rfl, rfl, rfl, Mods.refl⟩
    case round =>
      obtain ⟨k, hk, rfl, rfl, rfl, rfl, rfl, M⟩ := hrel
      by_cases hlt : k < 256
      · have HG := Lib.hid (M.heap HR1.out (by simp))
        have i1 : (k : Int) < 256 := by omega
        have HM := Lib.hid M
        have hrl := rawAt_lt C.sgn k
        have HRW := Lib.hid (show rawI (leastI C.sgn + (k : Int)) = rawAt C.sgn k from rfl)
        have HRA := Lib.hid (fun W => raw_ok (leastI C.sgn + (k : Int)) (by omega) (by omega) W)
        rw [HRW.out] at HRA
        have HV1 := Lib.hid (fun W (MM : Mods [] wr W) => HVV.out W (HM1.out.trans (M.trans MM)) (rawAt C.sgn k) hrl)
        have HS := Lib.hid (HST.out k)
        clear M HRW
        generalize (valI C P (rawAt C.sgn k)).1 = x1 at *
        generalize (valI C P (rawAt C.sgn k)).2 = x2 at *
        generalize rawAt C.sgn k = rr at *
        generalize prL C P k = l at *
        have hwl : IntKind.i64.wrap (leastI C.sgn + (k : Int)) = leastI C.sgn + (k : Int) := IntWalk.i64_in _ (by omega)
        by_cases h0 : x2 = 0
        · have HL1 := Lib.hid (HS.out.trans (if_pos h0))
          have HSE := Lib.hid (show seenB (prL C P (k + 1)) = true by rw [HL1.out]; exact seen_snoc _ _)
          have HLA := Lib.hid (show lastV (prL C P (k + 1)) = x1 by rw [HL1.out]; exact last_snoc _ _)
          have HRI := Lib.hid (show riseL (prL C P (k + 1)) = (riseL l || (seenB l && decide (lastV l < x1))) by rw [HL1.out]; exact rise_snoc _ _)
          have HFA := Lib.hid (show fallL (prL C P (k + 1)) = (fallL l || (seenB l && decide (x1 < lastV l))) by rw [HL1.out]; exact fall_snoc _ _)
          have e0 : (x2 != 0) = false := by simpa using h0
          clear HL1 HS h0
          generalize seenB l = sb at *
          generalize lastV l = lv at *
          generalize riseL l = rb at *
          generalize fallL l = fb at *
          cases sb with
          | false =>
            go_wp2_with fail
            refine heldStart (S := fun W => W.heap[g]? = some (.cells C.cells 26 (0, 0))) 13 rfl (by kernel_rfl) HG.out (fun hHeld => ?_)
            refine takeD (i := 0) (d := 19) (v := .agg (C).cells) rfl rfl (by kernel_rfl) (by kernel_rfl) (by kernel_rfl) (fun _ _ _ h => h) (yieldsIf_load_row rfl 26 (.tmp 1) rfl g rfl 26 (C).cells (0, 0) _ (fun w h=>h) Try.underlying26 rfl (Conv.infoCC _)) hHeld ?_
            simp only [List.setIfInBounds_toArray, List.set_cons_zero, List.set_cons_succ]
            refine takeD (i := 1) (d := 20) (v := ?_) rfl rfl (by kernel_rfl) (by kernel_rfl) (by kernel_rfl) (fun _ _ _ h => h) (Or.inl ⟨by rfl, ?_⟩) hHeld ?_
            rotate_left 1
            · (intro w hSw; (try dsimp only at hSw); go_simp; (try with_reducible rfl))
            simp only [List.setIfInBounds_toArray, List.set_cons_zero, List.set_cons_succ]
            refine takeD (i := 2) (d := 21) (v := (.bool C.sgn)) rfl rfl (by kernel_rfl) (by kernel_rfl) (by kernel_rfl) (fun _ _ _ h => h) (Or.inl ⟨by rfl, fun w hSw => ?_⟩) hHeld ?_
            · have cst := (cell_blk hSw 1).trans (show _ = some (.bool C.sgn) from rfl)
              go_simp
            simp only [List.setIfInBounds_toArray, List.set_cons_zero, List.set_cons_succ]
            refine takeD (i := 4) (d := 23) (v := ?_) rfl rfl (by kernel_rfl) (by kernel_rfl) (by kernel_rfl) (fun _ _ _ h => h) (Or.inl ⟨by rfl, ?_⟩) hHeld ?_
            rotate_left 1
            · (intro w hSw; (try dsimp only at hSw); go_simp; (try with_reducible rfl))
            simp only [List.setIfInBounds_toArray, List.set_cons_zero, List.set_cons_succ]
            refine wpAnyH_ready (rs := [3]) (by kernel_rfl) (by simp) ?_
            refine AllReadyH.cons rfl (fun K hK => ?_) AllReadyH.nil
            go_simp
            go_wp2_with (go_at_call 49; refine (HL.out _).mono ?_; rintro e w' ⟨rfl, rfl⟩)
            refine hK.out _ _ ?_ (fun hHeld => ?_)
            · exact hHeld
            clear hK K
            refine takeD (i := 5) (d := 24) (v := ?_) rfl rfl (by kernel_rfl) (by kernel_rfl) (by kernel_rfl) (fun _ _ _ h => h) (Or.inl ⟨by rfl, ?_⟩) hHeld ?_
            rotate_left 1
            · (intro w hSw; (try dsimp only at hSw); go_simp; (try with_reducible rfl))
            simp only [List.setIfInBounds_toArray, List.set_cons_zero, List.set_cons_succ]
            refine wpAnyH_ready (rs := [6]) (by kernel_rfl) (by simp) ?_
            refine AllReadyH.cons rfl (fun K hK => ?_) AllReadyH.nil
            go_simp
            go_wp2_with (go_at_call 50; refine (HRA.out _).mono ?_; rintro e w' ⟨rfl, rfl⟩)
            refine hK.out _ _ ?_ (fun hHeld => ?_)
            · exact hHeld
            clear hK K
            refine wpAnyH_ready (rs := [7]) (by kernel_rfl) (by simp) ?_
            refine AllReadyH.cons rfl (fun K hK => ?_) AllReadyH.nil
            go_simp
            go_wp2_with (go_at_call 44; refine (HV1.out _ (Mods.refl.drewN 1)).mono ?_; rintro e w9 ⟨rfl, M9⟩)
            refine hK.out _ _ ?_ (fun hHeld => ?_)
            · exact M9.heap hHeld (by simp)
            clear hK K
            have HM9 := Lib.hid ((HM.out.drewN 1).trans M9)
            clear M9
            refine takeD (i := 8) (d := 18) (v := ?_) rfl rfl (by kernel_rfl) (by kernel_rfl) (by kernel_rfl) (fun _ _ _ h => h) (Or.inl ⟨by rfl, ?_⟩) hHeld ?_
            rotate_left 1
            · (intro w hSw; (try dsimp only at hSw); go_simp; (try with_reducible rfl))
            simp only [List.setIfInBounds_toArray, List.set_cons_zero, List.set_cons_succ]
            refine takeD (i := 9) (d := 27) (v := ?_) rfl rfl (by kernel_rfl) (by kernel_rfl) (by kernel_rfl) (fun _ _ _ h => h) (Or.inl ⟨by rfl, ?_⟩) hHeld ?_
            rotate_left 1
            · (intro w hSw; (try dsimp only at hSw); go_simp; (try with_reducible rfl))
            simp only [List.setIfInBounds_toArray, List.set_cons_zero, List.set_cons_succ]
            refine takeD (i := 10) (d := 28) (v := ?_) rfl rfl (by kernel_rfl) (by kernel_rfl) (by kernel_rfl) (fun _ _ _ h => h) (Or.inl ⟨by rfl, ?_⟩) hHeld ?_
            rotate_left 1
            · (intro w hSw; (try dsimp only at hSw); go_simp; (try with_reducible rfl))
            simp only [List.setIfInBounds_toArray, List.set_cons_zero, List.set_cons_succ]
            refine takeD (i := 11) (d := 9) (v := ?_) rfl rfl (by kernel_rfl) (by kernel_rfl) (by kernel_rfl) (fun _ _ _ h => h) (Or.inl ⟨by rfl, ?_⟩) hHeld ?_
            rotate_left 1
            · (intro w hSw; (try dsimp only at hSw); go_simp; (try with_reducible rfl))
            simp only [List.setIfInBounds_toArray, List.set_cons_zero, List.set_cons_succ]
            refine takeD (i := 12) (d := 10) (v := ?_) rfl rfl (by kernel_rfl) (by kernel_rfl) (by kernel_rfl) (fun _ _ _ h => h) (Or.inl ⟨by rfl, ?_⟩) hHeld ?_
            rotate_left 1
            · (intro w hSw; (try dsimp only at hSw); go_simp; (try with_reducible rfl))
            simp only [List.setIfInBounds_toArray, List.set_cons_zero, List.set_cons_succ]
            refine wpAnyH_done (by kernel_rfl) ?_ _
            clear hHeld
            go_wp2_with fail
            exact ⟨⟨k + 1, by omega, by go_num, by rw [HSE.out], by rw [HLA.out], by rw [HRI.out]; simp, by rw [HFA.out]; simp, HM9.out⟩, by simp only [intOf]; omega⟩
          | true =>
            by_cases h1 : lv < x1
            · have h2 : ¬ x1 < lv := by omega
              have d1 := decide_eq_true h1
              have d2 := decide_eq_false h2
              go_wp2_with fail
              refine heldStart (S := fun W => W.heap[g]? = some (.cells C.cells 26 (0, 0))) 13 rfl (by kernel_rfl) HG.out (fun hHeld => ?_)
              refine takeD (i := 0) (d := 19) (v := .agg (C).cells) rfl rfl (by kernel_rfl) (by kernel_rfl) (by kernel_rfl) (fun _ _ _ h => h) (yieldsIf_load_row rfl 26 (.tmp 1) rfl g rfl 26 (C).cells (0, 0) _ (fun w h=>h) Try.underlying26 rfl (Conv.infoCC _)) hHeld ?_
              simp only [List.setIfInBounds_toArray, List.set_cons_zero, List.set_cons_succ]
              refine takeD (i := 1) (d := 20) (v := ?_) rfl rfl (by kernel_rfl) (by kernel_rfl) (by kernel_rfl) (fun _ _ _ h => h) (Or.inl ⟨by rfl, ?_⟩) hHeld ?_
              rotate_left 1
              · (intro w hSw; (try dsimp only at hSw); go_simp; (try with_reducible rfl))
              simp only [List.setIfInBounds_toArray, List.set_cons_zero, List.set_cons_succ]
              refine takeD (i := 2) (d := 21) (v := (.bool C.sgn)) rfl rfl (by kernel_rfl) (by kernel_rfl) (by kernel_rfl) (fun _ _ _ h => h) (Or.inl ⟨by rfl, fun w hSw => ?_⟩) hHeld ?_
              · have cst := (cell_blk hSw 1).trans (show _ = some (.bool C.sgn) from rfl)
                go_simp
              simp only [List.setIfInBounds_toArray, List.set_cons_zero, List.set_cons_succ]
              refine takeD (i := 4) (d := 23) (v := ?_) rfl rfl (by kernel_rfl) (by kernel_rfl) (by kernel_rfl) (fun _ _ _ h => h) (Or.inl ⟨by rfl, ?_⟩) hHeld ?_
              rotate_left 1
              · (intro w hSw; (try dsimp only at hSw); go_simp; (try with_reducible rfl))
              simp only [List.setIfInBounds_toArray, List.set_cons_zero, List.set_cons_succ]
              refine wpAnyH_ready (rs := [3]) (by kernel_rfl) (by simp) ?_
              refine AllReadyH.cons rfl (fun K hK => ?_) AllReadyH.nil
              go_simp
              go_wp2_with (go_at_call 49; refine (HL.out _).mono ?_; rintro e w' ⟨rfl, rfl⟩)
              refine hK.out _ _ ?_ (fun hHeld => ?_)
              · exact hHeld
              clear hK K
              refine takeD (i := 5) (d := 24) (v := ?_) rfl rfl (by kernel_rfl) (by kernel_rfl) (by kernel_rfl) (fun _ _ _ h => h) (Or.inl ⟨by rfl, ?_⟩) hHeld ?_
              rotate_left 1
              · (intro w hSw; (try dsimp only at hSw); go_simp; (try with_reducible rfl))
              simp only [List.setIfInBounds_toArray, List.set_cons_zero, List.set_cons_succ]
              refine wpAnyH_ready (rs := [6]) (by kernel_rfl) (by simp) ?_
              refine AllReadyH.cons rfl (fun K hK => ?_) AllReadyH.nil
              go_simp
              go_wp2_with (go_at_call 50; refine (HRA.out _).mono ?_; rintro e w' ⟨rfl, rfl⟩)
              refine hK.out _ _ ?_ (fun hHeld => ?_)
              · exact hHeld
              clear hK K
              refine wpAnyH_ready (rs := [7]) (by kernel_rfl) (by simp) ?_
              refine AllReadyH.cons rfl (fun K hK => ?_) AllReadyH.nil
              go_simp
              go_wp2_with (go_at_call 44; refine (HV1.out _ (Mods.refl.drewN 1)).mono ?_; rintro e w9 ⟨rfl, M9⟩)
              refine hK.out _ _ ?_ (fun hHeld => ?_)
              · exact M9.heap hHeld (by simp)
              clear hK K
              have HM9 := Lib.hid ((HM.out.drewN 1).trans M9)
              clear M9
              refine takeD (i := 8) (d := 18) (v := ?_) rfl rfl (by kernel_rfl) (by kernel_rfl) (by kernel_rfl) (fun _ _ _ h => h) (Or.inl ⟨by rfl, ?_⟩) hHeld ?_
              rotate_left 1
              · (intro w hSw; (try dsimp only at hSw); go_simp; (try with_reducible rfl))
              simp only [List.setIfInBounds_toArray, List.set_cons_zero, List.set_cons_succ]
              refine takeD (i := 9) (d := 27) (v := ?_) rfl rfl (by kernel_rfl) (by kernel_rfl) (by kernel_rfl) (fun _ _ _ h => h) (Or.inl ⟨by rfl, ?_⟩) hHeld ?_
              rotate_left 1
              · (intro w hSw; (try dsimp only at hSw); go_simp; (try with_reducible rfl))
              simp only [List.setIfInBounds_toArray, List.set_cons_zero, List.set_cons_succ]
              refine takeD (i := 10) (d := 28) (v := ?_) rfl rfl (by kernel_rfl) (by kernel_rfl) (by kernel_rfl) (fun _ _ _ h => h) (Or.inl ⟨by rfl, ?_⟩) hHeld ?_
              rotate_left 1
              · (intro w hSw; (try dsimp only at hSw); go_simp; (try with_reducible rfl))
              simp only [List.setIfInBounds_toArray, List.set_cons_zero, List.set_cons_succ]
              refine takeD (i := 11) (d := 9) (v := ?_) rfl rfl (by kernel_rfl) (by kernel_rfl) (by kernel_rfl) (fun _ _ _ h => h) (Or.inl ⟨by rfl, ?_⟩) hHeld ?_
              rotate_left 1
              · (intro w hSw; (try dsimp only at hSw); go_simp; (try with_reducible rfl))
              simp only [List.setIfInBounds_toArray, List.set_cons_zero, List.set_cons_succ]
              refine takeD (i := 12) (d := 10) (v := ?_) rfl rfl (by kernel_rfl) (by kernel_rfl) (by kernel_rfl) (fun _ _ _ h => h) (Or.inl ⟨by rfl, ?_⟩) hHeld ?_
              rotate_left 1
              · (intro w hSw; (try dsimp only at hSw); go_simp; (try with_reducible rfl))
              simp only [List.setIfInBounds_toArray, List.set_cons_zero, List.set_cons_succ]
              refine wpAnyH_done (by kernel_rfl) ?_ _
              clear hHeld
              go_wp2_with fail
              exact ⟨⟨k + 1, by omega, by go_num, by rw [HSE.out], by rw [HLA.out], by rw [HRI.out, d1]; simp, by rw [HFA.out, d2]; simp, HM9.out⟩, by simp only [intOf]; omega⟩
            · by_cases h2 : x1 < lv
              · have d1 := decide_eq_false h1
                have d2 := decide_eq_true h2
                go_wp2_with fail
                refine heldStart (S := fun W => W.heap[g]? = some (.cells C.cells 26 (0, 0))) 13 rfl (by kernel_rfl) HG.out (fun hHeld => ?_)
                refine takeD (i := 0) (d := 19) (v := .agg (C).cells) rfl rfl (by kernel_rfl) (by kernel_rfl) (by kernel_rfl) (fun _ _ _ h => h) (yieldsIf_load_row rfl 26 (.tmp 1) rfl g rfl 26 (C).cells (0, 0) _ (fun w h=>h) Try.underlying26 rfl (Conv.infoCC _)) hHeld ?_
                simp only [List.setIfInBounds_toArray, List.set_cons_zero, List.set_cons_succ]
                refine takeD (i := 1) (d := 20) (v := ?_) rfl rfl (by kernel_rfl) (by kernel_rfl) (by kernel_rfl) (fun _ _ _ h => h) (Or.inl ⟨by rfl, ?_⟩) hHeld ?_
                rotate_left 1
                · (intro w hSw; (try dsimp only at hSw); go_simp; (try with_reducible rfl))
                simp only [List.setIfInBounds_toArray, List.set_cons_zero, List.set_cons_succ]
                refine takeD (i := 2) (d := 21) (v := (.bool C.sgn)) rfl rfl (by kernel_rfl) (by kernel_rfl) (by kernel_rfl) (fun _ _ _ h => h) (Or.inl ⟨by rfl, fun w hSw => ?_⟩) hHeld ?_
                · have cst := (cell_blk hSw 1).trans (show _ = some (.bool C.sgn) from rfl)
                  go_simp
                simp only [List.setIfInBounds_toArray, List.set_cons_zero, List.set_cons_succ]
                refine takeD (i := 4) (d := 23) (v := ?_) rfl rfl (by kernel_rfl) (by kernel_rfl) (by kernel_rfl) (fun _ _ _ h => h) (Or.inl ⟨by rfl, ?_⟩) hHeld ?_
                rotate_left 1
                · (intro w hSw; (try dsimp only at hSw); go_simp; (try with_reducible rfl))
                simp only [List.setIfInBounds_toArray, List.set_cons_zero, List.set_cons_succ]
                refine wpAnyH_ready (rs := [3]) (by kernel_rfl) (by simp) ?_
                refine AllReadyH.cons rfl (fun K hK => ?_) AllReadyH.nil
                go_simp
                go_wp2_with (go_at_call 49; refine (HL.out _).mono ?_; rintro e w' ⟨rfl, rfl⟩)
                refine hK.out _ _ ?_ (fun hHeld => ?_)
                · exact hHeld
                clear hK K
                refine takeD (i := 5) (d := 24) (v := ?_) rfl rfl (by kernel_rfl) (by kernel_rfl) (by kernel_rfl) (fun _ _ _ h => h) (Or.inl ⟨by rfl, ?_⟩) hHeld ?_
                rotate_left 1
                · (intro w hSw; (try dsimp only at hSw); go_simp; (try with_reducible rfl))
                simp only [List.setIfInBounds_toArray, List.set_cons_zero, List.set_cons_succ]
                refine wpAnyH_ready (rs := [6]) (by kernel_rfl) (by simp) ?_
                refine AllReadyH.cons rfl (fun K hK => ?_) AllReadyH.nil
                go_simp
                go_wp2_with (go_at_call 50; refine (HRA.out _).mono ?_; rintro e w' ⟨rfl, rfl⟩)
                refine hK.out _ _ ?_ (fun hHeld => ?_)
                · exact hHeld
                clear hK K
                refine wpAnyH_ready (rs := [7]) (by kernel_rfl) (by simp) ?_
                refine AllReadyH.cons rfl (fun K hK => ?_) AllReadyH.nil
                go_simp
                go_wp2_with (go_at_call 44; refine (HV1.out _ (Mods.refl.drewN 1)).mono ?_; rintro e w9 ⟨rfl, M9⟩)
                refine hK.out _ _ ?_ (fun hHeld => ?_)
                · exact M9.heap hHeld (by simp)
                clear hK K
                have HM9 := Lib.hid ((HM.out.drewN 1).trans M9)
                clear M9
                refine takeD (i := 8) (d := 18) (v := ?_) rfl rfl (by kernel_rfl) (by kernel_rfl) (by kernel_rfl) (fun _ _ _ h => h) (Or.inl ⟨by rfl, ?_⟩) hHeld ?_
                rotate_left 1
                · (intro w hSw; (try dsimp only at hSw); go_simp; (try with_reducible rfl))
                simp only [List.setIfInBounds_toArray, List.set_cons_zero, List.set_cons_succ]
                refine takeD (i := 9) (d := 27) (v := ?_) rfl rfl (by kernel_rfl) (by kernel_rfl) (by kernel_rfl) (fun _ _ _ h => h) (Or.inl ⟨by rfl, ?_⟩) hHeld ?_
                rotate_left 1
                · (intro w hSw; (try dsimp only at hSw); go_simp; (try with_reducible rfl))
                simp only [List.setIfInBounds_toArray, List.set_cons_zero, List.set_cons_succ]
                refine takeD (i := 10) (d := 28) (v := ?_) rfl rfl (by kernel_rfl) (by kernel_rfl) (by kernel_rfl) (fun _ _ _ h => h) (Or.inl ⟨by rfl, ?_⟩) hHeld ?_
                rotate_left 1
                · (intro w hSw; (try dsimp only at hSw); go_simp; (try with_reducible rfl))
                simp only [List.setIfInBounds_toArray, List.set_cons_zero, List.set_cons_succ]
                refine takeD (i := 11) (d := 9) (v := ?_) rfl rfl (by kernel_rfl) (by kernel_rfl) (by kernel_rfl) (fun _ _ _ h => h) (Or.inl ⟨by rfl, ?_⟩) hHeld ?_
                rotate_left 1
                · (intro w hSw; (try dsimp only at hSw); go_simp; (try with_reducible rfl))
                simp only [List.setIfInBounds_toArray, List.set_cons_zero, List.set_cons_succ]
                refine takeD (i := 12) (d := 10) (v := ?_) rfl rfl (by kernel_rfl) (by kernel_rfl) (by kernel_rfl) (fun _ _ _ h => h) (Or.inl ⟨by rfl, ?_⟩) hHeld ?_
                rotate_left 1
                · (intro w hSw; (try dsimp only at hSw); go_simp; (try with_reducible rfl))
                simp only [List.setIfInBounds_toArray, List.set_cons_zero, List.set_cons_succ]
                refine wpAnyH_done (by kernel_rfl) ?_ _
                clear hHeld
                go_wp2_with fail
                exact ⟨⟨k + 1, by omega, by go_num, by rw [HSE.out], by rw [HLA.out], by rw [HRI.out, d1]; simp, by rw [HFA.out, d2]; simp, HM9.out⟩, by simp only [intOf]; omega⟩
              · have d1 := decide_eq_false h1
                have d2 := decide_eq_false h2
                go_wp2_with fail
                refine heldStart (S := fun W => W.heap[g]? = some (.cells C.cells 26 (0, 0))) 13 rfl (by kernel_rfl) HG.out (fun hHeld => ?_)
                refine takeD (i := 0) (d := 19) (v := .agg (C).cells) rfl rfl (by kernel_rfl) (by kernel_rfl) (by kernel_rfl) (fun _ _ _ h => h) (yieldsIf_load_row rfl 26 (.tmp 1) rfl g rfl 26 (C).cells (0, 0) _ (fun w h=>h) Try.underlying26 rfl (Conv.infoCC _)) hHeld ?_
                simp only [List.setIfInBounds_toArray, List.set_cons_zero, List.set_cons_succ]
                refine takeD (i := 1) (d := 20) (v := ?_) rfl rfl (by kernel_rfl) (by kernel_rfl) (by kernel_rfl) (fun _ _ _ h => h) (Or.inl ⟨by rfl, ?_⟩) hHeld ?_
                rotate_left 1
                · (intro w hSw; (try dsimp only at hSw); go_simp; (try with_reducible rfl))
                simp only [List.setIfInBounds_toArray, List.set_cons_zero, List.set_cons_succ]
                refine takeD (i := 2) (d := 21) (v := (.bool C.sgn)) rfl rfl (by kernel_rfl) (by kernel_rfl) (by kernel_rfl) (fun _ _ _ h => h) (Or.inl ⟨by rfl, fun w hSw => ?_⟩) hHeld ?_
                · have cst := (cell_blk hSw 1).trans (show _ = some (.bool C.sgn) from rfl)
                  go_simp
                simp only [List.setIfInBounds_toArray, List.set_cons_zero, List.set_cons_succ]
                refine takeD (i := 4) (d := 23) (v := ?_) rfl rfl (by kernel_rfl) (by kernel_rfl) (by kernel_rfl) (fun _ _ _ h => h) (Or.inl ⟨by rfl, ?_⟩) hHeld ?_
                rotate_left 1
                · (intro w hSw; (try dsimp only at hSw); go_simp; (try with_reducible rfl))
                simp only [List.setIfInBounds_toArray, List.set_cons_zero, List.set_cons_succ]
                refine wpAnyH_ready (rs := [3]) (by kernel_rfl) (by simp) ?_
                refine AllReadyH.cons rfl (fun K hK => ?_) AllReadyH.nil
                go_simp
                go_wp2_with (go_at_call 49; refine (HL.out _).mono ?_; rintro e w' ⟨rfl, rfl⟩)
                refine hK.out _ _ ?_ (fun hHeld => ?_)
                · exact hHeld
                clear hK K
                refine takeD (i := 5) (d := 24) (v := ?_) rfl rfl (by kernel_rfl) (by kernel_rfl) (by kernel_rfl) (fun _ _ _ h => h) (Or.inl ⟨by rfl, ?_⟩) hHeld ?_
                rotate_left 1
                · (intro w hSw; (try dsimp only at hSw); go_simp; (try with_reducible rfl))
                simp only [List.setIfInBounds_toArray, List.set_cons_zero, List.set_cons_succ]
                refine wpAnyH_ready (rs := [6]) (by kernel_rfl) (by simp) ?_
                refine AllReadyH.cons rfl (fun K hK => ?_) AllReadyH.nil
                go_simp
                go_wp2_with (go_at_call 50; refine (HRA.out _).mono ?_; rintro e w' ⟨rfl, rfl⟩)
                refine hK.out _ _ ?_ (fun hHeld => ?_)
                · exact hHeld
                clear hK K
                refine wpAnyH_ready (rs := [7]) (by kernel_rfl) (by simp) ?_
                refine AllReadyH.cons rfl (fun K hK => ?_) AllReadyH.nil
                go_simp
                go_wp2_with (go_at_call 44; refine (HV1.out _ (Mods.refl.drewN 1)).mono ?_; rintro e w9 ⟨rfl, M9⟩)
                refine hK.out _ _ ?_ (fun hHeld => ?_)
                · exact M9.heap hHeld (by simp)
                clear hK K
                have HM9 := Lib.hid ((HM.out.drewN 1).trans M9)
                clear M9
                refine takeD (i := 8) (d := 18) (v := ?_) rfl rfl (by kernel_rfl) (by kernel_rfl) (by kernel_rfl) (fun _ _ _ h => h) (Or.inl ⟨by rfl, ?_⟩) hHeld ?_
                rotate_left 1
                · (intro w hSw; (try dsimp only at hSw); go_simp; (try with_reducible rfl))
                simp only [List.setIfInBounds_toArray, List.set_cons_zero, List.set_cons_succ]
                refine takeD (i := 9) (d := 27) (v := ?_) rfl rfl (by kernel_rfl) (by kernel_rfl) (by kernel_rfl) (fun _ _ _ h => h) (Or.inl ⟨by rfl, ?_⟩) hHeld ?_
                rotate_left 1
                · (intro w hSw; (try dsimp only at hSw); go_simp; (try with_reducible rfl))
                simp only [List.setIfInBounds_toArray, List.set_cons_zero, List.set_cons_succ]
                refine takeD (i := 10) (d := 28) (v := ?_) rfl rfl (by kernel_rfl) (by kernel_rfl) (by kernel_rfl) (fun _ _ _ h => h) (Or.inl ⟨by rfl, ?_⟩) hHeld ?_
                rotate_left 1
                · (intro w hSw; (try dsimp only at hSw); go_simp; (try with_reducible rfl))
                simp only [List.setIfInBounds_toArray, List.set_cons_zero, List.set_cons_succ]
                refine takeD (i := 11) (d := 9) (v := ?_) rfl rfl (by kernel_rfl) (by kernel_rfl) (by kernel_rfl) (fun _ _ _ h => h) (Or.inl ⟨by rfl, ?_⟩) hHeld ?_
                rotate_left 1
                · (intro w hSw; (try dsimp only at hSw); go_simp; (try with_reducible rfl))
                simp only [List.setIfInBounds_toArray, List.set_cons_zero, List.set_cons_succ]
                refine takeD (i := 12) (d := 10) (v := ?_) rfl rfl (by kernel_rfl) (by kernel_rfl) (by kernel_rfl) (fun _ _ _ h => h) (Or.inl ⟨by rfl, ?_⟩) hHeld ?_
                rotate_left 1
                · (intro w hSw; (try dsimp only at hSw); go_simp; (try with_reducible rfl))
                simp only [List.setIfInBounds_toArray, List.set_cons_zero, List.set_cons_succ]
                refine wpAnyH_done (by kernel_rfl) ?_ _
                clear hHeld
                go_wp2_with fail
                exact ⟨⟨k + 1, by omega, by go_num, by rw [HSE.out], by rw [HLA.out], by rw [HRI.out, d1]; simp, by rw [HFA.out, d2]; simp, HM9.out⟩, by simp only [intOf]; omega⟩
        · have HL1 := Lib.hid (HS.out.trans (if_neg h0))
          have e0 : (x2 != 0) = true := by simpa using h0
          clear HS h0
          go_wp2_with fail
          refine heldStart (S := fun W => W.heap[g]? = some (.cells C.cells 26 (0, 0))) 13 rfl (by kernel_rfl) HG.out (fun hHeld => ?_)
          refine takeD (i := 0) (d := 19) (v := .agg (C).cells) rfl rfl (by kernel_rfl) (by kernel_rfl) (by kernel_rfl) (fun _ _ _ h => h) (yieldsIf_load_row rfl 26 (.tmp 1) rfl g rfl 26 (C).cells (0, 0) _ (fun w h=>h) Try.underlying26 rfl (Conv.infoCC _)) hHeld ?_
          simp only [List.setIfInBounds_toArray, List.set_cons_zero, List.set_cons_succ]
          refine takeD (i := 1) (d := 20) (v := ?_) rfl rfl (by kernel_rfl) (by kernel_rfl) (by kernel_rfl) (fun _ _ _ h => h) (Or.inl ⟨by rfl, ?_⟩) hHeld ?_
          rotate_left 1
          · (intro w hSw; (try dsimp only at hSw); go_simp; (try with_reducible rfl))
          simp only [List.setIfInBounds_toArray, List.set_cons_zero, List.set_cons_succ]
          refine takeD (i := 2) (d := 21) (v := (.bool C.sgn)) rfl rfl (by kernel_rfl) (by kernel_rfl) (by kernel_rfl) (fun _ _ _ h => h) (Or.inl ⟨by rfl, fun w hSw => ?_⟩) hHeld ?_
          · have cst := (cell_blk hSw 1).trans (show _ = some (.bool C.sgn) from rfl)
            go_simp
          simp only [List.setIfInBounds_toArray, List.set_cons_zero, List.set_cons_succ]
          refine takeD (i := 4) (d := 23) (v := ?_) rfl rfl (by kernel_rfl) (by kernel_rfl) (by kernel_rfl) (fun _ _ _ h => h) (Or.inl ⟨by rfl, ?_⟩) hHeld ?_
          rotate_left 1
          · (intro w hSw; (try dsimp only at hSw); go_simp; (try with_reducible rfl))
          simp only [List.setIfInBounds_toArray, List.set_cons_zero, List.set_cons_succ]
          refine wpAnyH_ready (rs := [3]) (by kernel_rfl) (by simp) ?_
          refine AllReadyH.cons rfl (fun K hK => ?_) AllReadyH.nil
          go_simp
          go_wp2_with (go_at_call 49; refine (HL.out _).mono ?_; rintro e w' ⟨rfl, rfl⟩)
          refine hK.out _ _ ?_ (fun hHeld => ?_)
          · exact hHeld
          clear hK K
          refine takeD (i := 5) (d := 24) (v := ?_) rfl rfl (by kernel_rfl) (by kernel_rfl) (by kernel_rfl) (fun _ _ _ h => h) (Or.inl ⟨by rfl, ?_⟩) hHeld ?_
          rotate_left 1
          · (intro w hSw; (try dsimp only at hSw); go_simp; (try with_reducible rfl))
          simp only [List.setIfInBounds_toArray, List.set_cons_zero, List.set_cons_succ]
          refine wpAnyH_ready (rs := [6]) (by kernel_rfl) (by simp) ?_
          refine AllReadyH.cons rfl (fun K hK => ?_) AllReadyH.nil
          go_simp
          go_wp2_with (go_at_call 50; refine (HRA.out _).mono ?_; rintro e w' ⟨rfl, rfl⟩)
          refine hK.out _ _ ?_ (fun hHeld => ?_)
          · exact hHeld
          clear hK K
          refine wpAnyH_ready (rs := [7]) (by kernel_rfl) (by simp) ?_
          refine AllReadyH.cons rfl (fun K hK => ?_) AllReadyH.nil
          go_simp
          go_wp2_with (go_at_call 44; refine (HV1.out _ (Mods.refl.drewN 1)).mono ?_; rintro e w9 ⟨rfl, M9⟩)
          refine hK.out _ _ ?_ (fun hHeld => ?_)
          · exact M9.heap hHeld (by simp)
          clear hK K
          have HM9 := Lib.hid ((HM.out.drewN 1).trans M9)
          clear M9
          refine takeD (i := 8) (d := 18) (v := ?_) rfl rfl (by kernel_rfl) (by kernel_rfl) (by kernel_rfl) (fun _ _ _ h => h) (Or.inl ⟨by rfl, ?_⟩) hHeld ?_
          rotate_left 1
          · (intro w hSw; (try dsimp only at hSw); go_simp; (try with_reducible rfl))
          simp only [List.setIfInBounds_toArray, List.set_cons_zero, List.set_cons_succ]
          refine takeD (i := 9) (d := 27) (v := ?_) rfl rfl (by kernel_rfl) (by kernel_rfl) (by kernel_rfl) (fun _ _ _ h => h) (Or.inl ⟨by rfl, ?_⟩) hHeld ?_
          rotate_left 1
          · (intro w hSw; (try dsimp only at hSw); go_simp; (try with_reducible rfl))
          simp only [List.setIfInBounds_toArray, List.set_cons_zero, List.set_cons_succ]
          refine takeD (i := 10) (d := 28) (v := ?_) rfl rfl (by kernel_rfl) (by kernel_rfl) (by kernel_rfl) (fun _ _ _ h => h) (Or.inl ⟨by rfl, ?_⟩) hHeld ?_
          rotate_left 1
          · (intro w hSw; (try dsimp only at hSw); go_simp; (try with_reducible rfl))
          simp only [List.setIfInBounds_toArray, List.set_cons_zero, List.set_cons_succ]
          refine takeD (i := 11) (d := 9) (v := ?_) rfl rfl (by kernel_rfl) (by kernel_rfl) (by kernel_rfl) (fun _ _ _ h => h) (Or.inl ⟨by rfl, ?_⟩) hHeld ?_
          rotate_left 1
          · (intro w hSw; (try dsimp only at hSw); go_simp; (try with_reducible rfl))
          simp only [List.setIfInBounds_toArray, List.set_cons_zero, List.set_cons_succ]
          refine takeD (i := 12) (d := 10) (v := ?_) rfl rfl (by kernel_rfl) (by kernel_rfl) (by kernel_rfl) (fun _ _ _ h => h) (Or.inl ⟨by rfl, ?_⟩) hHeld ?_
          rotate_left 1
          · (intro w hSw; (try dsimp only at hSw); go_simp; (try with_reducible rfl))
          simp only [List.setIfInBounds_toArray, List.set_cons_zero, List.set_cons_succ]
          refine wpAnyH_done (by kernel_rfl) ?_ _
          clear hHeld
          go_wp2_with fail
          exact ⟨⟨k + 1, by omega, by go_num, by rw [HL1.out], by rw [HL1.out], by rw [HL1.out], by rw [HL1.out], HM9.out⟩, by simp only [intOf]; omega⟩
      · obtain rfl : k = 256 := by omega
        have i1 : ¬ ((256 : Nat) : Int) < 256 := by omega
        have HM := Lib.hid (HM1.out.trans M)
        generalize prL C P 256 = l at *
        clear M HVV HST
        cases hf : fallL l with
        | false =>
          have HR := Lib.hid (HN.out.trans (if_pos hf))
          generalize riseL l = rb at *
          cases rb
          all_goals
            go_wp2_with fail
            go_ret2
            exact ⟨ret_two HR.out, HM.out⟩
        | true =>
          have HN1 := Lib.hid (HN.out.trans (if_neg (by rw [hf]; decide)))
          cases hr : riseL l with
          | false =>
            have HR := Lib.hid (HN1.out.trans (if_pos hr))
            go_wp2_with fail
            go_ret2
            exact ⟨ret_two HR.out, HM.out⟩
          | true =>
            have HR := Lib.hid (HN1.out.trans (if_neg (by rw [hr]; decide)))
            go_wp2_with fail
            go_ret2
            exact ⟨ret_two HR.out, HM.out⟩
end Go.Proofs.Ytgjjmiaiclhidaa
