/- SamplingMedian: the walk. -/
import Derived.Test.YtgjjmiaiclhidaaSamM
import Derived.Test.YtgjjmiaiclhidaaAwakeM
import Derived.Test.YtgjjmiaiclhidaaBaseG
import Derived.Test.YtgjjmiaiclhidaaSamRR
import Derived.Test.YtgjjmiaiclhidaaAppI
namespace Go.Proofs.Ytgjjmiaiclhidaa
open Go.RowKit

theorem gap_le (T : List Tk) : ∀ j, (gapF (T.take j)).2 ≤ j ∧ (gapF (T.take j)).1.length ≤ j ∧ ((∀ t ∈ T, t.raw < 256) → ∀ x ∈ (gapF (T.take j)).1, 0 ≤ x ∧ x ≤ 255)
  | 0 => ⟨by simp [gapF], by simp [gapF], fun _ x hx => by simp [gapF] at hx⟩
  | j + 1 => by
    obtain ⟨h1, h2, h3⟩ := gap_le T j
    rcases Nat.lt_or_ge j T.length with hj | hj
    · rw [take_snocT hj, gapF_snoc]
      have hm := tk_mem hj
      generalize T.getD j default = t at hm
      generalize gapF (T.take j) = g at *
      refine ⟨?_, ?_, fun hr x hx => ?_⟩
      · split
        · simp only; omega
        · simp
      · split
        · split
          · simp
          · simp only; omega
        · simp; omega
      · split at hx
        · split at hx
          · simp at hx
          · exact h3 hr x hx
        · simp at hx
          rcases hx with hx | hx
          · exact h3 hr x hx
          · subst hx; have := hr t hm; omega
    · rw [List.take_of_length_le hj] at h1 h2 h3
      rw [List.take_of_length_le (by omega)]
      exact ⟨by omega, by omega, h3⟩
set_option maxRecDepth 100000 in
set_option maxHeartbeats 8000000 in
theorem samplingMedian_walk (w : World) (v : Value) (L : List Int) (hv : Rd w v (i64s L)) (hb : ∀ i, -9223372036854775808 ≤ L.getD i 0 ∧ L.getD i 0 ≤ 9223372036854775807) (v2 : Value) (T : List Tk) (hT : RdTk w v2 T) (hr : ∀ t ∈ T, t.raw < 256) :
    Calls Try.prog 17 #[v, v2] w fun e w' => e = .returned (.bool true) ∧ Mods [] w w' := by
  have HTK := Lib.hid hT
  have HRW := Lib.hid hr
  obtain ⟨ad2, cap2, rfl, hc1, hc2, -⟩ := hT
  have hc3 : cap2 ≤ 9223372036854775807 := hc2
  clear hr hc2
  have HL := Lib.hid (light_ok w v L hv)
  have HV := Lib.hid hv
  have HB := Lib.hid hb
  clear hv hb
  by_cases hl : L.length ≤ 600
  · skip
    have HLL := Lib.hid (decide_eq_true hl)
    by_cases ht : T.length ≤ 60
    · have e0 : decide ((60 : Int) < (T.length : Int)) = false := decide_eq_false (by omega)
      have e1 : ¬ (60 : Int) < (T.length : Int) := by omega
      go_enter Try.func17, Try.ntmps17
      go_wp2_with fail
      refine HL.out.mono ?_
      rw [HLL.out]
      rintro e w' ⟨rfl, rfl⟩
      go_wp2_with fail
      refine (roll_ok w v L HV.out (by omega) HB.out).mono ?_
      rintro e w1 ⟨rfl, D1, M1, z1⟩
      go_wp2_with fail
      refine (analogM_ok w1 w.heap.size v L 0 D1 1 (by omega)).mono ?_
      rintro e w2 ⟨S, P, n2, rfl, IS, VS, DS, OP, PL, SN, D2, M2⟩
      have HM2 := Lib.hid (show Mods [] w w2 from M1.comp M2 (fun q hq => by simp at hq; subst hq; exact .inr (Nat.le_refl _)))
      have hone := Lib.hid IS.conv.rd.one
      have HIS := Lib.hid IS
      have HVS := Lib.hid VS
      clear D1 D2 M1 M2 DS OP PL SN IS VS HL HLL HV HB
      go_wp2_with (first | (refine wpList_load_sen rfl (.tmp 5) rfl HB4.out (by rfl) ?_) | (refine wpList_store_row (cs := S.cells) rfl 32 (.tmp 5) (.tmp 30) rfl (heap_alloc_new w2 _) (by rfl) (by rfl) (by rfl) (Sen.infoS _) (Sen.one _ hone.out) ?_; go_must (intro w4 R4 M4; have HB4 := Lib.hid (SenBox.mk R4); have HM4 := Lib.hid (HM2.out.trans (fresh M4)); have HIS4 := Lib.hid (HIS.out.mods0 (fresh M4)); clear M4 R4)))
      refine (run14_ok w4 S P _ T HIS4.out HVS.out (HTK.out.mods0 HM4.out) HRW.out (by omega)).mono ?_
      rintro e w5 ⟨win, rfl, rd, own, M5⟩
      obtain ⟨aw, cw, rfl⟩ := rd.len
      rw [u8s_length] at rd own ⊢
      have HRD := Lib.hid rd
      have HOW := Lib.hid own
      have HM5 := Lib.hid M5
      have HFO := Lib.hid (runF_ok (P := P) HVS.out HRW.out T.length)
      rw [List.take_length] at HFO
      have hodd := valid_odd HVS.out
      clear rd own M5
      go_wp2_with (refine wpList_store_row (cs := #[.slice aw (runF S.samples T).1.length cw, .int .i64 (runF S.samples T).2]) rfl 90 (.tmp 6) (.tmp 35) rfl (heap_alloc_new w5 _) (by rfl) (by rfl) (by rfl) Try.infoFl (by simp [Value.oneCell']) ?_; go_must (intro w6 R6 M6; have HF6 := Lib.hid R6; have HM6 := Lib.hid (HM5.out.trans (fresh M6)); have HX6 := Lib.hid (HM4.out.trans (HM5.out.trans (fresh M6))); have HRD6 := Lib.hid (HRD.out.mods0 (fresh M6)); have HB6 := Lib.hid (HB4.out.mods0 HM6.out); have HIS6 := Lib.hid (HIS4.out.mods0 HM6.out); clear R6 M6))
      clear HM5 HRD HOW HB4 HIS4 HM4 HIS HM2
      obtain ⟨_, _, he, _, _, hc⟩ := HTK.out
      injection he with he1 he2 he3
      subst he1 he3
      have hsz6 : w2.heap.size < w6.heap.size := lt_of_block HB6.out.blk
      go_loopw [8, 9, 10] (fun l g i wr => ∃ j : Nat, j ≤ T.length ∧ i = .int .i64 j ∧ g = .int .i64 ((gapF (T.take j)).2 : Nat) ∧ OwnI wr w6.heap.size l (numsZ S.conv.sgn (gapF (T.take j)).1) ∧ Mods [] w6 wr) (fun _ _ i _ => T.length - (intOf i).toNat)
      case atStart => exact ⟨0, by omega, rfl, rfl, OwnI.nil _ _, Mods.refl⟩
      case round =>
        obtain ⟨j, hj, rfl, rfl, O, M⟩ := hrel
        have HO := Lib.hid O
        have HM := Lib.hid M
        have i0 : (0 : Int) ≤ (j : Int) := by omega
        obtain ⟨hg1, hg2, -⟩ := gap_le T j
        obtain ⟨al, cl, rfl⟩ := HO.out.rd.len
        rw [i64s_length] at HO ⊢
        clear O M
        by_cases hlt : j < T.length
        · have i1 : (j : Int) < (T.length : Int) := by omega
          obtain ⟨bb, off, rfl, c0, c1⟩ := hc j hlt
          have hbb := World.block_lt_of_cell? w _ c0
          simp only at hbb
          have hw6 := HX6.out.size
          have HOL := Lib.hid (show ∀ k, k ∈ (Value.slice al (numsZ S.conv.sgn (gapF (T.take j)).1).length cl).ownBlock.toList → w6.heap.size ≤ k from fun k hk => (HO.out.lt k (by simpa using hk)).1)
          have PE0 := Lib.hid (fun (W' : World) (M : Mods (Value.slice al (numsZ S.conv.sgn (gapF (T.take j)).1).length cl).ownBlock.toList wr W') => M.cell (HM.out.cell (HX6.out.cell c0 (by simp)) (by simp)) (fun hm => by have := HOL.out _ hm; simp only at this; omega))
          have PE1 := Lib.hid (HM.out.cell (HX6.out.cell c1 (by simp)) (by simp))
          have P8 := Lib.hid (fun (W' : World) (M : Mods (Value.slice al (numsZ S.conv.sgn (gapF (T.take j)).1).length cl).ownBlock.toList wr W') => M.cell (((HB6.out.mods0 HM.out).c 8).trans (show _ = some (Value.bool S.conv.sgn) from rfl)) (fun hm => by have := HOL.out _ hm; simp only at this; omega))
          have HSN := Lib.hid ((congrArg gapF (take_snocT hlt)).trans (gapF_snoc (T.take j) (T.getD j default)))
          have hraw := HRW.out _ (tk_mem hlt)
          generalize T.getD j default = tk at PE0 PE1 HSN hraw
          obtain ⟨tr, tm⟩ := tk
          simp only at PE0 PE1 HSN hraw
          have y1 := PE1.out
          clear c0 c1
          generalize gapF (T.take j) = g at *
          obtain ⟨A, n⟩ := g
          simp only at HO HSN hg1 hg2 ⊢
          cases tm with
          | true =>
            replace HSN := Lib.hid (HSN.out.trans (if_pos rfl))
            by_cases h3 : n + 1 = 3
            · rw [if_pos h3] at HSN
              have e3 : ((n : Int) + 1 == 3) = true := by simp; omega
              go_wp2_with fail
              exact ⟨⟨j + 1, by omega, by go_num, by rw [HSN.out]; go_num, by rw [HSN.out]; exact OwnI.nil _ _, HM.out⟩, by simp only [intOf]; omega⟩
            · rw [if_neg h3] at HSN
              have e3 : ((n : Int) + 1 == 3) = false := beq_eq_false_iff_ne.2 (by omega)
              go_wp2_with fail
              exact ⟨⟨j + 1, by omega, by go_num, by rw [HSN.out]; go_num, by rw [HSN.out]; exact HO.out, HM.out⟩, by simp only [intOf]; omega⟩
          | false =>
            replace HSN := Lib.hid (HSN.out.trans (if_neg (by decide)))
            have NX := Lib.hid (refNumZ_ok S.conv.sgn (tr : Int) (by omega))
            go_wp2_with fail
            refine heldStart (S := fun W' => Mods (Value.slice al (numsZ S.conv.sgn A).length cl).ownBlock.toList wr W') 13 rfl (by kernel_rfl) (Mods.refl.drew) (fun hHeld => ?_)
            refine takeD (i := 0) (d := 54) (v := ?_) rfl rfl (by kernel_rfl) (by kernel_rfl) (by kernel_rfl) (fun _ _ _ h => h) (Or.inl ⟨by rfl, ?_⟩) hHeld ?_
            rotate_left 1
            · (intro w hSw; (try dsimp only at hSw); go_simp; (try with_reducible rfl))
            simp only [List.setIfInBounds_toArray, List.set_cons_zero, List.set_cons_succ]
            refine takeD (i := 1) (d := 55) (v := ?_) rfl rfl (by kernel_rfl) (by kernel_rfl) (by kernel_rfl) (fun _ _ _ h => h) (Or.inl ⟨by rfl, ?_⟩) hHeld ?_
            rotate_left 1
            · (intro w hSw; (try dsimp only at hSw); go_simp; (try with_reducible rfl))
            simp only [List.setIfInBounds_toArray, List.set_cons_zero, List.set_cons_succ]
            refine takeD (i := 2) (d := 56) (v := ?_) rfl rfl (by kernel_rfl) (by kernel_rfl) (by kernel_rfl) (fun _ _ _ h => h) (Or.inl ⟨by rfl, ?_⟩) hHeld ?_
            rotate_left 1
            · (intro w hSw; (try dsimp only at hSw); go_simp; (try with_reducible rfl))
            simp only [List.setIfInBounds_toArray, List.set_cons_zero, List.set_cons_succ]
            refine takeD (i := 3) (d := 57) (v := ?_) rfl rfl (by kernel_rfl) (by kernel_rfl) (by kernel_rfl) (fun _ _ _ h => h) (Or.inl ⟨by rfl, ?_⟩) hHeld ?_
            rotate_left 1
            · (intro w hSw; have ye0 := PE0.out w hSw; have y8 := P8.out w hSw; go_simp; (try with_reducible rfl))
            simp only [List.setIfInBounds_toArray, List.set_cons_zero, List.set_cons_succ]
            refine takeD (i := 4) (d := 58) (v := ?_) rfl rfl (by kernel_rfl) (by kernel_rfl) (by kernel_rfl) (fun _ _ _ h => h) (Or.inl ⟨by rfl, ?_⟩) hHeld ?_
            rotate_left 1
            · (intro w hSw; (try dsimp only at hSw); go_simp; (try with_reducible rfl))
            simp only [List.setIfInBounds_toArray, List.set_cons_zero, List.set_cons_succ]
            refine takeD (i := 5) (d := 59) (v := ?_) rfl rfl (by kernel_rfl) (by kernel_rfl) (by kernel_rfl) (fun _ _ _ h => h) (Or.inl ⟨by rfl, ?_⟩) hHeld ?_
            rotate_left 1
            · (intro w hSw; (try dsimp only at hSw); go_simp; (try with_reducible rfl))
            simp only [List.setIfInBounds_toArray, List.set_cons_zero, List.set_cons_succ]
            refine takeD (i := 6) (d := 60) (v := ?_) rfl rfl (by kernel_rfl) (by kernel_rfl) (by kernel_rfl) (fun _ _ _ h => h) (Or.inl ⟨by rfl, ?_⟩) hHeld ?_
            rotate_left 1
            · (intro w hSw; have ye0 := PE0.out w hSw; have y8 := P8.out w hSw; go_simp; (try with_reducible rfl))
            simp only [List.setIfInBounds_toArray, List.set_cons_zero, List.set_cons_succ]
            refine takeD (i := 7) (d := 61) (v := ?_) rfl rfl (by kernel_rfl) (by kernel_rfl) (by kernel_rfl) (fun _ _ _ h => h) (Or.inl ⟨by rfl, ?_⟩) hHeld ?_
            rotate_left 1
            · (intro w hSw; have ye0 := PE0.out w hSw; have y8 := P8.out w hSw; go_simp; (try with_reducible rfl))
            simp only [List.setIfInBounds_toArray, List.set_cons_zero, List.set_cons_succ]
            refine takeD (i := 8) (d := 62) (v := ?_) rfl rfl (by kernel_rfl) (by kernel_rfl) (by kernel_rfl) (fun _ _ _ h => h) (Or.inl ⟨by rfl, ?_⟩) hHeld ?_
            rotate_left 1
            · (intro w hSw; have ye0 := PE0.out w hSw; have y8 := P8.out w hSw; go_simp; (try with_reducible rfl))
            simp only [List.setIfInBounds_toArray, List.set_cons_zero, List.set_cons_succ]
            refine wpAnyH_ready (rs := [9]) (by kernel_rfl) (by simp) ?_
            refine AllReadyH.cons rfl (fun K hK => ?_) AllReadyH.nil
            go_simp
            go_wp2_with (go_at_call 48; refine (NX.out _).mono ?_; rintro e w' ⟨rfl, rfl⟩)
            refine hK.out _ _ ?_ (fun hHeld => ?_)
            · exact hHeld
            clear hK K
            refine wpAnyH_ready (rs := [10]) (by kernel_rfl) (by simp) ?_
            refine AllReadyH.cons rfl (fun K hK => ?_) AllReadyH.nil
            go_simp
            refine hK.out _ _ ?_ (fun hHeld => ?_)
            · exact hHeld.alloc _
            clear hK K
            refine wpAnyH_ready (rs := [11]) (by kernel_rfl) (by simp) ?_
            refine AllReadyH.cons rfl (fun K hK => ?_) AllReadyH.nil
            refine step_appI1 rfl 65 rfl (.tmp 54) (.tmp 64) rfl (v := .slice al (numsZ S.conv.sgn A).length cl) (by rfl) (HO.out.mods0 ((Mods.refl.drew).alloc _)) (heap_alloc_new wr.drew _) (by rfl) (by unfold numsZ; rw [List.length_map]; omega) (by simp; exact Nat.le_succ_of_le HM.out.size) (fun g' cap' W7 O7 M7 => ?_)
            refine hK.out _ _ ?_ (fun hHeld => ?_)
            · exact hHeld.trans M7
            clear hK K
            simp only [List.setIfInBounds_toArray, List.set_cons_zero, List.set_cons_succ]
            refine takeD (i := 12) (d := 8) (v := ?_) rfl rfl (by kernel_rfl) (by kernel_rfl) (by kernel_rfl) (fun _ _ _ h => h) (Or.inl ⟨by rfl, ?_⟩) hHeld ?_
            rotate_left 1
            · (intro w hSw; (try dsimp only at hSw); go_simp; (try with_reducible rfl))
            simp only [List.setIfInBounds_toArray, List.set_cons_zero, List.set_cons_succ]
            refine wpAnyH_done (by kernel_rfl) ?_ _
            have HM8 := Lib.hid (HM.out.comp hHeld (fun k hk => .inr (HOL.out k hk)))
            have HO7 := Lib.hid O7
            clear hHeld O7 M7
            go_wp2_with fail
            refine ⟨⟨j + 1, by omega, by go_num, by rw [HSN.out]; rfl, ?_, HM8.out⟩, by simp only [intOf]; omega⟩
            rw [HSN.out]
            have e5 : numsZ S.conv.sgn (A ++ [(tr : Int)]) = numsZ S.conv.sgn A ++ [numZ S.conv.sgn tr] := by simp [numsZ]
            rw [e5]
            exact HO7.out
        · have hjl : j = T.length := by omega
          subst hjl
          rw [List.take_length] at HO hg1 hg2 ⊢
          obtain ⟨k, hk⟩ : ∃ k : Nat, S.samples = (k : Int) := ⟨S.samples.toNat, by omega⟩
          obtain ⟨hW, -, -⟩ := gap_run (k := k) (by omega) T T.length
          have hbA := (gap_le T T.length).2.2 HRW.out
          rw [List.take_length] at hW hbA
          rw [← hk] at hW
          have HSBr := Lib.hid (HB6.out.mods0 HM.out)
          have HFr := Lib.hid (HM.out.heap HF6.out (by simp))
          have HISr := Lib.hid (HIS6.out.mods0 HM.out)
          have HXr := Lib.hid (HX6.out.trans HM.out)
          obtain ⟨hs5, hi64⟩ := flt_small HFO.out.1
          have HRDr := Lib.hid (IsFlt.mk (HRD6.out.mods0 HM.out) HFO.out.2 (by omega) hi64)
          have HRL := Lib.hid (rdB_len (P := P) HFO.out.1)
          have hbW := bytes_mem HFO.out.2
          clear hc he2 hj i0 HB6 HF6 HIS6 HX6 HRD6 HTK HFO hi64
          generalize gapF T = gg at *
          obtain ⟨A, n⟩ := gg
          simp only at hW hbA hg1 hg2 HO ⊢
          have hWl : (runF S.samples T).1.length = min A.length k := by rw [hW, List.length_drop]; omega
          generalize (runF S.samples T).2 = nW at *
          generalize (runF S.samples T).1 = W at *
          have hnl : (numsZ S.conv.sgn A).length = A.length := by unfold numsZ; rw [List.length_map]
          rw [hnl] at HO ⊢
          have y27 : wr.cell? ⟨w2.heap.size, 27, none⟩ = some (.int .i64 S.samples) := (HSBr.out.c 27).trans rfl
          have y8 : wr.cell? ⟨w2.heap.size, 8, none⟩ = some (.bool S.conv.sgn) := (HSBr.out.c 8).trans rfl
          have RD := Lib.hid (samReading_ok wr S P _ W nW HISr.out HRDr.out)
          rw [HRL.out] at RD
          have HK := Lib.hid hk
          have HWE := Lib.hid hW
          have HWL := Lib.hid hWl
          have HNL := Lib.hid hnl
          have HBA := Lib.hid hbA
          have HBW := Lib.hid hbW
          have HOD := Lib.hid hodd
          clear hk hW hWl hnl hbA hbW hodd hc3 hc1
          go_wp2_with (first
            | (refine wpList_load_sen rfl (.tmp 5) rfl HSBr.out (by rfl) ?_)
            | (refine wpList_load_row rfl _ (.tmp 6) rfl w5.heap.size (by rfl) _ _ _ _ HFr.out Try.underlying90 rfl Try.infoFl ?_))
          refine RD.out.mono ?_
          rintro e w7 h7
          have hk := HK.out
          have hW := HWE.out
          have hWl := HWL.out
          have hnl := HNL.out
          have hbA := HBA.out
          have hbW := HBW.out
          have hodd := HOD.out
          unfold ReadRes at h7
          by_cases hge : k ≤ A.length
          · have hWk : W.length = k := by omega
            rw [decide_eq_true (by omega), if_pos rfl] at h7
            obtain ⟨m, rfl, hmed, M7⟩ := h7
            have hbm := hbW m hmed.mem
            obtain ⟨mc1, mc2, mc3⟩ := med_counts hbW hmed
            have HX7 := Lib.hid (HXr.out.trans M7)
            have y27' := M7.cell y27 (by simp)
            have y8' := M7.cell y8 (by simp)
            have HO7 := Lib.hid (HO.out.mods0 M7)
            clear M7 y27 y8 RD HSBr HFr HISr HRDr HO
            rw [hk] at y27'
            have q1 : decide ((A.length : Int) ≥ (k : Int)) = true := decide_eq_true (by omega)
            have q2 : (k : Int) ≤ (A.length : Int) := by omega
            have NM := Lib.hid (refNumZ_ok S.conv.sgn m hbm)
            obtain ⟨gl, cl', cur, hv, -, hcl, -⟩ := owns_form (by unfold OwnI at HO7; exact HO7.out) (show 0 < (numsZ S.conv.sgn A).length by omega)
            rw [hnl] at hv hcl
            injection hv with hv1 _ hv3
            subst hv1 hv3
            have hrd7 := HO7.out.rd
            have HEL := Lib.hid (fun q (hq : q < k) => show w7.cell? ⟨gl, (A.length - k) + q, none⟩ = some (.int .i64 ((numsZ S.conv.sgn W).getD q 0)) from by
              obtain ⟨_, _, he, _, _, hcc⟩ := hrd7.i64
              injection he with he1 _ _
              obtain ⟨b', o', he2, hx⟩ := hcc (A.length - k + q) (by rw [hnl]; omega)
              rw [← he1] at he2
              injection he2 with he2
              injection he2 with e1 e2
              subst e1 e2
              rw [Nat.zero_add] at hx
              rw [hx]
              unfold numsZ
              rw [hW, List.getD_eq_getElem?_getD, List.getD_eq_getElem?_getD, List.getElem?_map, List.getElem?_map, List.getElem?_drop])
            have hcne : ¬ cl = A.length - k := by omega
            have e10 : A.length - (A.length - k) = k := by omega
            have hl60 : A.length ≤ 60 := by omega
            have hnW : (numsZ S.conv.sgn W).length = k := by unfold numsZ; rw [List.length_map]; exact hWk
            have HNW := Lib.hid hnW
            have HMC := Lib.hid (And.intro mc1 (And.intro mc2 mc3))
            rw [hWk] at HMC
            clear hnW
            generalize numsZ S.conv.sgn W = B at HEL HNW HMC
            generalize numZ S.conv.sgn m = x at NM HMC
            have e8 : ((A.length : Int) - (k : Int)).toNat = A.length - k := by omega
            have e9 : (0 : Int) ≤ (A.length : Int) - (k : Int) := by omega
            have hk5 : k ≤ 5 := by omega
            have hk1 : 1 ≤ k := by omega
            clear HO7 hrd7 mc1 mc2 mc3 hW hWl hWk hmed hbm hbW hbA hs5 hodd HK HWE HWL HNL HBA HBW HOD hk hnl hcl
            go_wp2_with fail
            refine (NM.out _).mono ?_
            rintro e w' ⟨rfl, rfl⟩
            go_wp2_with fail
            clear e8 e9 q1 q2
            go_loopw [14, 15, 16, 18, 95] (fun b a f _ i wr => ∃ q : Nat, q ≤ k ∧ i = .int .i64 q ∧ b = .int .i64 (loC x (B.take q) : Nat) ∧ a = .int .i64 (hiC x (B.take q) : Nat) ∧ f = .bool (decide (x ∈ B.take q)) ∧ wr = w7) (fun _ _ _ _ i _ => k - (intOf i).toNat)
            case atStart => exact ⟨0, by omega, rfl, rfl, rfl, by simp, rfl⟩
            case round =>
              obtain ⟨q, hq, rfl, rfl, rfl, rfl, rfl⟩ := hrel
              have k0 : (0 : Int) ≤ (q : Int) := by omega
              by_cases hqt : q < k
              · have k1 : (q : Int) < (k : Int) := by omega
                have cq := HEL.out q hqt
                have HTS := take_snocI (l := B) (k := q) (by rw [HNW.out]; exact hqt)
                have HLO := Lib.hid (show loC x (B.take (q + 1)) = loC x (B.take q) + if B.getD q 0 < x then 1 else 0 by rw [HTS, loC_snoc])
                have HHI := Lib.hid (show hiC x (B.take (q + 1)) = hiC x (B.take q) + if x < B.getD q 0 then 1 else 0 by rw [HTS, hiC_snoc])
                have HFD := Lib.hid (show decide (x ∈ B.take (q + 1)) = (decide (x ∈ B.take q) || decide (B.getD q 0 = x)) by rw [HTS, Bool.eq_iff_iff]; simp only [List.mem_append, List.mem_singleton, Bool.or_eq_true, decide_eq_true_eq]; constructor <;> (intro h; rcases h with h | h; exact .inl h; exact .inr h.symm))
                have hlo : loC x (B.take q) ≤ 5 := Nat.le_trans List.countP_le_length (by rw [List.length_take]; omega)
                have hhi : hiC x (B.take q) ≤ 5 := Nat.le_trans List.countP_le_length (by rw [List.length_take]; omega)
                clear HTS
                generalize B.getD q 0 = y at *
                generalize loC x (B.take q) = lo at *
                generalize hiC x (B.take q) = hi at *
                generalize decide (x ∈ B.take q) = fd at *
                rcases Int.lt_trichotomy y x with h | h | h
                · rw [if_pos h] at HLO
                  rw [if_neg (by omega)] at HHI
                  have g1 : ¬ x < y := by omega
                  have g2 : (y == x) = false := beq_eq_false_iff_ne.2 (by omega)
                  rw [decide_eq_false (show ¬ y = x by omega)] at HFD
                  cases fd
                  all_goals
                    go_wp2_with fail
                    exact ⟨⟨q + 1, by omega, by go_num, by rw [HLO.out]; first | rfl | go_num, by rw [HHI.out]; first | rfl | go_num, by rw [HFD.out]; first | rfl | simp, (by trivial)⟩, by simp only [intOf]; omega⟩
                · subst h
                  rw [if_neg (show ¬ y < y by omega)] at HLO HHI
                  rw [decide_eq_true (show y = y from rfl)] at HFD
                  have g1 : ¬ y < y := by omega
                  cases fd
                  all_goals
                    go_wp2_with fail
                    exact ⟨⟨q + 1, by omega, by go_num, by rw [HLO.out]; first | rfl | go_num, by rw [HHI.out]; first | rfl | go_num, by rw [HFD.out]; first | rfl | simp, (by trivial)⟩, by simp only [intOf]; omega⟩
                · rw [if_neg (by omega)] at HLO
                  rw [if_pos h] at HHI
                  have g1 : ¬ y < x := by omega
                  have g2 : (y == x) = false := beq_eq_false_iff_ne.2 (by omega)
                  rw [decide_eq_false (show ¬ y = x by omega)] at HFD
                  cases fd
                  all_goals
                    go_wp2_with fail
                    exact ⟨⟨q + 1, by omega, by go_num, by rw [HLO.out]; first | rfl | go_num, by rw [HHI.out]; first | rfl | go_num, by rw [HFD.out]; first | rfl | simp, (by trivial)⟩, by simp only [intOf]; omega⟩
              · obtain rfl : q = k := by omega
                obtain ⟨m1, m2, m3⟩ := HMC.out
                have HT := Lib.hid (show B.take q = B from List.take_of_length_le (by rw [HNW.out]; exact Nat.le_refl _))
                rw [HT.out, decide_eq_true m3]
                clear m3 HT
                generalize loC x B = lo at *
                generalize hiC x B = hi at *
                have z1 : (lo : Int) ≤ (q : Int) / 2 := by omega
                have z2 : (hi : Int) ≤ (q : Int) / 2 := by omega
                go_wp2_with fail
                refine (awakeM_ok _).mono ?_
                rintro e w10 ⟨rfl, M10⟩
                go_wp2
                go_ret
                exact ⟨rfl, HX7.out.trans M10⟩
          · rw [decide_eq_false (by omega), if_neg (by decide)] at h7
            obtain ⟨rfl, M7⟩ := h7
            have HX7 := Lib.hid (HXr.out.trans M7)
            have y27' := M7.cell y27 (by simp)
            rw [hk] at y27'
            have q2 : ¬ (k : Int) ≤ (A.length : Int) := by omega
            have q1 : decide ((A.length : Int) ≥ (k : Int)) = false := decide_eq_false (by omega)
            clear M7 y27 y8 RD HSBr HFr HISr HRDr hk hW hWl hnl hbA hbW hodd
            go_wp2_with fail
            refine (awakeM_ok _).mono ?_
            rintro e w10 ⟨rfl, M10⟩
            go_wp2
            go_ret
            exact ⟨rfl, HX7.out.trans M10⟩
    · have e0 : decide ((60 : Int) < (T.length : Int)) = true := decide_eq_true (by omega)
      have e1 : (60 : Int) < (T.length : Int) := by omega
      go_enter Try.func17, Try.ntmps17
      go_wp2_with fail
      refine HL.out.mono ?_
      rw [HLL.out]
      rintro e w' ⟨rfl, rfl⟩
      go_wp2_with fail
      refine (awakeM_ok _).mono ?_
      rintro e w1 ⟨rfl, M1⟩
      go_wp2
      go_ret
      exact ⟨rfl, M1⟩
  · skip
    have HLL := Lib.hid (decide_eq_false hl)
    go_enter Try.func17, Try.ntmps17
    go_wp2_with fail
    refine HL.out.mono ?_
    rw [HLL.out]
    rintro e w' ⟨rfl, rfl⟩
    go_wp2_with fail
    refine (awakeM_ok _).mono ?_
    rintro e w1 ⟨rfl, M1⟩
    go_wp2
    go_ret
    exact ⟨rfl, M1⟩
end Go.Proofs.Ytgjjmiaiclhidaa
