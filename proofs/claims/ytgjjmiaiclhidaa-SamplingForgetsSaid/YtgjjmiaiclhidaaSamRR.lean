/- The reference's Reading of a filter: contract. -/
import Derived.Test.YtgjjmiaiclhidaaSamR
import Derived.Test.YtgjjmiaiclhidaaBaseB
import Derived.BigGuardPart
namespace Go.Proofs.Ytgjjmiaiclhidaa
open Go.RowKit

theorem refNumZ_ok (sgn : Bool) (x : Int) (hx : 0 ≤ x ∧ x ≤ 255) (w : World) : Calls Try.prog 48 #[.bool sgn, .int .u8 x] w fun e w' => e = .returned (.int .i64 (numZ sgn x)) ∧ w = w' := by
  obtain ⟨r, rfl⟩ := Int.eq_ofNat_of_zero_le hx.1
  exact refNumber_ok sgn r (by omega) w
theorem befN_succ (sgn : Bool) (W : List Int) (i k : Nat) : befN sgn W i (k + 1) = befN sgn W i k + if numZ sgn (W.getD k 0) < numZ sgn (W.getD i 0) ∨ (numZ sgn (W.getD k 0) = numZ sgn (W.getD i 0) ∧ k < i) then 1 else 0 := rfl
theorem numZ_bd {sgn : Bool} {x : Int} (hx : 0 ≤ x ∧ x ≤ 255) : -128 ≤ numZ sgn x ∧ numZ sgn x ≤ 255 := numI_bd (by omega)
set_option maxRecDepth 100000 in
set_option maxHeartbeats 8000000 in
theorem refReading_ok (w : World) (S : Sen) (P : List Pt) (win : Value) (W : List Int) (n : Int) (hS : IsSen w S P) (hF : IsFlt w win W n) :
    Calls Try.prog 67 #[.agg S.cells, .agg #[win, .int .i64 n]] w fun e w' => ReadRes w (rdB S P W n) S.conv.sgn W e w' := by
  have HS := Lib.hid hS
  have HF := Lib.hid hF
  obtain ⟨ad, cap, rfl, h1, h2, -⟩ := hF.rd.u8
  have h3 : cap ≤ 9223372036854775807 := h2
  have hlen := hF.len
  clear hS hF h2
  have R1 := heap_alloc_new (w.alloc (.cells S.cells 32)) (.cells #[.slice ad W.length cap, .int .i64 n] 90)
  rw [World.size_alloc] at R1
  have HB := Lib.hid (SenBox.mk (heap_alloc (o' := .cells #[.slice ad W.length cap, .int .i64 n] 90) (heap_alloc_new w (.cells S.cells 32))))
  have HR1 := Lib.hid R1
  have HM0 := Lib.hid (((Mods.refl (S := []) (w := w)).alloc (.cells S.cells 32)).alloc (.cells #[.slice ad W.length cap, .int .i64 n] 90))
  obtain ⟨_, _, _, _, _, _, x27⟩ := S.restc
  clear R1
  obtain ⟨_, x8, _, _, _, _, _⟩ := S.convc
  have HA := Lib.hid (rdB_eq S P W n)
  generalize rdB S P W n = r at HA ⊢
  go_enter Try.func67, Try.ntmps67
  go_wp2_with (refine wpList_load_sen rfl (.tmp 2) rfl HB.out (by rfl) ?_)
  refine (refSamValid_ok _ S P _ W n (HS.out.mods0 HM0.out) (HF.out.mods0 HM0.out)).mono ?_
  rintro e w1 ⟨rfl, M1⟩
  have HM1 := Lib.hid (HM0.out.trans M1)
  have RB := (M1.heap HB.out.blk (by simp))
  have RF := (M1.heap HR1.out (by simp))
  have hw1 := M1.size
  simp only [World.size_alloc] at hw1
  have y0 : w1.cell? ⟨w.heap.size, 27, none⟩ = some (.int .i64 S.samples) := (cell_blk RB 27).trans x27
  have y1 : w1.cell? ⟨w.heap.size + 1, 0, none⟩ = some (.slice ad W.length cap) := (cell_blk RF 0).trans rfl
  have HS8 := Lib.hid (show w1.cell? ⟨w.heap.size, 8, none⟩ = some (.bool S.conv.sgn) from (cell_blk RB 8).trans x8)
  have HF1 := Lib.hid (HF.out.mods0 HM1.out)
  clear M1 RB RF HB HR1 HM0 HS HF x27 x8
  cases hb : fltB S P W n with
  | false =>
    have hb2 := Lib.hid hb
    clear hb
    obtain rfl : r = false := by rw [HA.out]; (rw [hb2.out]; rfl)
    go_wp2_with fail
    go_ret2
    exact ⟨rfl, HM1.out⟩
  | true =>
    have hsam := flt_samples hb
    have hb2 := Lib.hid hb
    clear hb
    by_cases hl : (W.length : Int) = S.samples
    · obtain rfl : r = true := by rw [HA.out, hb2.out, decide_eq_true hl]; rfl
      have e0 : decide ((W.length : Int) < S.samples) = false := decide_eq_false (by omega)
      have e00 : ¬ (W.length : Int) < S.samples := by omega
      have hW1 : 1 ≤ W.length := by omega
      have hW5 : W.length ≤ 5 := by omega
      obtain ⟨ad', cap', he, -, -, hc⟩ := HF1.out.rd.u8
      injection he with he1 he2 he3
      subst he1 he3
      obtain ⟨bb, off, rfl, x0⟩ := hc 0 (by omega)
      have HCC := Lib.hid (fun i (hi : i < W.length) => show w1.cell? ⟨bb, off + i, none⟩ = some (.int .u8 (W.getD i 0)) from by
        obtain ⟨b', o', he, hx⟩ := hc i hi
        cases he
        exact hx)
      have HBy := Lib.hid (bytes_mem HF1.out.byt)
      have HBg := Lib.hid HF1.out.byt
      have HME : Hid (∃ m, IsMed S.conv.sgn W m) := Lib.hid (by
        have := List.mergeSort_perm W fun x y => decide (numZ S.conv.sgn x ≤ numZ S.conv.sgn y)
        refine ⟨_, med_sorted HBy.out this ?_ (by omega)⟩
        have hs := List.pairwise_mergeSort (le := fun x y => decide (numZ S.conv.sgn x ≤ numZ S.conv.sgn y)) (fun a b c h1 h2 => by simp only [decide_eq_true_eq] at *; omega) (fun a b => by simp only [Bool.or_eq_true, decide_eq_true_eq]; omega) W
        exact hs.imp fun h => by simpa using h)
      have P8 := Lib.hid (fun (W' : World) (M : Mods [] w1 W') => M.cell HS8.out (by simp))
      have P1 := Lib.hid (fun (W' : World) (M : Mods [] w1 W') => M.cell y1 (by simp))
      clear hc x0 HA hl he2 HF1
      generalize hsg : S.conv.sgn = sgn at *
      have HSG := Lib.hid hsg
      clear hsg
      go_wp2_with fail
      clear y0 y1 e0 e00
      go_loopw [6, 7, 8, 9, 10] (fun i _ _ _ _ wr => ∃ j : Nat, j ≤ W.length ∧ i = .int .i64 j ∧ (∀ q, q < j → befN sgn W q W.length ≠ W.length / 2) ∧ Mods [] w1 wr) (fun i _ _ _ _ _ => W.length - (intOf i).toNat)
      case atStart => exact ⟨0, by omega, rfl, (fun q hq => by omega), Mods.refl⟩
      case round =>
        obtain ⟨j, hj, rfl, hno, M⟩ := hrel
        have HNO := Lib.hid hno
        have HM := Lib.hid M
        have y1 := P1.out _ M
        have i0 : (0 : Int) ≤ (j : Int) := by omega
        clear hno M
        by_cases hlt : j < W.length
        · have i1 : (j : Int) < (W.length : Int) := by omega
          have PE := Lib.hid (fun (W' : World) (M : Mods [] w1 W') => M.cell (HCC.out j hlt) (by simp))
          have NX := Lib.hid (refNumZ_ok sgn (W.getD j 0) (HBg.out j))
          have hxb := numZ_bd (sgn := sgn) (HBg.out j)
          have HBS := Lib.hid (fun k => befN_succ sgn W j k)
          have HXV := Lib.hid (fun m hm h => bef_is (sgn := sgn) (m := m) HBy.out hm hlt h)
          generalize hxv : W.getD j 0 = xv at PE NX hxb HBS HXV
          clear hxv
          generalize numZ sgn xv = x at NX hxb HBS
          go_wp2_with fail
          refine heldStart (S := fun W' => Mods [] w1 W') 10 rfl (by kernel_rfl) HM.out.drew (fun hHeld => ?_)
          refine takeD (i := 0) (d := 30) (v := ?_) rfl rfl (by kernel_rfl) (by kernel_rfl) (by kernel_rfl) (fun _ _ _ h => h) (Or.inl ⟨by rfl, ?_⟩) hHeld ?_
          rotate_left 1
          · (intro w hSw; have y8 := P8.out w hSw; have y1 := P1.out w hSw; have ye := PE.out w hSw; go_simp; (try with_reducible rfl))
          simp only [List.setIfInBounds_toArray, List.set_cons_zero, List.set_cons_succ]
          refine takeD (i := 1) (d := 31) (v := ?_) rfl rfl (by kernel_rfl) (by kernel_rfl) (by kernel_rfl) (fun _ _ _ h => h) (Or.inl ⟨by rfl, ?_⟩) hHeld ?_
          rotate_left 1
          · (intro w hSw; have y8 := P8.out w hSw; have y1 := P1.out w hSw; have ye := PE.out w hSw; go_simp; (try with_reducible rfl))
          simp only [List.setIfInBounds_toArray, List.set_cons_zero, List.set_cons_succ]
          refine takeD (i := 2) (d := 32) (v := ?_) rfl rfl (by kernel_rfl) (by kernel_rfl) (by kernel_rfl) (fun _ _ _ h => h) (Or.inl ⟨by rfl, ?_⟩) hHeld ?_
          rotate_left 1
          · (intro w hSw; have y8 := P8.out w hSw; have y1 := P1.out w hSw; have ye := PE.out w hSw; go_simp; (try with_reducible rfl))
          simp only [List.setIfInBounds_toArray, List.set_cons_zero, List.set_cons_succ]
          refine takeD (i := 3) (d := 33) (v := ?_) rfl rfl (by kernel_rfl) (by kernel_rfl) (by kernel_rfl) (fun _ _ _ h => h) (Or.inl ⟨by rfl, ?_⟩) hHeld ?_
          rotate_left 1
          · (intro w hSw; have y8 := P8.out w hSw; have y1 := P1.out w hSw; have ye := PE.out w hSw; go_simp; (try with_reducible rfl))
          simp only [List.setIfInBounds_toArray, List.set_cons_zero, List.set_cons_succ]
          refine takeD (i := 4) (d := 34) (v := ?_) rfl rfl (by kernel_rfl) (by kernel_rfl) (by kernel_rfl) (fun _ _ _ h => h) (Or.inl ⟨by rfl, ?_⟩) hHeld ?_
          rotate_left 1
          · (intro w hSw; have y8 := P8.out w hSw; have y1 := P1.out w hSw; have ye := PE.out w hSw; go_simp; (try with_reducible rfl))
          simp only [List.setIfInBounds_toArray, List.set_cons_zero, List.set_cons_succ]
          refine takeD (i := 5) (d := 35) (v := ?_) rfl rfl (by kernel_rfl) (by kernel_rfl) (by kernel_rfl) (fun _ _ _ h => h) (Or.inl ⟨by rfl, ?_⟩) hHeld ?_
          rotate_left 1
          · (intro w hSw; have y8 := P8.out w hSw; have y1 := P1.out w hSw; have ye := PE.out w hSw; go_simp; (try with_reducible rfl))
          simp only [List.setIfInBounds_toArray, List.set_cons_zero, List.set_cons_succ]
          refine takeD (i := 6) (d := 36) (v := ?_) rfl rfl (by kernel_rfl) (by kernel_rfl) (by kernel_rfl) (fun _ _ _ h => h) (Or.inl ⟨by rfl, ?_⟩) hHeld ?_
          rotate_left 1
          · (intro w hSw; have y8 := P8.out w hSw; have y1 := P1.out w hSw; have ye := PE.out w hSw; go_simp; (try with_reducible rfl))
          simp only [List.setIfInBounds_toArray, List.set_cons_zero, List.set_cons_succ]
          refine takeD (i := 7) (d := 37) (v := ?_) rfl rfl (by kernel_rfl) (by kernel_rfl) (by kernel_rfl) (fun _ _ _ h => h) (Or.inl ⟨by rfl, ?_⟩) hHeld ?_
          rotate_left 1
          · (intro w hSw; have y8 := P8.out w hSw; have y1 := P1.out w hSw; have ye := PE.out w hSw; go_simp; (try with_reducible rfl))
          simp only [List.setIfInBounds_toArray, List.set_cons_zero, List.set_cons_succ]
          refine wpAnyH_ready (rs := [8]) (by kernel_rfl) (by simp) ?_
          refine AllReadyH.cons rfl (fun K hK => ?_) AllReadyH.nil
          go_simp
          go_wp2_with (go_at_call 48; refine (NX.out _).mono ?_; rintro e w' ⟨rfl, rfl⟩)
          refine hK.out _ _ ?_ (fun hHeld => ?_)
          · exact hHeld
          clear hK K
          refine takeD (i := 9) (d := 7) (v := ?_) rfl rfl (by kernel_rfl) (by kernel_rfl) (by kernel_rfl) (fun _ _ _ h => h) (Or.inl ⟨by rfl, ?_⟩) hHeld ?_
          rotate_left 1
          · (intro w hSw; (try dsimp only at hSw); go_simp; (try with_reducible rfl))
          simp only [List.setIfInBounds_toArray, List.set_cons_zero, List.set_cons_succ]
          refine wpAnyH_done (by kernel_rfl) ?_ _
          go_wp2_with fail
          have HMI := Lib.hid hHeld
          clear hHeld HM y1
          go_loopw [8, 9, 10] (fun b k _ wr => ∃ q : Nat, q ≤ W.length ∧ k = .int .i64 q ∧ b = .int .i64 (befN sgn W j q : Nat) ∧ Mods [] w1 wr) (fun _ k _ _ => W.length - (intOf k).toNat)
          case atStart => exact ⟨0, by omega, rfl, rfl, HMI.out⟩
          case round =>
            obtain ⟨q, hq, rfl, rfl, M⟩ := hrel
            have HM := Lib.hid M
            have y1 := P1.out _ M
            have k0 : (0 : Int) ≤ (q : Int) := by omega
            have hbl := befN_le sgn W j q
            clear M
            by_cases hqt : q < W.length
            · have k1 : (q : Int) < (W.length : Int) := by omega
              have HB1 := Lib.hid (HBS.out q)
              have PE := Lib.hid (fun (W' : World) (M : Mods [] w1 W') => M.cell (HCC.out q hqt) (by simp))
              have NY := Lib.hid (refNumZ_ok sgn (W.getD q 0) (HBg.out q))
              have hyb := numZ_bd (sgn := sgn) (HBg.out q)
              generalize W.getD q 0 = yv at PE NY hyb HB1
              generalize numZ sgn yv = y at NY hyb HB1
              generalize befN sgn W j q = bq at hbl HB1 ⊢
              have b5 : (bq : Int) ≤ 5 := by omega
              go_wp2_with fail
              refine heldStart (S := fun W' => Mods [] w1 W') 10 rfl (by kernel_rfl) HM.out.drew (fun hHeld => ?_)
              refine takeD (i := 0) (d := 46) (v := ?_) rfl rfl (by kernel_rfl) (by kernel_rfl) (by kernel_rfl) (fun _ _ _ h => h) (Or.inl ⟨by rfl, ?_⟩) hHeld ?_
              rotate_left 1
              · (intro w hSw; have y8 := P8.out w hSw; have y1 := P1.out w hSw; have ye := PE.out w hSw; go_simp; (try with_reducible rfl))
              simp only [List.setIfInBounds_toArray, List.set_cons_zero, List.set_cons_succ]
              refine takeD (i := 1) (d := 47) (v := ?_) rfl rfl (by kernel_rfl) (by kernel_rfl) (by kernel_rfl) (fun _ _ _ h => h) (Or.inl ⟨by rfl, ?_⟩) hHeld ?_
              rotate_left 1
              · (intro w hSw; have y8 := P8.out w hSw; have y1 := P1.out w hSw; have ye := PE.out w hSw; go_simp; (try with_reducible rfl))
              simp only [List.setIfInBounds_toArray, List.set_cons_zero, List.set_cons_succ]
              refine takeD (i := 2) (d := 48) (v := ?_) rfl rfl (by kernel_rfl) (by kernel_rfl) (by kernel_rfl) (fun _ _ _ h => h) (Or.inl ⟨by rfl, ?_⟩) hHeld ?_
              rotate_left 1
              · (intro w hSw; have y8 := P8.out w hSw; have y1 := P1.out w hSw; have ye := PE.out w hSw; go_simp; (try with_reducible rfl))
              simp only [List.setIfInBounds_toArray, List.set_cons_zero, List.set_cons_succ]
              refine takeD (i := 3) (d := 49) (v := ?_) rfl rfl (by kernel_rfl) (by kernel_rfl) (by kernel_rfl) (fun _ _ _ h => h) (Or.inl ⟨by rfl, ?_⟩) hHeld ?_
              rotate_left 1
              · (intro w hSw; have y8 := P8.out w hSw; have y1 := P1.out w hSw; have ye := PE.out w hSw; go_simp; (try with_reducible rfl))
              simp only [List.setIfInBounds_toArray, List.set_cons_zero, List.set_cons_succ]
              refine takeD (i := 4) (d := 50) (v := ?_) rfl rfl (by kernel_rfl) (by kernel_rfl) (by kernel_rfl) (fun _ _ _ h => h) (Or.inl ⟨by rfl, ?_⟩) hHeld ?_
              rotate_left 1
              · (intro w hSw; have y8 := P8.out w hSw; have y1 := P1.out w hSw; have ye := PE.out w hSw; go_simp; (try with_reducible rfl))
              simp only [List.setIfInBounds_toArray, List.set_cons_zero, List.set_cons_succ]
              refine takeD (i := 5) (d := 51) (v := ?_) rfl rfl (by kernel_rfl) (by kernel_rfl) (by kernel_rfl) (fun _ _ _ h => h) (Or.inl ⟨by rfl, ?_⟩) hHeld ?_
              rotate_left 1
              · (intro w hSw; have y8 := P8.out w hSw; have y1 := P1.out w hSw; have ye := PE.out w hSw; go_simp; (try with_reducible rfl))
              simp only [List.setIfInBounds_toArray, List.set_cons_zero, List.set_cons_succ]
              refine takeD (i := 6) (d := 52) (v := ?_) rfl rfl (by kernel_rfl) (by kernel_rfl) (by kernel_rfl) (fun _ _ _ h => h) (Or.inl ⟨by rfl, ?_⟩) hHeld ?_
              rotate_left 1
              · (intro w hSw; have y8 := P8.out w hSw; have y1 := P1.out w hSw; have ye := PE.out w hSw; go_simp; (try with_reducible rfl))
              simp only [List.setIfInBounds_toArray, List.set_cons_zero, List.set_cons_succ]
              refine takeD (i := 7) (d := 53) (v := ?_) rfl rfl (by kernel_rfl) (by kernel_rfl) (by kernel_rfl) (fun _ _ _ h => h) (Or.inl ⟨by rfl, ?_⟩) hHeld ?_
              rotate_left 1
              · (intro w hSw; have y8 := P8.out w hSw; have y1 := P1.out w hSw; have ye := PE.out w hSw; go_simp; (try with_reducible rfl))
              simp only [List.setIfInBounds_toArray, List.set_cons_zero, List.set_cons_succ]
              refine wpAnyH_ready (rs := [8]) (by kernel_rfl) (by simp) ?_
              refine AllReadyH.cons rfl (fun K hK => ?_) AllReadyH.nil
              go_simp
              go_wp2_with (go_at_call 48; refine (NY.out _).mono ?_; rintro e w' ⟨rfl, rfl⟩)
              refine hK.out _ _ ?_ (fun hHeld => ?_)
              · exact hHeld
              clear hK K
              refine takeD (i := 9) (d := 10) (v := ?_) rfl rfl (by kernel_rfl) (by kernel_rfl) (by kernel_rfl) (fun _ _ _ h => h) (Or.inl ⟨by rfl, ?_⟩) hHeld ?_
              rotate_left 1
              · (intro w hSw; (try dsimp only at hSw); go_simp; (try with_reducible rfl))
              simp only [List.setIfInBounds_toArray, List.set_cons_zero, List.set_cons_succ]
              refine wpAnyH_done (by kernel_rfl) ?_ _
              have HM2 := Lib.hid hHeld
              clear hHeld HM y1
              by_cases g1 : y < x
              · rw [if_pos (.inl g1)] at HB1
                go_wp2_with fail
                exact ⟨⟨q + 1, by omega, by go_num, by rw [HB1.out]; go_num, HM2.out⟩, by simp only [intOf]; omega⟩
              · by_cases g2 : y = x
                · by_cases g3 : q < j
                  · rw [if_pos (.inr ⟨g2, g3⟩)] at HB1
                    subst g2
                    have g4 : (q : Int) < (j : Int) := by omega
                    go_wp2_with fail
                    exact ⟨⟨q + 1, by omega, by go_num, by rw [HB1.out]; go_num, HM2.out⟩, by simp only [intOf]; omega⟩
                  · rw [if_neg (by omega)] at HB1
                    subst g2
                    have g4 : ¬ (q : Int) < (j : Int) := by omega
                    go_wp2_with fail
                    exact ⟨⟨q + 1, by omega, by go_num, by rw [HB1.out]; rfl, HM2.out⟩, by simp only [intOf]; omega⟩
                · rw [if_neg (by omega)] at HB1
                  have g4 : (y == x) = false := by simpa using g2
                  go_wp2_with fail
                  exact ⟨⟨q + 1, by omega, by go_num, by rw [HB1.out]; rfl, HM2.out⟩, by simp only [intOf]; omega⟩
            · have hql : q = W.length := by omega
              subst hql
              have y1' := y1
              have HXE := Lib.hid (PE.out _ HM.out)
              have xe := HXE.out
              have b5 : befN sgn W j W.length ≤ 5 := by omega
              by_cases hh : befN sgn W j W.length = W.length / 2
              · obtain ⟨m, hm⟩ := HME.out
                have hxm := HXV.out m hm hh
                subst hxm
                have HMM := Lib.hid hm
                clear hm
                rw [hh]
                go_wp2_with fail
                go_ret2
                exact ⟨xv, rfl, by rw [HSG.out]; exact HMM.out, HM1.out.trans HM.out⟩
              · have HN2 := Lib.hid hh
                have hh2 : ((befN sgn W j W.length : Nat) : Int) ≠ (W.length : Int) / 2 := by omega
                have hh3 : (((befN sgn W j W.length : Nat) : Int) == (W.length : Int) / 2) = false := by simpa using hh2
                generalize hbq : befN sgn W j W.length = bq at hh2 hh3 b5 ⊢
                clear hbq hbl hh
                go_wp2_with fail
                exact ⟨⟨j + 1, by omega, by go_num, fun q hq => by
                  rcases Nat.lt_or_ge q j with h | h
                  · exact HNO.out q h
                  · obtain rfl : q = j := by omega
                    exact HN2.out, HM.out⟩, by simp only [intOf]; omega⟩
        · have hjl : j = W.length := by omega
          exfalso
          obtain ⟨m, hm⟩ := HME.out
          obtain ⟨i, hi, he⟩ := med_bef HBy.out hm
          exact HNO.out i (by omega) he
    · have e0 : decide ((W.length : Int) < S.samples) = true := decide_eq_true (by omega)
      have e1 : (W.length : Int) < S.samples := by omega
      obtain rfl : r = false := by rw [HA.out]; (rw [hb2.out, decide_eq_false hl]; rfl)
      go_wp2_with fail
      go_ret2
      exact ⟨rfl, HM1.out⟩
end Go.Proofs.Ytgjjmiaiclhidaa
