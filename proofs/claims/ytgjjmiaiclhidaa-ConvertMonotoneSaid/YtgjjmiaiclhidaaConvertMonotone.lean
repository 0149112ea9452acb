/- ConvertMonotone: the walk. -/
import Derived.Test.YtgjjmiaiclhidaaValC
import Derived.Test.YtgjjmiaiclhidaaDirection
import Derived.Test.YtgjjmiaiclhidaaNearP
import Derived.Test.YtgjjmiaiclhidaaBaseF
import Derived.Test.YtgjjmiaiclhidaaBaseG
import Derived.BigGuardPart
namespace Go.Proofs.Ytgjjmiaiclhidaa
open Go.RowKit

set_option maxRecDepth 100000 in
set_option maxHeartbeats 8000000 in
theorem convertMonotone_walk (w : World) (v : Value) (L : List Int) (hv : Rd w v (i64s L)) (hb : ∀ i, -9223372036854775808 ≤ L.getD i 0 ∧ L.getD i 0 ≤ 9223372036854775807) (a : Int) (ha : 0 ≤ a ∧ a ≤ 255) (b : Int) (hb2 : 0 ≤ b ∧ b ≤ 255) :
    Calls Try.prog 13 #[v, .int .u8 a, .int .u8 b] w fun e w' => e = .returned (.bool true) ∧ Mods [] w w' := by
  obtain ⟨ra, rfl⟩ := Int.eq_ofNat_of_zero_le ha.1
  obtain ⟨rb, rfl⟩ := Int.eq_ofNat_of_zero_le hb2.1
  have hra : ra < 256 := by omega
  have hrb : rb < 256 := by omega
  clear ha hb2
  have HL := Lib.hid (light_ok w v L hv)
  have HV := Lib.hid hv
  have HB := Lib.hid hb
  clear hv hb
  by_cases hl : L.length ≤ 600
  · skip
    have HLL := Lib.hid (decide_eq_true hl)
    go_enter Try.func13, Try.ntmps13
    go_wp2_with fail
    refine HL.out.mono ?_
    rw [HLL.out]
    rintro e w' ⟨rfl, rfl⟩
    go_wp2_with fail
    refine (roll_ok w v L HV.out (by omega) HB.out).mono ?_
    rintro e w1 ⟨rfl, D1, M1, z1⟩
    go_wp2_with fail
    refine (conversion_ok w1 w.heap.size v L 0 D1).mono ?_
    rintro e w2 ⟨C, P, n2, rfl, IC, VC, OP, PL, D2, M2⟩
    have HM2 := Lib.hid (show Mods [] w w2 from M1.comp M2 (fun q hq => by simp at hq; exact .inr (by omega)))
    have HIC := Lib.hid IC
    have HVC := Lib.hid VC
    have HOW := Lib.hid (show ∀ q, C.pts.ownBlock = some q → q < w2.heap.size from fun q hq => (OP.own q hq).2)
    have HGW := Lib.hid HM2.out.size
    have HPL := Lib.hid PL
    have HONE := Lib.hid (Conv.one C IC.rd.one)
    have HD2 := Lib.hid D2
    clear D1 D2 M1 M2 VC OP IC PL
    obtain ⟨HD2', HD3, HD4, -, -⟩ := dirI_ways C P HVC.out
    have HLN := Lib.hid (fun h => dir_lin HVC.out h)
    have HMO := Lib.hid (fun e1 e2 e3 => dir_mono HVC.out hra hrb e1 e2 e3)
    have HVA := Lib.hid (valueI_of HVC.out ra)
    have HVB := Lib.hid (valueI_of HVC.out rb)
    have NA := Lib.hid (number_ok C.sgn ra hra)
    have NB := Lib.hid (number_ok C.sgn rb hrb)
    clear HD2
    go_wp2_with (first | (refine wpList_load_conv (C := C) rfl (.tmp 7) rfl HR4.out (by rfl) ?_) | (refine wpList_store_row (cs := C.cells) rfl 26 (.tmp 7) (.tmp 20) rfl (heap_alloc_new w2 _) (by rfl) (by rfl) rfl C.infoCC HONE.out ?_; intro w4 R4 M4; have HR4 := Lib.hid R4; have HM4 := Lib.hid (HM2.out.trans (fresh M4)); have HIC4 := Lib.hid (HIC.out.mods0 (fresh M4)); have c0 : w4.cell? ⟨w2.heap.size, 0, none⟩ = some (.int .i64 C.form) := (cell_blk R4 0).trans rfl; have f0 : w4.frozen? ⟨w2.heap.size, 0, none⟩ = false := froz_blk R4 0; skip; clear M4 R4))
    have D1 := direction_ok w4 C P HIC4.out
    have V1 := Lib.hid (fun W (M : Mods [] w4 W) => value_ok W C P ra (HIC4.out.mods0 M) hra)
    have V2 := Lib.hid (fun W (M : Mods [] w4 W) => value_ok W C P rb (HIC4.out.mods0 M) hrb)
    rw [HVA.out] at V1
    rw [HVB.out] at V2
    rw [HD2'] at D1
    generalize (dirI C P).1 = d at *
    generalize (valI C P ra).1 = va at *
    generalize (valI C P ra).2 = ea at *
    generalize (valI C P rb).1 = vb at *
    generalize (valI C P rb).2 = eb at *
    generalize numI C.sgn ra = na at *
    generalize numI C.sgn rb = nb at *
    refine D1.mono ?_
    rintro e w5 ⟨rfl, M5⟩
    have HM5 := Lib.hid M5
    have HR5 := Lib.hid (M5.heap HR4.out (by simp))
    clear M5 D1 HVA HVB c0 f0 HIC HVC HOW HM2 HPL HONE HD2'
    go_wp2_with (refine wpList_load_conv (C := C) rfl (.tmp 7) rfl HR5.out (by rfl) ?_)
    refine (V1.out _ HM5.out).mono ?_
    rintro e w6 ⟨rfl, M6⟩
    have HM6 := Lib.hid (HM5.out.trans M6)
    have HR6 := Lib.hid (M6.heap HR5.out (by simp))
    clear M6 HR5 HM5
    go_wp2_with (refine wpList_load_conv (C := C) rfl (.tmp 7) rfl HR6.out (by rfl) ?_)
    refine (V2.out _ HM6.out).mono ?_
    rintro e w7 ⟨rfl, M7⟩
    have HM7 := Lib.hid (HM4.out.trans (HM6.out.trans M7))
    have HR7 := Lib.hid (M7.heap HR6.out (by simp))
    clear M7 HR6 HM6 V1 V2 HIC4 HM4 HR4
    have z0 : w7.cell? ⟨w2.heap.size, 0, none⟩ = some (.int .i64 C.form) := (cell_blk HR7.out 0).trans rfl
    have z1 : w7.cell? ⟨w2.heap.size, 1, none⟩ = some (.bool C.sgn) := (cell_blk HR7.out 1).trans rfl
    have z2 : w7.cell? ⟨w2.heap.size, 2, none⟩ = some (.int .i64 C.m) := (cell_blk HR7.out 2).trans rfl
    have p1 : decide (d < -1) = false := decide_eq_false (by omega)
    have p2 : decide (d > 1) = false := decide_eq_false (by omega)
    by_cases hf : C.form = 1
    · obtain ⟨l0, l1⟩ := HLN.out hf
      have p3 : (C.form == 1) = true := by simpa using hf
      have p4 : (d == 0) = false := by simpa using l0
      by_cases hm : 0 ≤ C.m
      · have l2 := l1 hm
        have p6 : (d != 1) = false := by simp [l2]
        have p5 : decide (C.m ≥ 0) = true := decide_eq_true hm
        clear hf hm l0 l1
        go_wp2_with fail
        by_cases hea : ea = 0
        · subst hea
          by_cases heb : eb = 0
          · subst heb
            by_cases hd0 : d = 0
            · subst hd0
              clear HMO
              go_wp2_with fail
              go_quiet ((go_at_call 47; first | exact quiet_left (NA.out _) | exact quiet_left (NB.out _)))
              go_wp2_with fail
              refine (awakeC_ok _).mono ?_
              rintro e w10 ⟨rfl, M10⟩
              go_wp2
              go_ret
              exact ⟨rfl, (HM7.out.drewN _).trans M10⟩
            · have q0 : (d == 0) = false := by simpa using hd0
              have HMM := Lib.hid (HMO.out rfl rfl)
              go_wp2_with fail
              refine heldStart (S := fun W => Mods [] w7 W) 21 rfl (by kernel_rfl) (Mods.refl.drew) (fun hHeld => ?_)
              refine takeD (i := 0) (d := 69) (v := ?_) rfl rfl (by kernel_rfl) (by kernel_rfl) (by kernel_rfl) (fun _ _ _ h => h) (Or.inl ⟨by rfl, ?_⟩) hHeld ?_
              rotate_left 1
              · (intro w hSw; (try dsimp only at hSw); go_simp; (try with_reducible rfl))
              simp only [List.setIfInBounds_toArray, List.set_cons_zero, List.set_cons_succ]
              refine takeD (i := 1) (d := 70) (v := ?_) rfl rfl (by kernel_rfl) (by kernel_rfl) (by kernel_rfl) (fun _ _ _ h => h) (Or.inl ⟨by rfl, ?_⟩) hHeld ?_
              rotate_left 1
              · (intro w hSw; (try dsimp only at hSw); go_simp; (try with_reducible rfl))
              simp only [List.setIfInBounds_toArray, List.set_cons_zero, List.set_cons_succ]
              refine takeD (i := 2) (d := 71) (v := ?_) rfl rfl (by kernel_rfl) (by kernel_rfl) (by kernel_rfl) (fun _ _ _ h => h) (Or.inl ⟨by rfl, ?_⟩) hHeld ?_
              rotate_left 1
              · (intro w hSw; (try dsimp only at hSw); go_simp; (try with_reducible rfl))
              simp only [List.setIfInBounds_toArray, List.set_cons_zero, List.set_cons_succ]
              refine takeD (i := 3) (d := 72) (v := ?_) rfl rfl (by kernel_rfl) (by kernel_rfl) (by kernel_rfl) (fun _ _ _ h => h) (Or.inl ⟨by rfl, ?_⟩) hHeld ?_
              rotate_left 1
              · (intro w hSw; (try dsimp only at hSw); go_simp; (try with_reducible rfl))
              simp only [List.setIfInBounds_toArray, List.set_cons_zero, List.set_cons_succ]
              refine takeD (i := 4) (d := 73) (v := ?_) rfl rfl (by kernel_rfl) (by kernel_rfl) (by kernel_rfl) (fun _ _ _ h => h) (Or.inl ⟨by rfl, ?_⟩) hHeld ?_
              rotate_left 1
              · (intro w hSw; (try dsimp only at hSw); go_simp; (try with_reducible rfl))
              simp only [List.setIfInBounds_toArray, List.set_cons_zero, List.set_cons_succ]
              refine takeD (i := 5) (d := 74) (v := ?_) rfl rfl (by kernel_rfl) (by kernel_rfl) (by kernel_rfl) (fun _ _ _ h => h) (Or.inl ⟨by rfl, ?_⟩) hHeld ?_
              rotate_left 1
              · (intro w hSw; (try dsimp only at hSw); go_simp; (try with_reducible rfl))
              simp only [List.setIfInBounds_toArray, List.set_cons_zero, List.set_cons_succ]
              refine takeD (i := 6) (d := 75) (v := ?_) rfl rfl (by kernel_rfl) (by kernel_rfl) (by kernel_rfl) (fun _ _ _ h => h) (Or.inl ⟨by rfl, ?_⟩) hHeld ?_
              rotate_left 1
              · (intro w hSw; (try dsimp only at hSw); go_simp; (try with_reducible rfl))
              simp only [List.setIfInBounds_toArray, List.set_cons_zero, List.set_cons_succ]
              refine takeD (i := 7) (d := 76) (v := ?_) rfl rfl (by kernel_rfl) (by kernel_rfl) (by kernel_rfl) (fun _ _ _ h => h) (Or.inl ⟨by rfl, ?_⟩) hHeld ?_
              rotate_left 1
              · (intro w hSw; (try dsimp only at hSw); go_simp; (try with_reducible rfl))
              simp only [List.setIfInBounds_toArray, List.set_cons_zero, List.set_cons_succ]
              refine takeD (i := 8) (d := 77) (v := ?_) rfl rfl (by kernel_rfl) (by kernel_rfl) (by kernel_rfl) (fun _ _ _ h => h) (Or.inl ⟨by rfl, ?_⟩) hHeld ?_
              rotate_left 1
              · (intro w hSw; (try dsimp only at hSw); go_simp; (try with_reducible rfl))
              simp only [List.setIfInBounds_toArray, List.set_cons_zero, List.set_cons_succ]
              refine takeD (i := 9) (d := 78) (v := ?_) rfl rfl (by kernel_rfl) (by kernel_rfl) (by kernel_rfl) (fun _ _ _ h => h) (Or.inl ⟨by rfl, ?_⟩) hHeld ?_
              rotate_left 1
              · (intro w hSw; (try dsimp only at hSw); go_simp; (try with_reducible rfl))
              simp only [List.setIfInBounds_toArray, List.set_cons_zero, List.set_cons_succ]
              refine takeD (i := 10) (d := 79) (v := ?_) rfl rfl (by kernel_rfl) (by kernel_rfl) (by kernel_rfl) (fun _ _ _ h => h) (Or.inl ⟨by rfl, ?_⟩) hHeld ?_
              rotate_left 1
              · (intro w hSw; (try dsimp only at hSw); go_simp; (try with_reducible rfl))
              simp only [List.setIfInBounds_toArray, List.set_cons_zero, List.set_cons_succ]
              refine takeD (i := 11) (d := 80) (v := ?_) rfl rfl (by kernel_rfl) (by kernel_rfl) (by kernel_rfl) (fun _ _ _ h => h) (Or.inl ⟨by rfl, ?_⟩) hHeld ?_
              rotate_left 1
              · (intro w hSw; (try dsimp only at hSw); go_simp; (try with_reducible rfl))
              simp only [List.setIfInBounds_toArray, List.set_cons_zero, List.set_cons_succ]
              refine takeD (i := 12) (d := 81) (v := (.bool C.sgn)) rfl rfl (by kernel_rfl) (by kernel_rfl) (by kernel_rfl) (fun _ _ _ h => h) (Or.inl ⟨by rfl, fun w hSw => ?_⟩) hHeld ?_
              · have cst := (cell_blk (hSw.heap HR7.out (by simp)) 1).trans (show _ = some (.bool C.sgn) from rfl)
                go_simp
              simp only [List.setIfInBounds_toArray, List.set_cons_zero, List.set_cons_succ]
              refine takeD (i := 13) (d := 82) (v := ?_) rfl rfl (by kernel_rfl) (by kernel_rfl) (by kernel_rfl) (fun _ _ _ h => h) (Or.inl ⟨by rfl, ?_⟩) hHeld ?_
              rotate_left 1
              · (intro w hSw; (try dsimp only at hSw); go_simp; (try with_reducible rfl))
              simp only [List.setIfInBounds_toArray, List.set_cons_zero, List.set_cons_succ]
              refine takeD (i := 15) (d := 84) (v := ?_) rfl rfl (by kernel_rfl) (by kernel_rfl) (by kernel_rfl) (fun _ _ _ h => h) (Or.inl ⟨by rfl, ?_⟩) hHeld ?_
              rotate_left 1
              · (intro w hSw; (try dsimp only at hSw); go_simp; (try with_reducible rfl))
              simp only [List.setIfInBounds_toArray, List.set_cons_zero, List.set_cons_succ]
              refine takeD (i := 16) (d := 85) (v := (.bool C.sgn)) rfl rfl (by kernel_rfl) (by kernel_rfl) (by kernel_rfl) (fun _ _ _ h => h) (Or.inl ⟨by rfl, fun w hSw => ?_⟩) hHeld ?_
              · have cst := (cell_blk (hSw.heap HR7.out (by simp)) 1).trans (show _ = some (.bool C.sgn) from rfl)
                go_simp
              simp only [List.setIfInBounds_toArray, List.set_cons_zero, List.set_cons_succ]
              refine takeD (i := 17) (d := 86) (v := ?_) rfl rfl (by kernel_rfl) (by kernel_rfl) (by kernel_rfl) (fun _ _ _ h => h) (Or.inl ⟨by rfl, ?_⟩) hHeld ?_
              rotate_left 1
              · (intro w hSw; (try dsimp only at hSw); go_simp; (try with_reducible rfl))
              simp only [List.setIfInBounds_toArray, List.set_cons_zero, List.set_cons_succ]
              refine wpAnyH_ready (rs := [14]) (by kernel_rfl) (by simp) ?_
              refine AllReadyH.cons rfl (fun K hK => ?_) AllReadyH.nil
              go_simp
              go_wp2_with (go_at_call 47; refine (NA.out _).mono ?_; rintro e w' ⟨rfl, rfl⟩)
              refine hK.out _ _ ?_ (fun hHeld => ?_)
              · exact hHeld
              clear hK K
              refine wpAnyH_ready (rs := [18]) (by kernel_rfl) (by simp) ?_
              refine AllReadyH.cons rfl (fun K hK => ?_) AllReadyH.nil
              go_simp
              go_wp2_with (go_at_call 47; refine (NB.out _).mono ?_; rintro e w' ⟨rfl, rfl⟩)
              refine hK.out _ _ ?_ (fun hHeld => ?_)
              · exact hHeld
              clear hK K
              refine takeD (i := 19) (d := 88) (v := ?_) rfl rfl (by kernel_rfl) (by kernel_rfl) (by kernel_rfl) (fun _ _ _ h => h) (Or.inl ⟨by rfl, ?_⟩) hHeld ?_
              rotate_left 1
              · (intro w hSw; (try dsimp only at hSw); go_simp; (try with_reducible rfl))
              simp only [List.setIfInBounds_toArray, List.set_cons_zero, List.set_cons_succ]
              refine takeD (i := 20) (d := 89) (v := ?_) rfl rfl (by kernel_rfl) (by kernel_rfl) (by kernel_rfl) (fun _ _ _ h => h) (Or.inl ⟨by rfl, ?_⟩) hHeld ?_
              rotate_left 1
              · (intro w hSw; (try dsimp only at hSw); go_simp; (try with_reducible rfl))
              simp only [List.setIfInBounds_toArray, List.set_cons_zero, List.set_cons_succ]
              refine wpAnyH_done (by kernel_rfl) ?_ _
              have HM8 := Lib.hid (HM7.out.trans hHeld)
              clear hHeld
              clear HMO
              by_cases hn : nb < na
              · have q1 : decide (nb < na) = true := decide_eq_true hn
                go_wp2_with fail
                refine (awakeC_ok _).mono ?_
                rintro e w10 ⟨rfl, M10⟩
                go_wp2
                go_ret
                exact ⟨rfl, HM8.out.trans M10⟩
              · have q1 : decide (nb < na) = false := decide_eq_false hn
                obtain ⟨m1, m2⟩ := HMM.out (by omega)
                rcases (show d = 1 ∨ d = -1 by omega) with hd1 | hd1
                · have q2 := m1 hd1
                  have q3 : decide (va ≤ vb) = true := decide_eq_true q2
                  subst hd1
                  clear q0 hd0 m1 m2
                  go_wp2_with fail
                  refine (awakeC_ok _).mono ?_
                  rintro e w10 ⟨rfl, M10⟩
                  go_wp2
                  go_ret
                  exact ⟨rfl, HM8.out.trans M10⟩
                · first
                  | (exfalso; omega)
                  | skip
                    have q2 := m2 hd1
                    have q3 : decide (vb ≤ va) = true := decide_eq_true q2
                    subst hd1
                    clear q0 hd0 m1 m2
                    go_wp2_with fail
                    refine (awakeC_ok _).mono ?_
                    rintro e w10 ⟨rfl, M10⟩
                    go_wp2
                    go_ret
                    exact ⟨rfl, HM8.out.trans M10⟩
          · have q0 : (eb != 0) = true := by simpa using heb
            clear heb
            go_wp2_with fail
            go_quiet ((go_at_call 47; first | exact quiet_left (NA.out _) | exact quiet_left (NB.out _)))
            go_wp2_with fail
            refine (awakeC_ok _).mono ?_
            rintro e w10 ⟨rfl, M10⟩
            go_wp2
            go_ret
            exact ⟨rfl, (HM7.out.drewN _).trans M10⟩
        · have q0 : (ea != 0) = true := by simpa using hea
          clear hea
          go_wp2_with fail
          go_quiet ((go_at_call 47; first | exact quiet_left (NA.out _) | exact quiet_left (NB.out _)))
          go_wp2_with fail
          refine (awakeC_ok _).mono ?_
          rintro e w10 ⟨rfl, M10⟩
          go_wp2
          go_ret
          exact ⟨rfl, (HM7.out.drewN _).trans M10⟩
      · have p5 : decide (C.m ≥ 0) = false := decide_eq_false hm
        clear hf hm l0 l1
        go_wp2_with fail
        by_cases hea : ea = 0
        · subst hea
          by_cases heb : eb = 0
          · subst heb
            by_cases hd0 : d = 0
            · subst hd0
              clear HMO
              go_wp2_with fail
              go_quiet ((go_at_call 47; first | exact quiet_left (NA.out _) | exact quiet_left (NB.out _)))
              go_wp2_with fail
              refine (awakeC_ok _).mono ?_
              rintro e w10 ⟨rfl, M10⟩
              go_wp2
              go_ret
              exact ⟨rfl, (HM7.out.drewN _).trans M10⟩
            · have q0 : (d == 0) = false := by simpa using hd0
              have HMM := Lib.hid (HMO.out rfl rfl)
              go_wp2_with fail
              refine heldStart (S := fun W => Mods [] w7 W) 21 rfl (by kernel_rfl) (Mods.refl.drew) (fun hHeld => ?_)
              refine takeD (i := 0) (d := 69) (v := ?_) rfl rfl (by kernel_rfl) (by kernel_rfl) (by kernel_rfl) (fun _ _ _ h => h) (Or.inl ⟨by rfl, ?_⟩) hHeld ?_
              rotate_left 1
              · (intro w hSw; (try dsimp only at hSw); go_simp; (try with_reducible rfl))
              simp only [List.setIfInBounds_toArray, List.set_cons_zero, List.set_cons_succ]
              refine takeD (i := 1) (d := 70) (v := ?_) rfl rfl (by kernel_rfl) (by kernel_rfl) (by kernel_rfl) (fun _ _ _ h => h) (Or.inl ⟨by rfl, ?_⟩) hHeld ?_
              rotate_left 1
              · (intro w hSw; (try dsimp only at hSw); go_simp; (try with_reducible rfl))
              simp only [List.setIfInBounds_toArray, List.set_cons_zero, List.set_cons_succ]
              refine takeD (i := 2) (d := 71) (v := ?_) rfl rfl (by kernel_rfl) (by kernel_rfl) (by kernel_rfl) (fun _ _ _ h => h) (Or.inl ⟨by rfl, ?_⟩) hHeld ?_
              rotate_left 1
              · (intro w hSw; (try dsimp only at hSw); go_simp; (try with_reducible rfl))
              simp only [List.setIfInBounds_toArray, List.set_cons_zero, List.set_cons_succ]
              refine takeD (i := 3) (d := 72) (v := ?_) rfl rfl (by kernel_rfl) (by kernel_rfl) (by kernel_rfl) (fun _ _ _ h => h) (Or.inl ⟨by rfl, ?_⟩) hHeld ?_
              rotate_left 1
              · (intro w hSw; (try dsimp only at hSw); go_simp; (try with_reducible rfl))
              simp only [List.setIfInBounds_toArray, List.set_cons_zero, List.set_cons_succ]
              refine takeD (i := 4) (d := 73) (v := ?_) rfl rfl (by kernel_rfl) (by kernel_rfl) (by kernel_rfl) (fun _ _ _ h => h) (Or.inl ⟨by rfl, ?_⟩) hHeld ?_
              rotate_left 1
              · (intro w hSw; (try dsimp only at hSw); go_simp; (try with_reducible rfl))
              simp only [List.setIfInBounds_toArray, List.set_cons_zero, List.set_cons_succ]
              refine takeD (i := 5) (d := 74) (v := ?_) rfl rfl (by kernel_rfl) (by kernel_rfl) (by kernel_rfl) (fun _ _ _ h => h) (Or.inl ⟨by rfl, ?_⟩) hHeld ?_
              rotate_left 1
              · (intro w hSw; (try dsimp only at hSw); go_simp; (try with_reducible rfl))
              simp only [List.setIfInBounds_toArray, List.set_cons_zero, List.set_cons_succ]
              refine takeD (i := 6) (d := 75) (v := ?_) rfl rfl (by kernel_rfl) (by kernel_rfl) (by kernel_rfl) (fun _ _ _ h => h) (Or.inl ⟨by rfl, ?_⟩) hHeld ?_
              rotate_left 1
              · (intro w hSw; (try dsimp only at hSw); go_simp; (try with_reducible rfl))
              simp only [List.setIfInBounds_toArray, List.set_cons_zero, List.set_cons_succ]
              refine takeD (i := 7) (d := 76) (v := ?_) rfl rfl (by kernel_rfl) (by kernel_rfl) (by kernel_rfl) (fun _ _ _ h => h) (Or.inl ⟨by rfl, ?_⟩) hHeld ?_
              rotate_left 1
              · (intro w hSw; (try dsimp only at hSw); go_simp; (try with_reducible rfl))
              simp only [List.setIfInBounds_toArray, List.set_cons_zero, List.set_cons_succ]
              refine takeD (i := 8) (d := 77) (v := ?_) rfl rfl (by kernel_rfl) (by kernel_rfl) (by kernel_rfl) (fun _ _ _ h => h) (Or.inl ⟨by rfl, ?_⟩) hHeld ?_
              rotate_left 1
              · (intro w hSw; (try dsimp only at hSw); go_simp; (try with_reducible rfl))
              simp only [List.setIfInBounds_toArray, List.set_cons_zero, List.set_cons_succ]
              refine takeD (i := 9) (d := 78) (v := ?_) rfl rfl (by kernel_rfl) (by kernel_rfl) (by kernel_rfl) (fun _ _ _ h => h) (Or.inl ⟨by rfl, ?_⟩) hHeld ?_
              rotate_left 1
              · (intro w hSw; (try dsimp only at hSw); go_simp; (try with_reducible rfl))
              simp only [List.setIfInBounds_toArray, List.set_cons_zero, List.set_cons_succ]
              refine takeD (i := 10) (d := 79) (v := ?_) rfl rfl (by kernel_rfl) (by kernel_rfl) (by kernel_rfl) (fun _ _ _ h => h) (Or.inl ⟨by rfl, ?_⟩) hHeld ?_
              rotate_left 1
              · (intro w hSw; (try dsimp only at hSw); go_simp; (try with_reducible rfl))
              simp only [List.setIfInBounds_toArray, List.set_cons_zero, List.set_cons_succ]
              refine takeD (i := 11) (d := 80) (v := ?_) rfl rfl (by kernel_rfl) (by kernel_rfl) (by kernel_rfl) (fun _ _ _ h => h) (Or.inl ⟨by rfl, ?_⟩) hHeld ?_
              rotate_left 1
              · (intro w hSw; (try dsimp only at hSw); go_simp; (try with_reducible rfl))
              simp only [List.setIfInBounds_toArray, List.set_cons_zero, List.set_cons_succ]
              refine takeD (i := 12) (d := 81) (v := (.bool C.sgn)) rfl rfl (by kernel_rfl) (by kernel_rfl) (by kernel_rfl) (fun _ _ _ h => h) (Or.inl ⟨by rfl, fun w hSw => ?_⟩) hHeld ?_
              · have cst := (cell_blk (hSw.heap HR7.out (by simp)) 1).trans (show _ = some (.bool C.sgn) from rfl)
                go_simp
              simp only [List.setIfInBounds_toArray, List.set_cons_zero, List.set_cons_succ]
              refine takeD (i := 13) (d := 82) (v := ?_) rfl rfl (by kernel_rfl) (by kernel_rfl) (by kernel_rfl) (fun _ _ _ h => h) (Or.inl ⟨by rfl, ?_⟩) hHeld ?_
              rotate_left 1
              · (intro w hSw; (try dsimp only at hSw); go_simp; (try with_reducible rfl))
              simp only [List.setIfInBounds_toArray, List.set_cons_zero, List.set_cons_succ]
              refine takeD (i := 15) (d := 84) (v := ?_) rfl rfl (by kernel_rfl) (by kernel_rfl) (by kernel_rfl) (fun _ _ _ h => h) (Or.inl ⟨by rfl, ?_⟩) hHeld ?_
              rotate_left 1
              · (intro w hSw; (try dsimp only at hSw); go_simp; (try with_reducible rfl))
              simp only [List.setIfInBounds_toArray, List.set_cons_zero, List.set_cons_succ]
              refine takeD (i := 16) (d := 85) (v := (.bool C.sgn)) rfl rfl (by kernel_rfl) (by kernel_rfl) (by kernel_rfl) (fun _ _ _ h => h) (Or.inl ⟨by rfl, fun w hSw => ?_⟩) hHeld ?_
              · have cst := (cell_blk (hSw.heap HR7.out (by simp)) 1).trans (show _ = some (.bool C.sgn) from rfl)
                go_simp
              simp only [List.setIfInBounds_toArray, List.set_cons_zero, List.set_cons_succ]
              refine takeD (i := 17) (d := 86) (v := ?_) rfl rfl (by kernel_rfl) (by kernel_rfl) (by kernel_rfl) (fun _ _ _ h => h) (Or.inl ⟨by rfl, ?_⟩) hHeld ?_
              rotate_left 1
              · (intro w hSw; (try dsimp only at hSw); go_simp; (try with_reducible rfl))
              simp only [List.setIfInBounds_toArray, List.set_cons_zero, List.set_cons_succ]
              refine wpAnyH_ready (rs := [14]) (by kernel_rfl) (by simp) ?_
              refine AllReadyH.cons rfl (fun K hK => ?_) AllReadyH.nil
              go_simp
              go_wp2_with (go_at_call 47; refine (NA.out _).mono ?_; rintro e w' ⟨rfl, rfl⟩)
              refine hK.out _ _ ?_ (fun hHeld => ?_)
              · exact hHeld
              clear hK K
              refine wpAnyH_ready (rs := [18]) (by kernel_rfl) (by simp) ?_
              refine AllReadyH.cons rfl (fun K hK => ?_) AllReadyH.nil
              go_simp
              go_wp2_with (go_at_call 47; refine (NB.out _).mono ?_; rintro e w' ⟨rfl, rfl⟩)
              refine hK.out _ _ ?_ (fun hHeld => ?_)
              · exact hHeld
              clear hK K
              refine takeD (i := 19) (d := 88) (v := ?_) rfl rfl (by kernel_rfl) (by kernel_rfl) (by kernel_rfl) (fun _ _ _ h => h) (Or.inl ⟨by rfl, ?_⟩) hHeld ?_
              rotate_left 1
              · (intro w hSw; (try dsimp only at hSw); go_simp; (try with_reducible rfl))
              simp only [List.setIfInBounds_toArray, List.set_cons_zero, List.set_cons_succ]
              refine takeD (i := 20) (d := 89) (v := ?_) rfl rfl (by kernel_rfl) (by kernel_rfl) (by kernel_rfl) (fun _ _ _ h => h) (Or.inl ⟨by rfl, ?_⟩) hHeld ?_
              rotate_left 1
              · (intro w hSw; (try dsimp only at hSw); go_simp; (try with_reducible rfl))
              simp only [List.setIfInBounds_toArray, List.set_cons_zero, List.set_cons_succ]
              refine wpAnyH_done (by kernel_rfl) ?_ _
              have HM8 := Lib.hid (HM7.out.trans hHeld)
              clear hHeld
              clear HMO
              by_cases hn : nb < na
              · have q1 : decide (nb < na) = true := decide_eq_true hn
                go_wp2_with fail
                refine (awakeC_ok _).mono ?_
                rintro e w10 ⟨rfl, M10⟩
                go_wp2
                go_ret
                exact ⟨rfl, HM8.out.trans M10⟩
              · have q1 : decide (nb < na) = false := decide_eq_false hn
                obtain ⟨m1, m2⟩ := HMM.out (by omega)
                rcases (show d = 1 ∨ d = -1 by omega) with hd1 | hd1
                · have q2 := m1 hd1
                  have q3 : decide (va ≤ vb) = true := decide_eq_true q2
                  subst hd1
                  clear q0 hd0 m1 m2
                  go_wp2_with fail
                  refine (awakeC_ok _).mono ?_
                  rintro e w10 ⟨rfl, M10⟩
                  go_wp2
                  go_ret
                  exact ⟨rfl, HM8.out.trans M10⟩
                · first
                  | (exfalso; omega)
                  | skip
                    have q2 := m2 hd1
                    have q3 : decide (vb ≤ va) = true := decide_eq_true q2
                    subst hd1
                    clear q0 hd0 m1 m2
                    go_wp2_with fail
                    refine (awakeC_ok _).mono ?_
                    rintro e w10 ⟨rfl, M10⟩
                    go_wp2
                    go_ret
                    exact ⟨rfl, HM8.out.trans M10⟩
          · have q0 : (eb != 0) = true := by simpa using heb
            clear heb
            go_wp2_with fail
            go_quiet ((go_at_call 47; first | exact quiet_left (NA.out _) | exact quiet_left (NB.out _)))
            go_wp2_with fail
            refine (awakeC_ok _).mono ?_
            rintro e w10 ⟨rfl, M10⟩
            go_wp2
            go_ret
            exact ⟨rfl, (HM7.out.drewN _).trans M10⟩
        · have q0 : (ea != 0) = true := by simpa using hea
          clear hea
          go_wp2_with fail
          go_quiet ((go_at_call 47; first | exact quiet_left (NA.out _) | exact quiet_left (NB.out _)))
          go_wp2_with fail
          refine (awakeC_ok _).mono ?_
          rintro e w10 ⟨rfl, M10⟩
          go_wp2
          go_ret
          exact ⟨rfl, (HM7.out.drewN _).trans M10⟩
    · have p3 : (C.form == 1) = false := by simpa using hf
      clear hf
      go_wp2_with fail
      by_cases hea : ea = 0
      · subst hea
        by_cases heb : eb = 0
        · subst heb
          by_cases hd0 : d = 0
          · subst hd0
            clear HMO
            go_wp2_with fail
            go_quiet ((go_at_call 47; first | exact quiet_left (NA.out _) | exact quiet_left (NB.out _)))
            go_wp2_with fail
            refine (awakeC_ok _).mono ?_
            rintro e w10 ⟨rfl, M10⟩
            go_wp2
            go_ret
            exact ⟨rfl, (HM7.out.drewN _).trans M10⟩
          · have q0 : (d == 0) = false := by simpa using hd0
            have HMM := Lib.hid (HMO.out rfl rfl)
            go_wp2_with fail
            refine heldStart (S := fun W => Mods [] w7 W) 21 rfl (by kernel_rfl) (Mods.refl.drew) (fun hHeld => ?_)
            refine takeD (i := 0) (d := 69) (v := ?_) rfl rfl (by kernel_rfl) (by kernel_rfl) (by kernel_rfl) (fun _ _ _ h => h) (Or.inl ⟨by rfl, ?_⟩) hHeld ?_
            rotate_left 1
            · (intro w hSw; (try dsimp only at hSw); go_simp; (try with_reducible rfl))
            simp only [List.setIfInBounds_toArray, List.set_cons_zero, List.set_cons_succ]
            refine takeD (i := 1) (d := 70) (v := ?_) rfl rfl (by kernel_rfl) (by kernel_rfl) (by kernel_rfl) (fun _ _ _ h => h) (Or.inl ⟨by rfl, ?_⟩) hHeld ?_
            rotate_left 1
            · (intro w hSw; (try dsimp only at hSw); go_simp; (try with_reducible rfl))
            simp only [List.setIfInBounds_toArray, List.set_cons_zero, List.set_cons_succ]
            refine takeD (i := 2) (d := 71) (v := ?_) rfl rfl (by kernel_rfl) (by kernel_rfl) (by kernel_rfl) (fun _ _ _ h => h) (Or.inl ⟨by rfl, ?_⟩) hHeld ?_
            rotate_left 1
            · (intro w hSw; (try dsimp only at hSw); go_simp; (try with_reducible rfl))
            simp only [List.setIfInBounds_toArray, List.set_cons_zero, List.set_cons_succ]
            refine takeD (i := 3) (d := 72) (v := ?_) rfl rfl (by kernel_rfl) (by kernel_rfl) (by kernel_rfl) (fun _ _ _ h => h) (Or.inl ⟨by rfl, ?_⟩) hHeld ?_
            rotate_left 1
            · (intro w hSw; (try dsimp only at hSw); go_simp; (try with_reducible rfl))
            simp only [List.setIfInBounds_toArray, List.set_cons_zero, List.set_cons_succ]
            refine takeD (i := 4) (d := 73) (v := ?_) rfl rfl (by kernel_rfl) (by kernel_rfl) (by kernel_rfl) (fun _ _ _ h => h) (Or.inl ⟨by rfl, ?_⟩) hHeld ?_
            rotate_left 1
            · (intro w hSw; (try dsimp only at hSw); go_simp; (try with_reducible rfl))
            simp only [List.setIfInBounds_toArray, List.set_cons_zero, List.set_cons_succ]
            refine takeD (i := 5) (d := 74) (v := ?_) rfl rfl (by kernel_rfl) (by kernel_rfl) (by kernel_rfl) (fun _ _ _ h => h) (Or.inl ⟨by rfl, ?_⟩) hHeld ?_
            rotate_left 1
            · (intro w hSw; (try dsimp only at hSw); go_simp; (try with_reducible rfl))
            simp only [List.setIfInBounds_toArray, List.set_cons_zero, List.set_cons_succ]
            refine takeD (i := 6) (d := 75) (v := ?_) rfl rfl (by kernel_rfl) (by kernel_rfl) (by kernel_rfl) (fun _ _ _ h => h) (Or.inl ⟨by rfl, ?_⟩) hHeld ?_
            rotate_left 1
            · (intro w hSw; (try dsimp only at hSw); go_simp; (try with_reducible rfl))
            simp only [List.setIfInBounds_toArray, List.set_cons_zero, List.set_cons_succ]
            refine takeD (i := 7) (d := 76) (v := ?_) rfl rfl (by kernel_rfl) (by kernel_rfl) (by kernel_rfl) (fun _ _ _ h => h) (Or.inl ⟨by rfl, ?_⟩) hHeld ?_
            rotate_left 1
            · (intro w hSw; (try dsimp only at hSw); go_simp; (try with_reducible rfl))
            simp only [List.setIfInBounds_toArray, List.set_cons_zero, List.set_cons_succ]
            refine takeD (i := 8) (d := 77) (v := ?_) rfl rfl (by kernel_rfl) (by kernel_rfl) (by kernel_rfl) (fun _ _ _ h => h) (Or.inl ⟨by rfl, ?_⟩) hHeld ?_
            rotate_left 1
            · (intro w hSw; (try dsimp only at hSw); go_simp; (try with_reducible rfl))
            simp only [List.setIfInBounds_toArray, List.set_cons_zero, List.set_cons_succ]
            refine takeD (i := 9) (d := 78) (v := ?_) rfl rfl (by kernel_rfl) (by kernel_rfl) (by kernel_rfl) (fun _ _ _ h => h) (Or.inl ⟨by rfl, ?_⟩) hHeld ?_
            rotate_left 1
            · (intro w hSw; (try dsimp only at hSw); go_simp; (try with_reducible rfl))
            simp only [List.setIfInBounds_toArray, List.set_cons_zero, List.set_cons_succ]
            refine takeD (i := 10) (d := 79) (v := ?_) rfl rfl (by kernel_rfl) (by kernel_rfl) (by kernel_rfl) (fun _ _ _ h => h) (Or.inl ⟨by rfl, ?_⟩) hHeld ?_
            rotate_left 1
            · (intro w hSw; (try dsimp only at hSw); go_simp; (try with_reducible rfl))
            simp only [List.setIfInBounds_toArray, List.set_cons_zero, List.set_cons_succ]
            refine takeD (i := 11) (d := 80) (v := ?_) rfl rfl (by kernel_rfl) (by kernel_rfl) (by kernel_rfl) (fun _ _ _ h => h) (Or.inl ⟨by rfl, ?_⟩) hHeld ?_
            rotate_left 1
            · (intro w hSw; (try dsimp only at hSw); go_simp; (try with_reducible rfl))
            simp only [List.setIfInBounds_toArray, List.set_cons_zero, List.set_cons_succ]
            refine takeD (i := 12) (d := 81) (v := (.bool C.sgn)) rfl rfl (by kernel_rfl) (by kernel_rfl) (by kernel_rfl) (fun _ _ _ h => h) (Or.inl ⟨by rfl, fun w hSw => ?_⟩) hHeld ?_
            · have cst := (cell_blk (hSw.heap HR7.out (by simp)) 1).trans (show _ = some (.bool C.sgn) from rfl)
              go_simp
            simp only [List.setIfInBounds_toArray, List.set_cons_zero, List.set_cons_succ]
            refine takeD (i := 13) (d := 82) (v := ?_) rfl rfl (by kernel_rfl) (by kernel_rfl) (by kernel_rfl) (fun _ _ _ h => h) (Or.inl ⟨by rfl, ?_⟩) hHeld ?_
            rotate_left 1
            · (intro w hSw; (try dsimp only at hSw); go_simp; (try with_reducible rfl))
            simp only [List.setIfInBounds_toArray, List.set_cons_zero, List.set_cons_succ]
            refine takeD (i := 15) (d := 84) (v := ?_) rfl rfl (by kernel_rfl) (by kernel_rfl) (by kernel_rfl) (fun _ _ _ h => h) (Or.inl ⟨by rfl, ?_⟩) hHeld ?_
            rotate_left 1
            · (intro w hSw; (try dsimp only at hSw); go_simp; (try with_reducible rfl))
            simp only [List.setIfInBounds_toArray, List.set_cons_zero, List.set_cons_succ]
            refine takeD (i := 16) (d := 85) (v := (.bool C.sgn)) rfl rfl (by kernel_rfl) (by kernel_rfl) (by kernel_rfl) (fun _ _ _ h => h) (Or.inl ⟨by rfl, fun w hSw => ?_⟩) hHeld ?_
            · have cst := (cell_blk (hSw.heap HR7.out (by simp)) 1).trans (show _ = some (.bool C.sgn) from rfl)
              go_simp
            simp only [List.setIfInBounds_toArray, List.set_cons_zero, List.set_cons_succ]
            refine takeD (i := 17) (d := 86) (v := ?_) rfl rfl (by kernel_rfl) (by kernel_rfl) (by kernel_rfl) (fun _ _ _ h => h) (Or.inl ⟨by rfl, ?_⟩) hHeld ?_
            rotate_left 1
            · (intro w hSw; (try dsimp only at hSw); go_simp; (try with_reducible rfl))
            simp only [List.setIfInBounds_toArray, List.set_cons_zero, List.set_cons_succ]
            refine wpAnyH_ready (rs := [14]) (by kernel_rfl) (by simp) ?_
            refine AllReadyH.cons rfl (fun K hK => ?_) AllReadyH.nil
            go_simp
            go_wp2_with (go_at_call 47; refine (NA.out _).mono ?_; rintro e w' ⟨rfl, rfl⟩)
            refine hK.out _ _ ?_ (fun hHeld => ?_)
            · exact hHeld
            clear hK K
            refine wpAnyH_ready (rs := [18]) (by kernel_rfl) (by simp) ?_
            refine AllReadyH.cons rfl (fun K hK => ?_) AllReadyH.nil
            go_simp
            go_wp2_with (go_at_call 47; refine (NB.out _).mono ?_; rintro e w' ⟨rfl, rfl⟩)
            refine hK.out _ _ ?_ (fun hHeld => ?_)
            · exact hHeld
            clear hK K
            refine takeD (i := 19) (d := 88) (v := ?_) rfl rfl (by kernel_rfl) (by kernel_rfl) (by kernel_rfl) (fun _ _ _ h => h) (Or.inl ⟨by rfl, ?_⟩) hHeld ?_
            rotate_left 1
            · (intro w hSw; (try dsimp only at hSw); go_simp; (try with_reducible rfl))
            simp only [List.setIfInBounds_toArray, List.set_cons_zero, List.set_cons_succ]
            refine takeD (i := 20) (d := 89) (v := ?_) rfl rfl (by kernel_rfl) (by kernel_rfl) (by kernel_rfl) (fun _ _ _ h => h) (Or.inl ⟨by rfl, ?_⟩) hHeld ?_
            rotate_left 1
            · (intro w hSw; (try dsimp only at hSw); go_simp; (try with_reducible rfl))
            simp only [List.setIfInBounds_toArray, List.set_cons_zero, List.set_cons_succ]
            refine wpAnyH_done (by kernel_rfl) ?_ _
            have HM8 := Lib.hid (HM7.out.trans hHeld)
            clear hHeld
            clear HMO
            by_cases hn : nb < na
            · have q1 : decide (nb < na) = true := decide_eq_true hn
              go_wp2_with fail
              refine (awakeC_ok _).mono ?_
              rintro e w10 ⟨rfl, M10⟩
              go_wp2
              go_ret
              exact ⟨rfl, HM8.out.trans M10⟩
            · have q1 : decide (nb < na) = false := decide_eq_false hn
              obtain ⟨m1, m2⟩ := HMM.out (by omega)
              rcases (show d = 1 ∨ d = -1 by omega) with hd1 | hd1
              · have q2 := m1 hd1
                have q3 : decide (va ≤ vb) = true := decide_eq_true q2
                subst hd1
                clear q0 hd0 m1 m2
                go_wp2_with fail
                refine (awakeC_ok _).mono ?_
                rintro e w10 ⟨rfl, M10⟩
                go_wp2
                go_ret
                exact ⟨rfl, HM8.out.trans M10⟩
              · first
                | (exfalso; omega)
                | skip
                  have q2 := m2 hd1
                  have q3 : decide (vb ≤ va) = true := decide_eq_true q2
                  subst hd1
                  clear q0 hd0 m1 m2
                  go_wp2_with fail
                  refine (awakeC_ok _).mono ?_
                  rintro e w10 ⟨rfl, M10⟩
                  go_wp2
                  go_ret
                  exact ⟨rfl, HM8.out.trans M10⟩
        · have q0 : (eb != 0) = true := by simpa using heb
          clear heb
          go_wp2_with fail
          go_quiet ((go_at_call 47; first | exact quiet_left (NA.out _) | exact quiet_left (NB.out _)))
          go_wp2_with fail
          refine (awakeC_ok _).mono ?_
          rintro e w10 ⟨rfl, M10⟩
          go_wp2
          go_ret
          exact ⟨rfl, (HM7.out.drewN _).trans M10⟩
      · have q0 : (ea != 0) = true := by simpa using hea
        clear hea
        go_wp2_with fail
        go_quiet ((go_at_call 47; first | exact quiet_left (NA.out _) | exact quiet_left (NB.out _)))
        go_wp2_with fail
        refine (awakeC_ok _).mono ?_
        rintro e w10 ⟨rfl, M10⟩
        go_wp2
        go_ret
        exact ⟨rfl, (HM7.out.drewN _).trans M10⟩
  · skip
    have HLL := Lib.hid (decide_eq_false hl)
    go_enter Try.func13, Try.ntmps13
    go_wp2_with fail
    refine HL.out.mono ?_
    rw [HLL.out]
    rintro e w' ⟨rfl, rfl⟩
    go_wp2_with fail
    refine (awakeC_ok _).mono ?_
    rintro e w1 ⟨rfl, M1⟩
    go_wp2
    go_ret
    exact ⟨rfl, M1⟩
end Go.Proofs.Ytgjjmiaiclhidaa
