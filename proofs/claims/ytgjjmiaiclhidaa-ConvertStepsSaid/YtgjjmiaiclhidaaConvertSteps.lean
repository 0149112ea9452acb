/- ConvertSteps: the walk. -/
import Derived.Test.YtgjjmiaiclhidaaConvertForms
import Derived.Test.YtgjjmiaiclhidaaBetweenP
import Derived.Test.YtgjjmiaiclhidaaHeldRow
namespace Go.Proofs.Ytgjjmiaiclhidaa
open Go.RowKit

set_option maxRecDepth 100000 in
set_option maxHeartbeats 8000000 in
theorem convertSteps_walk (w : World) (v : Value) (L : List Int) (hv : Rd w v (i64s L)) (hb : ∀ i, -9223372036854775808 ≤ L.getD i 0 ∧ L.getD i 0 ≤ 9223372036854775807) (n0 : Int) (hn0 : I64 n0) :
    Calls Try.prog 7 #[v, .int .i64 n0] w fun e w' => e = .returned (.bool true) ∧ Mods [] w w' := by
  have HN0 := Lib.hid hn0
  clear hn0
  have HL := Lib.hid (light_ok w v L hv)
  have HV := Lib.hid hv
  have HB := Lib.hid hb
  clear hv hb
  by_cases hl : L.length ≤ 600
  · skip
    have HLL := Lib.hid (decide_eq_true hl)
    go_enter Try.func7, Try.ntmps7
    go_wp2_with fail
    refine HL.out.mono ?_
    rw [HLL.out]
    rintro e w' ⟨rfl, rfl⟩
    go_wp2_with fail
    refine (roll_ok w v L HV.out (by omega) HB.out).mono ?_
    rintro e w1 ⟨rfl, D1, M1, z1⟩
    go_wp2_with fail
    refine (conversion_ok w1 w.heap.size v L 0 D1).mono ?_
    rintro e w2 ⟨C, P, n2, rfl, IC, VC, OP, PL, D2, M2⟩
    have HM2 := Lib.hid (show Mods [] w w2 from M1.comp M2 (fun q hq => by simp at hq; exact .inr (by omega)))
    have HIC := Lib.hid IC
    have HVC := Lib.hid VC
    have HOW := Lib.hid (show ∀ q, C.pts.ownBlock = some q → q < w2.heap.size from fun q hq => (OP.own q hq).2)
    have HGW := Lib.hid HM2.out.size
    have HPL := Lib.hid PL
    have HONE := Lib.hid (Conv.one C IC.rd.one)
    have HD2 := Lib.hid D2
    clear D1 D2 M1 M2 VC OP IC PL
    by_cases h5 : C.form = 5
    · have e5 : (C.form == 5) = true := by simpa using h5
      clear h5
      go_wp2_with (first | fail | (refine wpList_store_row (cs := C.cells) rfl 26 (.tmp 5) (.tmp 24) rfl (heap_alloc_new w2 _) (by rfl) (by rfl) rfl C.infoCC HONE.out ?_; intro w4 R4 M4; have HR4 := Lib.hid R4; have HM4 := Lib.hid (HM2.out.trans (fresh M4)); have HIC4 := Lib.hid (HIC.out.mods0 (fresh M4)); have c0 : w4.cell? ⟨w2.heap.size, 0, none⟩ = some (.int .i64 C.form) := (cell_blk R4 0).trans rfl; have f0 : w4.frozen? ⟨w2.heap.size, 0, none⟩ = false := froz_blk R4 0; skip; clear M4 R4))
      refine (awakeC_ok _).mono ?_
      rintro e w5 ⟨rfl, M5⟩
      go_wp2
      go_ret
      exact ⟨rfl, HM4.out.trans M5⟩
    · have e5 : (C.form == 5) = false := by simpa using h5
      have HL := convB_lin HVC.out h5
      have hk1 := HL.k1
      have hk2 := HL.k2
      have hm := HL.m
      have hb := HL.b
      have HVF := Lib.hid (fun raw => valueI_asForm HVC.out h5 1 (by omega) raw)
      obtain ⟨u, hu⟩ : ∃ u : Nat, (6 + C.k2) = (u : Int) := ⟨(6 + C.k2).toNat, by omega⟩
      obtain ⟨t, ht⟩ : ∃ t : Nat, (6 + C.k1 + C.k2) = (t : Int) := ⟨(6 + C.k1 + C.k2).toNat, by omega⟩
      have hu9 : u ≤ 9 := by omega
      have ht12 : t ≤ 12 := by omega
      have HLS := Lib.hid (fun x => show linS C (x + 1) = linS C x + C.m * tenI u by rw [linS_succ, hu, Int.toNat_natCast])
      have HLZ := Lib.hid (show linS C 0 = C.b * tenI t by rw [linS_zero, ht, Int.toNat_natCast])
      have hu1 : wrap64 (6 + C.k2) = (u : Int) := by rw [hu]; exact IntWalk.wrap64_in _ (by omega)
      have HU := Lib.hid hu
      have HT := Lib.hid ht
      have HC1 : Hid (IsConv w2 { C with form := 1 } P) := Lib.hid ⟨HIC.out.rd, HIC.out.pok, i64_small (x := 1) (by decide), HIC.out.m, HIC.out.b, HIC.out.k1, HIC.out.k2⟩
      have hwm : wrap64 C.m = C.m := IntWalk.wrap64_in _ (by omega)
      have hwb : wrap64 C.b = C.b := IntWalk.wrap64_in _ (by omega)
      clear h5 HL hu ht hu1
      go_wp2_with (first | fail | (refine wpList_store_row (cs := C.cells) rfl 26 (.tmp 5) (.tmp 24) rfl (heap_alloc_new w2 _) (by rfl) (by rfl) rfl C.infoCC HONE.out ?_; intro w4 R4 M4; have HR4 := Lib.hid R4; have HM4 := Lib.hid (HM2.out.trans (fresh M4)); have HIC4 := Lib.hid (HIC.out.mods0 (fresh M4)); have c0 : w4.cell? ⟨w2.heap.size, 0, none⟩ = some (.int .i64 C.form) := (cell_blk R4 0).trans rfl; have f0 : w4.frozen? ⟨w2.heap.size, 0, none⟩ = false := froz_blk R4 0; have HRN := Lib.hid (heap_setCell (i := 0) (v := .int .i64 1) R4); clear M4 R4))
      have HM5 := Lib.hid (HM4.out.setCell (p := ⟨w2.heap.size, 0, none⟩) (.inr HGW.out) (.int .i64 1))
      have HI5 : Hid (IsConv (w4.setCell ⟨w2.heap.size, 0, none⟩ (.int .i64 1)) { C with form := 1 } P) := Lib.hid ⟨(HIC4.out.rd.mods (S := [w2.heap.size]) ((Mods.refl).setCell (p := ⟨w2.heap.size, 0, none⟩) (.inl (by simp)) (.int .i64 1)) (fun _ q hq hm => by have := HOW.out q hq; simp at hm; omega)), HIC.out.pok, HC1.out.form, HIC.out.m, HIC.out.b, HIC.out.k1, HIC.out.k2⟩
      have HR5 : Hid ((w4.setCell ⟨w2.heap.size, 0, none⟩ (.int .i64 1)).heap[w2.heap.size]? = some (.cells ({ C with form := 1 } : Conv).cells 26 (0, 0))) := HRN
      clear c0 f0 HRN HR4 HM4 HIC4 HC1 HIC HM2 HONE HD2
      generalize w4.setCell ⟨w2.heap.size, 0, none⟩ (.int .i64 1) = w5 at HM5 HI5 HR5 ⊢
      generalize w2.heap.size = g at HGW HOW HR5 ⊢
      have z1 : w5.cell? ⟨g, 1, none⟩ = some (.bool C.sgn) := (cell_blk HR5.out 1).trans rfl
      have z2 : w5.cell? ⟨g, 2, none⟩ = some (.int .i64 C.m) := (cell_blk HR5.out 2).trans rfl
      have z3 : w5.cell? ⟨g, 3, none⟩ = some (.int .i64 C.b) := (cell_blk HR5.out 3).trans rfl
      have z4 : w5.cell? ⟨g, 4, none⟩ = some (.int .i64 C.k1) := (cell_blk HR5.out 4).trans rfl
      have z5 : w5.cell? ⟨g, 5, none⟩ = some (.int .i64 C.k2) := (cell_blk HR5.out 5).trans rfl
      go_quiet (fail)
      go_wp2_with fail
      have HM6 := Lib.hid (HM5.out.drewN nq)
      have HI6 := Lib.hid (HI5.out.mods0 (Mods.refl.drewN nq))
      have HR6 : Hid ((w5.drewN nq).heap[g]? = some (.cells ({ C with form := 1 } : Conv).cells 26 (0, 0))) := Lib.hid HR5.out
      have y1 : (w5.drewN nq).cell? ⟨g, 1, none⟩ = some (.bool C.sgn) := z1
      have y4 : (w5.drewN nq).cell? ⟨g, 4, none⟩ = some (.int .i64 C.k1) := z4
      have y5 : (w5.drewN nq).cell? ⟨g, 5, none⟩ = some (.int .i64 C.k2) := z5
      clear z1 z2 z3 z4 z5 HM5 HI5 HR5
      generalize w5.drewN nq = w6 at HM6 HI6 HR6 y1 y4 y5 ⊢
      have hu1 : wrap64 (6 + C.k2) = (u : Int) := by rw [HU.out]; exact IntWalk.wrap64_in _ (by omega)
      have hu2 : 6 + C.k2 = (u : Int) := HU.out
      go_loop [6, 8] (fun s i => ∃ k : Nat, k ≤ u ∧ i = .int .i64 k ∧ s = .int .i64 (C.m * tenI k)) (fun _ i => u - (intOf i).toNat)
      case atStart => exact ⟨0, by omega, rfl, by rw [show tenI 0 = 1 from rfl, Int.mul_one]⟩
      case round =>
        obtain ⟨k, hk, rfl, rfl⟩ := hrel
        by_cases hlt : k < u
        · have HS := Lib.hid (show C.m * tenI (k + 1) = 10 * (C.m * tenI k) by rw [tenI_succ, Int.mul_left_comm])
          have hbd := mul_bd (a := C.m) (b := tenI (k + 1)) (A := 512) (B := 1000000000) (by omega) (ten9 (by omega))
          rw [HS.out] at hbd
          obtain ⟨bd1, bd2⟩ := hbd
          generalize C.m * tenI k = s at *
          go_wp2
          go_round
          case rel => exact ⟨k + 1, by omega, by go_num, by rw [HS.out]⟩
          case measure => simp [intOf]; omega
        · obtain rfl : k = u := by omega
          have HSB := Lib.hid (mul_bd (a := C.m) (b := tenI k) (A := 512) (B := 1000000000) (by omega) (ten9 (by omega)))
          go_wp2_with fail
          have hu4 : wrap64 (6 + C.k1) = 6 + C.k1 := IntWalk.wrap64_in _ (by omega)
          have hu3 : wrap64 (6 + C.k1 + C.k2) = (t : Int) := by rw [HT.out]; exact IntWalk.wrap64_in _ (by have := HT.out; omega)
          have hu5 : 6 + C.k1 + C.k2 = (t : Int) := HT.out
          clear hu1 hu2
          go_loop [7, 9] (fun s i => ∃ j : Nat, j ≤ t ∧ i = .int .i64 j ∧ s = .int .i64 (C.b * tenI j)) (fun _ i => t - (intOf i).toNat)
          case atStart => exact ⟨0, by omega, rfl, by rw [show tenI 0 = 1 from rfl, Int.mul_one]⟩
          case round =>
            obtain ⟨j, hj, rfl, rfl⟩ := hrel
            by_cases hlt2 : j < t
            · have HS := Lib.hid (show C.b * tenI (j + 1) = 10 * (C.b * tenI j) by rw [tenI_succ, Int.mul_left_comm])
              have hbd := mul_bd (a := C.b) (b := tenI (j + 1)) (A := 512) (B := 1000000000000) (by omega) (ten12 (by omega))
              rw [HS.out] at hbd
              obtain ⟨bd1, bd2⟩ := hbd
              generalize C.b * tenI j = s at *
              go_wp2
              go_round
              case rel => exact ⟨j + 1, by omega, by go_num, by rw [HS.out]⟩
              case measure => simp [intOf]; omega
            · obtain rfl : j = t := by omega
              go_wp2_with fail
              refine (least_ok C.sgn _).mono ?_
              rintro e w' ⟨rfl, rfl⟩
              go_wp2_with fail
              refine (mod_ok n0 255 _ HN0.out (by omega) (by omega)).mono ?_
              rintro e w' ⟨rfl, rfl⟩
              have hq0 := Int.emod_nonneg n0 (show (255 : Int) ≠ 0 by omega)
              have hq1 := Int.emod_lt_of_pos n0 (show (0 : Int) < 255 by omega)
              have hl0 : leastI C.sgn = -128 ∨ leastI C.sgn = 0 := by unfold leastI; split <;> simp
              obtain ⟨x, hx⟩ : ∃ x, x = leastI C.sgn + n0 % 255 := ⟨_, rfl⟩
              have hx1 : leastI C.sgn ≤ x := by omega
              have hx2 : x ≤ leastI C.sgn + 254 := by omega
              have HXA := Lib.hid (num_raw (sgn := C.sgn) (x := x) hx1 (by omega))
              have HXB := Lib.hid (num_raw (sgn := C.sgn) (x := x + 1) (by omega) (by omega))
              have hx3 : -128 ≤ x := by omega
              have hx4 : x ≤ 254 := by omega
              have hxw : leastI C.sgn + n0 % 255 = x := hx.symm
              have hxw2 : IntKind.i64.wrap (leastI C.sgn + n0 % 255) = x := by rw [← hx]; exact IntWalk.i64_in _ (by omega)
              have hxw3 : IntKind.i64.wrap (x + 1) = x + 1 := IntWalk.i64_in _ (by omega)
              have HXW := Lib.hid hx
              clear hx hq0 hq1 hl0 hx1 hx2 y1 y4 y5 hu3 hu4 hu5
              have HVa := Lib.hid (HVF.out (rawI x))
              have HVb := Lib.hid (HVF.out (rawI (x + 1)))
              have HVz := Lib.hid (HVF.out 0)
              rw [if_neg (by decide), if_neg (by decide), if_neg (by decide)] at HVa HVb HVz
              rw [HXA.out] at HVa
              rw [HXB.out] at HVb
              rw [show numI C.sgn 0 = 0 by unfold numI; simp] at HVz
              have HEA := Lib.hid (show linI C x = clampI (linS C x) from rfl)
              have HEB : Hid (linI C (x + 1) = clampI (linS C x + C.m * tenI k)) := Lib.hid (by unfold linI; rw [HLS.out])
              have HEZ : Hid (linI C 0 = clampI (C.b * tenI j)) := Lib.hid (by unfold linI; rw [HLZ.out])
              have hla := clampI_bd (linS C x)
              have hlb := clampI_bd (linS C x + C.m * tenI k)
              rw [← HEA.out] at hla
              rw [← HEB.out] at hlb
              have hmt := HSB.out
              have V1 := Lib.hid (fun W (M : Mods [] w6 W) => value_ok W _ P (rawI x) (HI6.out.mods0 M) (rawI_lt _))
              have V2 := Lib.hid (fun W (M : Mods [] w6 W) => value_ok W _ P (rawI (x + 1)) (HI6.out.mods0 M) (rawI_lt _))
              have V3 := Lib.hid (fun W (M : Mods [] w6 W) => value_ok W _ P 0 (HI6.out.mods0 M) (by omega))
              rw [HVa.out] at V1
              rw [HVb.out] at V2
              rw [HVz.out] at V3
              clear HVa HVb HVz HXA HXB HVF HVC HLS HLZ HU HT HSB
              have RA := Lib.hid (raw_ok x (by omega) (by omega))
              have RB := Lib.hid (raw_ok (x + 1) (by omega) (by omega))
              generalize linI C x = va at *
              generalize linI C (x + 1) = vb at *
              generalize linI C 0 = vz at *
              generalize rawI x = ra at *
              generalize rawI (x + 1) = rb at *
              generalize hsm : C.m * tenI k = sm at *
              generalize hsz : C.b * tenI j = sz at *
              generalize linS C x = ls at *
              clear hsm hsz
              obtain ⟨C1, hC1⟩ : ∃ C1 : Conv, C1 = { C with form := 1 } := ⟨_, rfl⟩
              rw [← hC1] at HI6 HR6 V1 V2 V3
              clear hC1
              go_wp2_with fail
              refine heldStart (S := fun W => W.heap[g]? = some (.cells C1.cells 26 (0, 0))) 9 rfl (by kernel_rfl) HR6.out (fun hHeld => ?_)
              refine takeD (i := 0) (d := 62) (v := .agg (C1).cells) rfl rfl (by kernel_rfl) (by kernel_rfl) (by kernel_rfl) (fun _ _ _ h => h) (yieldsIf_load_row rfl 26 (.tmp 5) rfl g rfl 26 (C1).cells (0, 0) _ (fun w h=>h) Try.underlying26 rfl (Conv.infoCC _)) hHeld ?_
              simp only [List.setIfInBounds_toArray, List.set_cons_zero, List.set_cons_succ]
              refine takeD (i := 1) (d := 63) (v := ?_) rfl rfl (by kernel_rfl) (by kernel_rfl) (by kernel_rfl) (fun _ _ _ h => h) (Or.inl ⟨by rfl, ?_⟩) hHeld ?_
              rotate_left 1
              · (intro w hSw; (try dsimp only at hSw); go_simp; (try with_reducible rfl))
              simp only [List.setIfInBounds_toArray, List.set_cons_zero, List.set_cons_succ]
              refine wpAnyH_ready (rs := [2]) (by kernel_rfl) (by simp) ?_
              refine AllReadyH.cons rfl (fun K hK => ?_) AllReadyH.nil
              go_simp
              go_wp2_with (go_at_call 50; refine (RA.out _).mono ?_; rintro e w' ⟨rfl, rfl⟩)
              refine hK.out _ _ ?_ (fun hHeld => ?_)
              · exact hHeld
              clear hK K
              refine wpAnyH_ready (rs := [3]) (by kernel_rfl) (by simp) ?_
              refine AllReadyH.cons rfl (fun K hK => ?_) AllReadyH.nil
              go_simp
              go_wp2_with (go_at_call 43; refine (V1.out _ (Mods.refl.drewN 1)).mono ?_; rintro e w7 ⟨rfl, M7⟩)
              refine hK.out _ _ ?_ (fun hHeld => ?_)
              · exact M7.heap hHeld (by simp)
              clear hK K
              have HM7 := Lib.hid (show Mods [] w6 w7 from ((Mods.refl.drewN 1)).trans M7)
              clear M7
              refine takeD (i := 4) (d := 61) (v := ?_) rfl rfl (by kernel_rfl) (by kernel_rfl) (by kernel_rfl) (fun _ _ _ h => h) (Or.inl ⟨by rfl, ?_⟩) hHeld ?_
              rotate_left 1
              · (intro w hSw; (try dsimp only at hSw); go_simp; (try with_reducible rfl))
              simp only [List.setIfInBounds_toArray, List.set_cons_zero, List.set_cons_succ]
              refine takeD (i := 5) (d := 66) (v := ?_) rfl rfl (by kernel_rfl) (by kernel_rfl) (by kernel_rfl) (fun _ _ _ h => h) (Or.inl ⟨by rfl, ?_⟩) hHeld ?_
              rotate_left 1
              · (intro w hSw; (try dsimp only at hSw); go_simp; (try with_reducible rfl))
              simp only [List.setIfInBounds_toArray, List.set_cons_zero, List.set_cons_succ]
              refine takeD (i := 6) (d := 67) (v := ?_) rfl rfl (by kernel_rfl) (by kernel_rfl) (by kernel_rfl) (fun _ _ _ h => h) (Or.inl ⟨by rfl, ?_⟩) hHeld ?_
              rotate_left 1
              · (intro w hSw; (try dsimp only at hSw); go_simp; (try with_reducible rfl))
              simp only [List.setIfInBounds_toArray, List.set_cons_zero, List.set_cons_succ]
              refine takeD (i := 7) (d := 11) (v := ?_) rfl rfl (by kernel_rfl) (by kernel_rfl) (by kernel_rfl) (fun _ _ _ h => h) (Or.inl ⟨by rfl, ?_⟩) hHeld ?_
              rotate_left 1
              · (intro w hSw; (try dsimp only at hSw); go_simp; (try with_reducible rfl))
              simp only [List.setIfInBounds_toArray, List.set_cons_zero, List.set_cons_succ]
              refine takeD (i := 8) (d := 12) (v := ?_) rfl rfl (by kernel_rfl) (by kernel_rfl) (by kernel_rfl) (fun _ _ _ h => h) (Or.inl ⟨by rfl, ?_⟩) hHeld ?_
              rotate_left 1
              · (intro w hSw; (try dsimp only at hSw); go_simp; (try with_reducible rfl))
              simp only [List.setIfInBounds_toArray, List.set_cons_zero, List.set_cons_succ]
              refine wpAnyH_done (by kernel_rfl) ?_ _
              have HR7 := Lib.hid hHeld
              clear hHeld
              go_wp2_with fail
              refine heldStart (S := fun W => W.heap[g]? = some (.cells C1.cells 26 (0, 0))) 10 rfl (by kernel_rfl) HR7.out (fun hHeld => ?_)
              refine takeD (i := 0) (d := 69) (v := .agg (C1).cells) rfl rfl (by kernel_rfl) (by kernel_rfl) (by kernel_rfl) (fun _ _ _ h => h) (yieldsIf_load_row rfl 26 (.tmp 5) rfl g rfl 26 (C1).cells (0, 0) _ (fun w h=>h) Try.underlying26 rfl (Conv.infoCC _)) hHeld ?_
              simp only [List.setIfInBounds_toArray, List.set_cons_zero, List.set_cons_succ]
              refine takeD (i := 1) (d := 70) (v := ?_) rfl rfl (by kernel_rfl) (by kernel_rfl) (by kernel_rfl) (fun _ _ _ h => h) (Or.inl ⟨by rfl, ?_⟩) hHeld ?_
              rotate_left 1
              · (intro w hSw; (try dsimp only at hSw); go_simp; (try with_reducible rfl))
              simp only [List.setIfInBounds_toArray, List.set_cons_zero, List.set_cons_succ]
              refine takeD (i := 2) (d := 71) (v := ?_) rfl rfl (by kernel_rfl) (by kernel_rfl) (by kernel_rfl) (fun _ _ _ h => h) (Or.inl ⟨by rfl, ?_⟩) hHeld ?_
              rotate_left 1
              · (intro w hSw; (try dsimp only at hSw); go_simp; (try with_reducible rfl))
              simp only [List.setIfInBounds_toArray, List.set_cons_zero, List.set_cons_succ]
              refine wpAnyH_ready (rs := [3]) (by kernel_rfl) (by simp) ?_
              refine AllReadyH.cons rfl (fun K hK => ?_) AllReadyH.nil
              go_simp
              go_wp2_with (go_at_call 50; refine (RB.out _).mono ?_; rintro e w' ⟨rfl, rfl⟩)
              refine hK.out _ _ ?_ (fun hHeld => ?_)
              · exact hHeld
              clear hK K
              refine wpAnyH_ready (rs := [4]) (by kernel_rfl) (by simp) ?_
              refine AllReadyH.cons rfl (fun K hK => ?_) AllReadyH.nil
              go_simp
              go_wp2_with (go_at_call 43; refine (V2.out _ (HM7.out.drewN 1)).mono ?_; rintro e w8 ⟨rfl, M8⟩)
              refine hK.out _ _ ?_ (fun hHeld => ?_)
              · exact M8.heap hHeld (by simp)
              clear hK K
              have HM8 := Lib.hid (show Mods [] w6 w8 from ((HM7.out.drewN 1)).trans M8)
              clear M8
              refine takeD (i := 5) (d := 68) (v := ?_) rfl rfl (by kernel_rfl) (by kernel_rfl) (by kernel_rfl) (fun _ _ _ h => h) (Or.inl ⟨by rfl, ?_⟩) hHeld ?_
              rotate_left 1
              · (intro w hSw; (try dsimp only at hSw); go_simp; (try with_reducible rfl))
              simp only [List.setIfInBounds_toArray, List.set_cons_zero, List.set_cons_succ]
              refine takeD (i := 6) (d := 74) (v := ?_) rfl rfl (by kernel_rfl) (by kernel_rfl) (by kernel_rfl) (fun _ _ _ h => h) (Or.inl ⟨by rfl, ?_⟩) hHeld ?_
              rotate_left 1
              · (intro w hSw; (try dsimp only at hSw); go_simp; (try with_reducible rfl))
              simp only [List.setIfInBounds_toArray, List.set_cons_zero, List.set_cons_succ]
              refine takeD (i := 7) (d := 75) (v := ?_) rfl rfl (by kernel_rfl) (by kernel_rfl) (by kernel_rfl) (fun _ _ _ h => h) (Or.inl ⟨by rfl, ?_⟩) hHeld ?_
              rotate_left 1
              · (intro w hSw; (try dsimp only at hSw); go_simp; (try with_reducible rfl))
              simp only [List.setIfInBounds_toArray, List.set_cons_zero, List.set_cons_succ]
              refine takeD (i := 8) (d := 13) (v := ?_) rfl rfl (by kernel_rfl) (by kernel_rfl) (by kernel_rfl) (fun _ _ _ h => h) (Or.inl ⟨by rfl, ?_⟩) hHeld ?_
              rotate_left 1
              · (intro w hSw; (try dsimp only at hSw); go_simp; (try with_reducible rfl))
              simp only [List.setIfInBounds_toArray, List.set_cons_zero, List.set_cons_succ]
              refine takeD (i := 9) (d := 14) (v := ?_) rfl rfl (by kernel_rfl) (by kernel_rfl) (by kernel_rfl) (fun _ _ _ h => h) (Or.inl ⟨by rfl, ?_⟩) hHeld ?_
              rotate_left 1
              · (intro w hSw; (try dsimp only at hSw); go_simp; (try with_reducible rfl))
              simp only [List.setIfInBounds_toArray, List.set_cons_zero, List.set_cons_succ]
              refine wpAnyH_done (by kernel_rfl) ?_ _
              have HR8 := Lib.hid hHeld
              clear hHeld
              go_wp2_with (refine wpList_load_conv (C := C1) rfl (.tmp 5) rfl HR8.out (by rfl) ?_)
              refine (V3.out _ HM8.out).mono ?_
              rintro e w9 ⟨rfl, M9⟩
              have HX9 := Lib.hid (HM6.out.trans (HM8.out.trans M9))
              clear M9 V1 V2 V3
              have CZ := Lib.hid (refClamp_ok sz)
              rw [← HEZ.out] at CZ
              have ez : (vz != vz) = false := by simp
              go_wp2_with fail
              refine (CZ.out _).mono ?_
              rintro e w' ⟨rfl, rfl⟩
              by_cases a0 : va = 1000000000000
              · have e0 : (va == 1000000000000) = true := by simpa using a0
                clear a0
                go_wp2_with fail
                refine (awakeC_ok _).mono ?_
                rintro e w10 ⟨rfl, M10⟩
                go_wp2
                go_ret
                exact ⟨rfl, HX9.out.trans M10⟩
              · have e0 : (va == 1000000000000) = false := by simpa using a0
                by_cases a1 : va = -1000000000000
                · have e1 : (va == -1000000000000) = true := by simpa using a1
                  clear a0 a1
                  go_wp2_with fail
                  refine (awakeC_ok _).mono ?_
                  rintro e w10 ⟨rfl, M10⟩
                  go_wp2
                  go_ret
                  exact ⟨rfl, HX9.out.trans M10⟩
                · have e1 : (va == -1000000000000) = false := by simpa using a1
                  by_cases a2 : vb = 1000000000000
                  · have e2 : (vb == 1000000000000) = true := by simpa using a2
                    clear a0 a1 a2
                    go_wp2_with fail
                    refine (awakeC_ok _).mono ?_
                    rintro e w10 ⟨rfl, M10⟩
                    go_wp2
                    go_ret
                    exact ⟨rfl, HX9.out.trans M10⟩
                  · have e2 : (vb == 1000000000000) = false := by simpa using a2
                    by_cases a3 : vb = -1000000000000
                    · have e3 : (vb == -1000000000000) = true := by simpa using a3
                      clear a0 a1 a2 a3
                      go_wp2_with fail
                      refine (awakeC_ok _).mono ?_
                      rintro e w10 ⟨rfl, M10⟩
                      go_wp2
                      go_ret
                      exact ⟨rfl, HX9.out.trans M10⟩
                    · have e3 : (vb == -1000000000000) = false := by simpa using a3
                      have hva : va = ls := by rw [HEA.out] at a0 a1 ⊢; exact clampI_open a0 a1
                      have hvb : vb = ls + sm := by rw [HEB.out] at a2 a3 ⊢; exact clampI_open a2 a3
                      have hd : IntKind.i64.wrap (vb - va) = sm := by rw [hva, hvb]; rw [IntWalk.i64_in _ (by omega)]; omega
                      have hd2 : wrap64 (vb - va) = sm := by rw [hva, hvb]; rw [IntWalk.wrap64_in _ (by omega)]; omega
                      have hd3 : vb - va = sm := by omega
                      have es : (sm == sm) = true := by simp
                      clear a0 a1 a2 a3 hva hvb
                      go_wp2_with fail
                      refine (awakeC_ok _).mono ?_
                      rintro e w10 ⟨rfl, M10⟩
                      go_wp2
                      go_ret
                      exact ⟨rfl, HX9.out.trans M10⟩
  · skip
    have HLL := Lib.hid (decide_eq_false hl)
    go_enter Try.func7, Try.ntmps7
    go_wp2_with fail
    refine HL.out.mono ?_
    rw [HLL.out]
    rintro e w' ⟨rfl, rfl⟩
    go_wp2_with fail
    refine (awakeC_ok _).mono ?_
    rintro e w1 ⟨rfl, M1⟩
    go_wp2
    go_ret
    exact ⟨rfl, M1⟩
end Go.Proofs.Ytgjjmiaiclhidaa
