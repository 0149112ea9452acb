/- ConvertBetween: the walk. -/
import Derived.Test.YtgjjmiaiclhidaaConvertForms
import Derived.Test.YtgjjmiaiclhidaaBetweenP
import Derived.Test.YtgjjmiaiclhidaaTwoBoxN
namespace Go.Proofs.Ytgjjmiaiclhidaa
open Go.RowKit

theorem Try.infoPP : (Try.prog.info? 72).map (·.size) = some 2 := by kernel_rfl
set_option maxRecDepth 100000 in
set_option maxHeartbeats 8000000 in
theorem convertBetween_walk (w : World) (v : Value) (L : List Int) (hv : Rd w v (i64s L)) (hb : ∀ i, -9223372036854775808 ≤ L.getD i 0 ∧ L.getD i 0 ≤ 9223372036854775807) (n0 : Int) (hn0 : I64 n0) (a : Int) (ha : 0 ≤ a ∧ a ≤ 255) :
    Calls Try.prog 8 #[v, .int .i64 n0, .int .u8 a] w fun e w' => e = .returned (.bool true) ∧ Mods [] w w' := by
  obtain ⟨raw, rfl⟩ := Int.eq_ofNat_of_zero_le ha.1
  have hraw : raw < 256 := by omega
  have HN0 := Lib.hid hn0
  clear ha hn0
  have HL := Lib.hid (light_ok w v L hv)
  have HV := Lib.hid hv
  have HB := Lib.hid hb
  clear hv hb
  by_cases hl : L.length ≤ 600
  · skip
    have HLL := Lib.hid (decide_eq_true hl)
    go_enter Try.func8, Try.ntmps8
    go_wp2_with fail
    refine HL.out.mono ?_
    rw [HLL.out]
    rintro e w' ⟨rfl, rfl⟩
    go_wp2_with fail
    refine (roll_ok w v L HV.out (by omega) HB.out).mono ?_
    rintro e w1 ⟨rfl, D1, M1, z1⟩
    go_wp2_with fail
    refine (conversion_ok w1 w.heap.size v L 0 D1).mono ?_
    rintro e w2 ⟨C, P, n2, rfl, IC, VC, OP, PL, D2, M2⟩
    have HM2 := Lib.hid (show Mods [] w w2 from M1.comp M2 (fun q hq => by simp at hq; exact .inr (by omega)))
    have HIC := Lib.hid IC
    have HVC := Lib.hid VC
    have HOW := Lib.hid (show ∀ q, C.pts.ownBlock = some q → q < w2.heap.size from fun q hq => (OP.own q hq).2)
    have HGW := Lib.hid HM2.out.size
    have HPL := Lib.hid PL
    have HONE := Lib.hid (Conv.one C IC.rd.one)
    have HD2 := Lib.hid D2
    clear D1 D2 M1 M2 VC OP IC PL
    by_cases h5 : C.form = 5
    · have e5 : (C.form != 5) = false := by simpa using h5
      have HT := convB_tab HVC.out h5
      obtain ⟨hl2, hl12, -, -⟩ := tab_parts HT
      have HTB := Lib.hid HT
      have HVA := Lib.hid (fun k hk => valueI_at (k := k) HVC.out h5 hk)
      have HVX := Lib.hid (valueI_tab HVC.out h5 raw)
      obtain ⟨ad, cap, hpts⟩ := HIC.out.rd.len
      have hv2 := HIC.out.rd
      rw [hpts] at hv2
      obtain ⟨bb, off, rfl, _, hc1, hc2, -⟩ := hv2.at (by omega)
      have hc3 : cap ≤ 9223372036854775807 := hc2
      have HPT := Lib.hid hpts
      have hbb : bb < w2.heap.size := HOW.out bb (by rw [hpts]; rfl)
      have w5 : IntKind.i64.wrap ((P.length : Int) - 1) = (P.length : Int) - 1 := IntWalk.i64_in _ (by omega)
      have j5 : 1 ≤ (P.length : Int) := by omega
      clear h5 HT hpts hv2 hc2
      go_wp2_with (first | fail | (refine wpList_store_row (cs := C.cells) rfl 26 (.tmp 7) (.tmp 24) rfl (heap_alloc_new w2 _) (by rfl) (by rfl) rfl C.infoCC HONE.out ?_; intro w4 R4 M4; have HR4 := Lib.hid R4; have HM4 := Lib.hid (HM2.out.trans (fresh M4)); have HIC4 := Lib.hid (HIC.out.mods0 (fresh M4)); have c0 : w4.cell? ⟨w2.heap.size, 0, none⟩ = some (.int .i64 C.form) := (cell_blk R4 0).trans rfl; have f0 : w4.frozen? ⟨w2.heap.size, 0, none⟩ = false := froz_blk R4 0; have c6 : w4.cell? ⟨w2.heap.size, 6, none⟩ = some (.slice (some ⟨bb, off, none⟩) P.length cap) := (cell_blk R4 6).trans (by rw [← HPT.out]; rfl); clear M4 R4))
      refine (mod_ok n0 ((P.length : Int) - 1) _ HN0.out (by omega) (by omega)).mono ?_
      rintro e w' ⟨rfl, rfl⟩
      obtain ⟨k, hk⟩ : ∃ k : Nat, n0 % ((P.length : Int) - 1) = (k : Int) := ⟨(n0 % ((P.length : Int) - 1)).toNat, by have := Int.emod_nonneg n0 (show (P.length : Int) - 1 ≠ 0 by omega); omega⟩
      have hkl : k + 1 < P.length := by have := Int.emod_lt_of_pos n0 (show 0 < (P.length : Int) - 1 by omega); omega
      rw [hk]
      clear hk
      have hv4 := HIC4.out.rd
      rw [HPT.out] at hv4
      obtain ⟨bb', off', he, _, _, _, hc⟩ := hv4.at (by omega)
      cases he
      have PA0 := hc k (by omega)
      have PB0 := hc (k + 1) hkl
      have hra := HIC4.out.pok.raw k
      have hrb := HIC4.out.pok.raw (k + 1)
      have HVa := Lib.hid (HVA.out k (by omega))
      have HVb := Lib.hid (HVA.out (k + 1) hkl)
      have HBT := Lib.hid (fun h1 h2 => tabI_between HTB.out hkl (x := numI C.sgn raw) h1 h2)
      have HNa := Lib.hid (show ptN C.sgn P k = numI C.sgn (P.getD k default).raw from rfl)
      have HNb := Lib.hid (show ptN C.sgn P (k + 1) = numI C.sgn (P.getD (k + 1) default).raw from rfl)
      rw [HNa.out, HNb.out] at HBT
      generalize (P.getD k default).raw = ra at PA0 hra HVa HBT HNa
      generalize (P.getD (k + 1) default).raw = rb at PB0 hrb HVb HBT HNb
      generalize ptV P k = va at PA0 HVa HBT
      generalize ptV P (k + 1) = vb at PB0 HVb HBT
      have i0 : (0 : Int) ≤ (k : Int) := by omega
      have i1 : (k : Int) < (P.length : Int) := by omega
      have i2 : IntKind.i64.wrap ((k : Int) + 1) = (k : Int) + 1 := IntWalk.i64_in _ (by omega)
      have i3 : (0 : Int) ≤ (k : Int) + 1 := by omega
      have i4 : (k : Int) + 1 < (P.length : Int) := by omega
      have i5 : ((k : Int) + 1).toNat = k + 1 := by omega
      have SIX : ∀ W, Mods [] w4 W → W.cell? ⟨w2.heap.size, 6, none⟩ = some (.slice (some ⟨bb, off, none⟩) P.length cap) := fun W M => M.cell c6 (by simp)
      have PA : ∀ W, Mods [] w4 W → W.cell? ⟨bb, off + k * 2, none⟩ = some (.int .u8 (ra : Int)) ∧ W.cell? ⟨bb, off + k * 2 + 1, none⟩ = some (.int .i64 va) := fun W M => ⟨M.cell PA0.1 (by simp), M.cell PA0.2 (by simp)⟩
      have PB : ∀ W, Mods [] w4 W → W.cell? ⟨bb, off + (k + 1) * 2, none⟩ = some (.int .u8 (rb : Int)) ∧ W.cell? ⟨bb, off + (k + 1) * 2 + 1, none⟩ = some (.int .i64 vb) := fun W M => ⟨M.cell PB0.1 (by simp), M.cell PB0.2 (by simp)⟩
      clear c6 f0 PA0 PB0 hc hv4 HVA
      go_wp2_with fail
      refine heldStart (S := fun W => Mods [] w4 W) 15 rfl (by kernel_rfl) (Mods.refl.drew) (fun hHeld => ?_)
      refine takeD (i := 0) (d := 35) (v := ?_) rfl rfl (by kernel_rfl) (by kernel_rfl) (by kernel_rfl) (fun _ _ _ h => h) (Or.inl ⟨by rfl, ?_⟩) hHeld ?_
      rotate_left 1
      · (intro w hSw; have y6 := SIX w hSw; have ya := PA w hSw; have yb := PB w hSw; go_simp; (try with_reducible rfl))
      simp only [List.setIfInBounds_toArray, List.set_cons_zero, List.set_cons_succ]
      refine takeD (i := 1) (d := 36) (v := ?_) rfl rfl (by kernel_rfl) (by kernel_rfl) (by kernel_rfl) (fun _ _ _ h => h) (Or.inl ⟨by rfl, ?_⟩) hHeld ?_
      rotate_left 1
      · (intro w hSw; have y6 := SIX w hSw; have ya := PA w hSw; have yb := PB w hSw; go_simp; (try with_reducible rfl))
      simp only [List.setIfInBounds_toArray, List.set_cons_zero, List.set_cons_succ]
      refine takeD (i := 2) (d := 37) (v := ?_) rfl rfl (by kernel_rfl) (by kernel_rfl) (by kernel_rfl) (fun _ _ _ h => h) (Or.inl ⟨by rfl, ?_⟩) hHeld ?_
      rotate_left 1
      · (intro w hSw; have y6 := SIX w hSw; have ya := PA w hSw; have yb := PB w hSw; go_simp; (try with_reducible rfl))
      simp only [List.setIfInBounds_toArray, List.set_cons_zero, List.set_cons_succ]
      refine takeD (i := 3) (d := 38) (v := ?_) rfl rfl (by kernel_rfl) (by kernel_rfl) (by kernel_rfl) (fun _ _ _ h => h) (Or.inl ⟨by rfl, ?_⟩) hHeld ?_
      rotate_left 1
      · (intro w hSw; have y6 := SIX w hSw; have ya := PA w hSw; have yb := PB w hSw; go_simp; (try with_reducible rfl))
      simp only [List.setIfInBounds_toArray, List.set_cons_zero, List.set_cons_succ]
      refine takeD (i := 4) (d := 39) (v := ?_) rfl rfl (by kernel_rfl) (by kernel_rfl) (by kernel_rfl) (fun _ _ _ h => h) (Or.inl ⟨by rfl, ?_⟩) hHeld ?_
      rotate_left 1
      · (intro w hSw; have y6 := SIX w hSw; have ya := PA w hSw; have yb := PB w hSw; go_simp; (try with_reducible rfl))
      simp only [List.setIfInBounds_toArray, List.set_cons_zero, List.set_cons_succ]
      refine takeD (i := 5) (d := 40) (v := ?_) rfl rfl (by kernel_rfl) (by kernel_rfl) (by kernel_rfl) (fun _ _ _ h => h) (Or.inl ⟨by rfl, ?_⟩) hHeld ?_
      rotate_left 1
      · (intro w hSw; have y6 := SIX w hSw; have ya := PA w hSw; have yb := PB w hSw; go_simp; (try with_reducible rfl))
      simp only [List.setIfInBounds_toArray, List.set_cons_zero, List.set_cons_succ]
      refine takeD (i := 6) (d := 41) (v := ?_) rfl rfl (by kernel_rfl) (by kernel_rfl) (by kernel_rfl) (fun _ _ _ h => h) (Or.inl ⟨by rfl, ?_⟩) hHeld ?_
      rotate_left 1
      · (intro w hSw; have y6 := SIX w hSw; have ya := PA w hSw; have yb := PB w hSw; go_simp; (try with_reducible rfl))
      simp only [List.setIfInBounds_toArray, List.set_cons_zero, List.set_cons_succ]
      refine takeD (i := 7) (d := 42) (v := ?_) rfl rfl (by kernel_rfl) (by kernel_rfl) (by kernel_rfl) (fun _ _ _ h => h) (Or.inl ⟨by rfl, ?_⟩) hHeld ?_
      rotate_left 1
      · (intro w hSw; have y6 := SIX w hSw; have ya := PA w hSw; have yb := PB w hSw; go_simp; (try with_reducible rfl))
      simp only [List.setIfInBounds_toArray, List.set_cons_zero, List.set_cons_succ]
      refine takeD (i := 8) (d := 43) (v := ?_) rfl rfl (by kernel_rfl) (by kernel_rfl) (by kernel_rfl) (fun _ _ _ h => h) (Or.inl ⟨by rfl, ?_⟩) hHeld ?_
      rotate_left 1
      · (intro w hSw; have y6 := SIX w hSw; have ya := PA w hSw; have yb := PB w hSw; go_simp; (try with_reducible rfl))
      simp only [List.setIfInBounds_toArray, List.set_cons_zero, List.set_cons_succ]
      refine takeD (i := 9) (d := 44) (v := ?_) rfl rfl (by kernel_rfl) (by kernel_rfl) (by kernel_rfl) (fun _ _ _ h => h) (Or.inl ⟨by rfl, ?_⟩) hHeld ?_
      rotate_left 1
      · (intro w hSw; have y6 := SIX w hSw; have ya := PA w hSw; have yb := PB w hSw; go_simp; (try with_reducible rfl))
      simp only [List.setIfInBounds_toArray, List.set_cons_zero, List.set_cons_succ]
      refine takeD (i := 10) (d := 45) (v := ?_) rfl rfl (by kernel_rfl) (by kernel_rfl) (by kernel_rfl) (fun _ _ _ h => h) (Or.inl ⟨by rfl, ?_⟩) hHeld ?_
      rotate_left 1
      · (intro w hSw; have y6 := SIX w hSw; have ya := PA w hSw; have yb := PB w hSw; go_simp; (try with_reducible rfl))
      simp only [List.setIfInBounds_toArray, List.set_cons_zero, List.set_cons_succ]
      refine twoBoxesAt (fuel := 0) (T := 72) (i2 := 11) (i3 := 12) (i4 := 13) (i5 := 14) (z := #[.int .u8 0, .int .i64 0]) (csA := #[.int .u8 (ra : Int), .int .i64 va]) (csB := #[.int .u8 (rb : Int), .int .i64 vb]) (by decide) rfl rfl rfl rfl rfl rfl rfl rfl rfl rfl rfl rfl ?r2 ?r3 rfl rfl rfl rfl Try.infoPP Try.infoPP (by simp [Value.oneCell']) (by simp [Value.oneCell']) (by simp) (by simp) (by decide) (by decide) (by decide) (by decide) (by decide) rfl rfl (by kernel_rfl) (by kernel_rfl) (by kernel_rfl) (by kernel_rfl) (by kernel_rfl) (by kernel_rfl) (fun w' M => hHeld.trans M) ?_
      case r2 => intro a w; rfl
      case r3 => intro a w; rfl
      intro gA gB w6 HT6
      simp only [List.setIfInBounds_toArray, List.set_cons_zero, List.set_cons_succ]
      have HM6 := Lib.hid (HM4.out.trans (hHeld.trans HT6.M))
      have HG6 := Lib.hid ((hHeld.trans HT6.M).heap HR4.out (by simp))
      have HI6 := Lib.hid (HIC4.out.mods0 (hHeld.trans HT6.M))
      have HA6 := Lib.hid (HT6.A _ rfl).1
      have HB6 := Lib.hid (HT6.B _ rfl).1
      clear hHeld HT6 SIX PA PB i2 i3 i4 i5
      have za : w6.cell? ⟨gA, 0, none⟩ = some (.int .u8 (ra : Int)) := (cell_blk HA6.out 0).trans rfl
      have V1 := Lib.hid (fun W (M : Mods [] w6 W) => value_ok W C P ra (HI6.out.mods0 M) hra)
      have V2 := Lib.hid (fun W (M : Mods [] w6 W) => value_ok W C P rb (HI6.out.mods0 M) hrb)
      have V3 := Lib.hid (fun W (M : Mods [] w6 W) => value_ok W C P raw (HI6.out.mods0 M) hraw)
      rw [HVa.out] at V1
      rw [HVb.out] at V2
      rw [HVX.out] at V3
      generalize tabI C.sgn P (numI C.sgn raw) = tv at HBT V3
      have NX := Lib.hid (number_ok C.sgn raw hraw)
      have NA := Lib.hid (number_ok C.sgn ra hra)
      have NB := Lib.hid (number_ok C.sgn rb hrb)
      generalize numI C.sgn raw = x at HBT NX
      generalize numI C.sgn ra = na at HBT NA
      generalize numI C.sgn rb = nb at HBT NB
      clear HVa HVb HVX HVC HTB HNa HNb
      go_wp2_with (refine wpList_load_conv (C := C) rfl (.tmp 7) rfl HG6.out (by rfl) ?_)
      refine (V1.out _ Mods.refl).mono ?_
      rintro e w7 ⟨rfl, M7⟩
      have HM7 := Lib.hid M7
      have HG7 := Lib.hid (M7.heap HG6.out (by simp))
      have zb : w7.cell? ⟨gB, 0, none⟩ = some (.int .u8 (rb : Int)) := (cell_blk (M7.heap HB6.out (by simp)) 0).trans rfl
      clear za M7
      go_wp2_with (refine wpList_load_conv (C := C) rfl (.tmp 7) rfl HG7.out (by rfl) ?_)
      refine (V2.out _ HM7.out).mono ?_
      rintro e w8 ⟨rfl, M8⟩
      have HM8 := Lib.hid (HM7.out.trans M8)
      have HG8 := Lib.hid (M8.heap HG7.out (by simp))
      clear zb M8
      go_wp2_with (refine wpList_load_conv (C := C) rfl (.tmp 7) rfl HG8.out (by rfl) ?_)
      refine (V3.out _ HM8.out).mono ?_
      rintro e w9 ⟨rfl, M9⟩
      have HM9 := Lib.hid (HM8.out.trans M9)
      have HG9 := Lib.hid (M9.heap HG8.out (by simp))
      have HX9 := Lib.hid (HM6.out.trans HM9.out)
      have za : w9.cell? ⟨gA, 0, none⟩ = some (.int .u8 (ra : Int)) := (cell_blk (HM9.out.heap HA6.out (by simp)) 0).trans rfl
      have zb : w9.cell? ⟨gB, 0, none⟩ = some (.int .u8 (rb : Int)) := (cell_blk (HM9.out.heap HB6.out (by simp)) 0).trans rfl
      have ya : w9.cell? ⟨gA, 1, none⟩ = some (.int .i64 va) := (cell_blk (HM9.out.heap HA6.out (by simp)) 1).trans rfl
      have yb : w9.cell? ⟨gB, 1, none⟩ = some (.int .i64 vb) := (cell_blk (HM9.out.heap HB6.out (by simp)) 1).trans rfl
      have z1 : w9.cell? ⟨w2.heap.size, 1, none⟩ = some (.bool C.sgn) := (cell_blk HG9.out 1).trans rfl
      have ea : (va != va) = false := by simp
      have eb : (vb != vb) = false := by simp
      clear M9 V1 V2 V3
      go_wp2_with fail
      refine (NX.out _).mono ?_
      rintro e w' ⟨rfl, rfl⟩
      by_cases hxa : x < na
      · have d1 : decide (x < na) = true := decide_eq_true hxa
        clear hxa
        go_wp2_with fail
        refine (NA.out _).mono ?_
        rintro e w' ⟨rfl, rfl⟩
        go_wp2_with fail
        refine (awakeC_ok _).mono ?_
        rintro e w10 ⟨rfl, M10⟩
        go_wp2
        go_ret
        exact ⟨rfl, HX9.out.trans M10⟩
      · have d1 : decide (x < na) = false := decide_eq_false hxa
        by_cases hxb : x > nb
        · have d2 : decide (x > nb) = true := decide_eq_true hxb
          clear hxa hxb
          go_wp2_with fail
          refine (NA.out _).mono ?_
          rintro e w' ⟨rfl, rfl⟩
          go_wp2_with fail
          refine (NB.out _).mono ?_
          rintro e w' ⟨rfl, rfl⟩
          go_wp2_with fail
          refine (awakeC_ok _).mono ?_
          rintro e w10 ⟨rfl, M10⟩
          go_wp2
          go_ret
          exact ⟨rfl, HX9.out.trans M10⟩
        · have d2 : decide (x > nb) = false := decide_eq_false hxb
          obtain ⟨b1, b2⟩ := HBT.out (by omega) (by omega)
          have d3 : decide (min va vb ≤ tv) = true := decide_eq_true b1
          have d4 : decide (tv ≤ max va vb) = true := decide_eq_true b2
          clear hxa hxb
          go_wp2_with fail
          refine (NA.out _).mono ?_
          rintro e w' ⟨rfl, rfl⟩
          go_wp2_with fail
          refine (NB.out _).mono ?_
          rintro e w' ⟨rfl, rfl⟩
          go_wp2_with fail
          all_goals first
            | (exfalso; omega)
            | (refine (awakeC_ok _).mono ?_; rintro e w10 ⟨rfl, M10⟩; go_wp2; go_ret; exact ⟨rfl, HX9.out.trans M10⟩)
    · have e5 : (C.form != 5) = true := by simpa using h5
      clear h5
      go_wp2_with (first | fail | (refine wpList_store_row (cs := C.cells) rfl 26 (.tmp 7) (.tmp 24) rfl (heap_alloc_new w2 _) (by rfl) (by rfl) rfl C.infoCC HONE.out ?_; intro w4 R4 M4; have HR4 := Lib.hid R4; have HM4 := Lib.hid (HM2.out.trans (fresh M4)); have HIC4 := Lib.hid (HIC.out.mods0 (fresh M4)); have c0 : w4.cell? ⟨w2.heap.size, 0, none⟩ = some (.int .i64 C.form) := (cell_blk R4 0).trans rfl; have f0 : w4.frozen? ⟨w2.heap.size, 0, none⟩ = false := froz_blk R4 0; skip; clear M4 R4))
      refine (awakeC_ok _).mono ?_
      rintro e w5 ⟨rfl, M5⟩
      go_wp2
      go_ret
      exact ⟨rfl, HM4.out.trans M5⟩
  · skip
    have HLL := Lib.hid (decide_eq_false hl)
    go_enter Try.func8, Try.ntmps8
    go_wp2_with fail
    refine HL.out.mono ?_
    rw [HLL.out]
    rintro e w' ⟨rfl, rfl⟩
    go_wp2_with fail
    refine (awakeC_ok _).mono ?_
    rintro e w1 ⟨rfl, M1⟩
    go_wp2
    go_ret
    exact ⟨rfl, M1⟩
end Go.Proofs.Ytgjjmiaiclhidaa
