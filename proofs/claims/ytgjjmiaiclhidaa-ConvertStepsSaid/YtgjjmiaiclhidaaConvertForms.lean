/- ConvertForms: the walk. -/
import Derived.Test.YtgjjmiaiclhidaaAwakeC
import Derived.Test.YtgjjmiaiclhidaaFormsP
import Derived.Test.YtgjjmiaiclhidaaReady
namespace Go.Proofs.Ytgjjmiaiclhidaa
open Go.RowKit

set_option maxRecDepth 100000 in
set_option maxHeartbeats 8000000 in
theorem convertForms_walk (w : World) (v : Value) (L : List Int) (hv : Rd w v (i64s L)) (hb : ∀ i, -9223372036854775808 ≤ L.getD i 0 ∧ L.getD i 0 ≤ 9223372036854775807) (a : Int) (ha : 0 ≤ a ∧ a ≤ 255) :
    Calls Try.prog 9 #[v, .int .u8 a] w fun e w' => e = .returned (.bool true) ∧ Mods [] w w' := by
  obtain ⟨raw, rfl⟩ := Int.eq_ofNat_of_zero_le ha.1
  have hraw : raw < 256 := by omega
  clear ha
  have HL := Lib.hid (light_ok w v L hv)
  have HV := Lib.hid hv
  have HB := Lib.hid hb
  clear hv hb
  by_cases hl : L.length ≤ 600
  · skip
    have HLL := Lib.hid (decide_eq_true hl)
    go_enter Try.func9, Try.ntmps9
    go_wp2_with fail
    refine HL.out.mono ?_
    rw [HLL.out]
    rintro e w' ⟨rfl, rfl⟩
    go_wp2_with fail
    refine (roll_ok w v L HV.out (by omega) HB.out).mono ?_
    rintro e w1 ⟨rfl, D1, M1, z1⟩
    go_wp2_with fail
    refine (conversion_ok w1 w.heap.size v L 0 D1).mono ?_
    rintro e w2 ⟨C, P, n2, rfl, IC, VC, OP, PL, D2, M2⟩
    have HM2 := Lib.hid (show Mods [] w w2 from M1.comp M2 (fun q hq => by simp at hq; exact .inr (by omega)))
    have HIC := Lib.hid IC
    have HVC := Lib.hid VC
    have HOW := Lib.hid (show ∀ q, C.pts.ownBlock = some q → q < w2.heap.size from fun q hq => (OP.own q hq).2)
    have HGW := Lib.hid HM2.out.size
    have HPL := Lib.hid PL
    have HONE := Lib.hid (Conv.one C IC.rd.one)
    have HD2 := Lib.hid D2
    clear D1 D2 M1 M2 VC OP IC PL
    by_cases h5 : C.form = 5
    · have e5 : (C.form == 5) = true := by simpa using h5
      clear h5
      go_wp2_with (first | fail | (refine wpList_store_row (cs := C.cells) rfl 26 (.tmp 5) (.tmp 20) rfl (heap_alloc_new w2 _) (by rfl) (by rfl) rfl C.infoCC HONE.out ?_; intro w4 R4 M4; have HR4 := Lib.hid R4; have HM4 := Lib.hid (HM2.out.trans (fresh M4)); have HIC4 := Lib.hid (HIC.out.mods0 (fresh M4)); have c0 : w4.cell? ⟨w2.heap.size, 0, none⟩ = some (.int .i64 C.form) := (cell_blk R4 0).trans rfl; have f0 : w4.frozen? ⟨w2.heap.size, 0, none⟩ = false := froz_blk R4 0; skip; clear M4 R4))
      refine (awakeC_ok _).mono ?_
      rintro e w5 ⟨rfl, M5⟩
      go_wp2
      go_ret
      exact ⟨rfl, HM4.out.trans M5⟩
    · have e5 : (C.form == 5) = false := by simpa using h5
      have HVF := Lib.hid (valueI_asForm HVC.out h5)
      have HLB := Lib.hid (clampI_idem (linS C (numI C.sgn raw)))
      have hlb := clampI_bd (linS C (numI C.sgn raw))
      have HV1 := Lib.hid (HVF.out 1 (by omega) raw)
      have HV2 := Lib.hid (HVF.out 2 (by omega) raw)
      have HV3 := Lib.hid (HVF.out 3 (by omega) raw)
      have HV4 := Lib.hid (HVF.out 4 (by omega) raw)
      rw [if_neg (by decide), if_neg (by decide), if_neg (by decide)] at HV1
      rw [if_pos rfl] at HV2
      rw [if_neg (by decide), if_pos rfl] at HV3
      rw [if_neg (by decide), if_neg (by decide), if_pos rfl] at HV4
      have HYY : Hid (clampI (linI C (numI C.sgn raw)) = linI C (numI C.sgn raw)) := HLB
      replace hlb : -1000000000000 ≤ linI C (numI C.sgn raw) ∧ linI C (numI C.sgn raw) ≤ 1000000000000 := hlb
      generalize linI C (numI C.sgn raw) = y at *
      have HSQ := Lib.hid (mulV_sq y)
      have HRC := Lib.hid (rootV_code y)
      have HDC := Lib.hid (divV_code HYY.out)
      have HRB := Lib.hid (fun h0 => rootV_bd (y := y) h0 HYY.out)
      clear h5 HVF HLB HVC HYY
      go_wp2_with (first | (refine wpList_load_conv (C := { C with form := 1 }) rfl (.tmp 5) rfl HRN.out (by rfl) ?_) | (refine wpList_store_row (cs := C.cells) rfl 26 (.tmp 5) (.tmp 20) rfl (heap_alloc_new w2 _) (by rfl) (by rfl) rfl C.infoCC HONE.out ?_; intro w4 R4 M4; have HR4 := Lib.hid R4; have HM4 := Lib.hid (HM2.out.trans (fresh M4)); have HIC4 := Lib.hid (HIC.out.mods0 (fresh M4)); have c0 : w4.cell? ⟨w2.heap.size, 0, none⟩ = some (.int .i64 C.form) := (cell_blk R4 0).trans rfl; have f0 : w4.frozen? ⟨w2.heap.size, 0, none⟩ = false := froz_blk R4 0; have HRN := Lib.hid (heap_setCell (i := 0) (v := .int .i64 1) R4); clear M4 R4))
      clear HRN
      have HRN := Lib.hid (heap_setCell (i := 0) (v := .int .i64 1) HR4.out)
      have HMN := Lib.hid (HM4.out.setCell (p := ⟨w2.heap.size, 0, none⟩) (.inr HGW.out) (.int .i64 1))
      have HIN := Lib.hid (HIC4.out.mods (S := [w2.heap.size]) ((Mods.refl).setCell (p := ⟨w2.heap.size, 0, none⟩) (.inl (by simp)) (.int .i64 1)) (fun _ q hq hm => by have := HOW.out q hq; simp at hm; omega))
      have HC : Hid (IsConv (w4.setCell ⟨w2.heap.size, 0, none⟩ (.int .i64 1)) { C with form := 1 } P) := Lib.hid ⟨HIN.out.rd, HIN.out.pok, i64_small (x := 1) (by decide), HIN.out.m, HIN.out.b, HIN.out.k1, HIN.out.k2⟩
      have HVV := Lib.hid (value_ok _ _ P raw HC.out hraw)
      rw [HV1.out] at HVV
      refine HVV.out.mono ?_
      rintro e w5 ⟨rfl, MN⟩
      have HR5 := Lib.hid (MN.heap HRN.out (by simp))
      have HM5 := Lib.hid (HMN.out.trans MN)
      have HI5 := Lib.hid (HC.out.mods0 MN)
      have c0 : w5.cell? ⟨w2.heap.size, 0, none⟩ = some (.int .i64 1) := (cell_blk HR5.out 0).trans rfl
      have f0 : w5.frozen? ⟨w2.heap.size, 0, none⟩ = false := froz_blk HR5.out 0
      clear HRN HMN HIN HC HVV MN HR4 HM4 HIC4
      have HRN := Lib.hid (heap_setCell (i := 0) (v := .int .i64 3) HR5.out)
      go_wp2_with (refine wpList_load_conv (C := { C with form := 3 }) rfl (.tmp 5) rfl HRN.out (by rfl) ?_)
      have HMN := Lib.hid (HM5.out.setCell (p := ⟨w2.heap.size, 0, none⟩) (.inr HGW.out) (.int .i64 3))
      have HIN := Lib.hid (HI5.out.mods (S := [w2.heap.size]) ((Mods.refl).setCell (p := ⟨w2.heap.size, 0, none⟩) (.inl (by simp)) (.int .i64 3)) (fun _ q hq hm => by have := HOW.out q hq; simp at hm; omega))
      have HC : Hid (IsConv (w5.setCell ⟨w2.heap.size, 0, none⟩ (.int .i64 3)) { C with form := 3 } P) := Lib.hid ⟨HIN.out.rd, HIN.out.pok, i64_small (x := 3) (by decide), HIN.out.m, HIN.out.b, HIN.out.k1, HIN.out.k2⟩
      have HVV := Lib.hid (value_ok _ _ P raw HC.out hraw)
      rw [HV3.out] at HVV
      refine HVV.out.mono ?_
      rintro e w6 ⟨rfl, MN⟩
      have HR6 := Lib.hid (MN.heap HRN.out (by simp))
      have HM6 := Lib.hid (HMN.out.trans MN)
      have HI6 := Lib.hid (HC.out.mods0 MN)
      have c0 : w6.cell? ⟨w2.heap.size, 0, none⟩ = some (.int .i64 3) := (cell_blk HR6.out 0).trans rfl
      have f0 : w6.frozen? ⟨w2.heap.size, 0, none⟩ = false := froz_blk HR6.out 0
      clear HRN HMN HIN HC HVV MN HR5 HM5 HI5
      have HRN := Lib.hid (heap_setCell (i := 0) (v := .int .i64 4) HR6.out)
      go_wp2_with (refine wpList_load_conv (C := { C with form := 4 }) rfl (.tmp 5) rfl HRN.out (by rfl) ?_)
      have HMN := Lib.hid (HM6.out.setCell (p := ⟨w2.heap.size, 0, none⟩) (.inr HGW.out) (.int .i64 4))
      have HIN := Lib.hid (HI6.out.mods (S := [w2.heap.size]) ((Mods.refl).setCell (p := ⟨w2.heap.size, 0, none⟩) (.inl (by simp)) (.int .i64 4)) (fun _ q hq hm => by have := HOW.out q hq; simp at hm; omega))
      have HC : Hid (IsConv (w6.setCell ⟨w2.heap.size, 0, none⟩ (.int .i64 4)) { C with form := 4 } P) := Lib.hid ⟨HIN.out.rd, HIN.out.pok, i64_small (x := 4) (by decide), HIN.out.m, HIN.out.b, HIN.out.k1, HIN.out.k2⟩
      have HVV := Lib.hid (value_ok _ _ P raw HC.out hraw)
      rw [HV4.out] at HVV
      refine HVV.out.mono ?_
      rintro e w7 ⟨rfl, MN⟩
      have HR7 := Lib.hid (MN.heap HRN.out (by simp))
      have HM7 := Lib.hid (HMN.out.trans MN)
      have HI7 := Lib.hid (HC.out.mods0 MN)
      have c0 : w7.cell? ⟨w2.heap.size, 0, none⟩ = some (.int .i64 4) := (cell_blk HR7.out 0).trans rfl
      have f0 : w7.frozen? ⟨w2.heap.size, 0, none⟩ = false := froz_blk HR7.out 0
      clear HRN HMN HIN HC HVV MN HR6 HM6 HI6
      have HRN := Lib.hid (heap_setCell (i := 0) (v := .int .i64 2) HR7.out)
      go_wp2_with (refine wpList_load_conv (C := { C with form := 2 }) rfl (.tmp 5) rfl HRN.out (by rfl) ?_)
      have HMN := Lib.hid (HM7.out.setCell (p := ⟨w2.heap.size, 0, none⟩) (.inr HGW.out) (.int .i64 2))
      have HIN := Lib.hid (HI7.out.mods (S := [w2.heap.size]) ((Mods.refl).setCell (p := ⟨w2.heap.size, 0, none⟩) (.inl (by simp)) (.int .i64 2)) (fun _ q hq hm => by have := HOW.out q hq; simp at hm; omega))
      have HC : Hid (IsConv (w7.setCell ⟨w2.heap.size, 0, none⟩ (.int .i64 2)) { C with form := 2 } P) := Lib.hid ⟨HIN.out.rd, HIN.out.pok, i64_small (x := 2) (by decide), HIN.out.m, HIN.out.b, HIN.out.k1, HIN.out.k2⟩
      have HVV := Lib.hid (value_ok _ _ P raw HC.out hraw)
      rw [HV2.out] at HVV
      refine HVV.out.mono ?_
      rintro e w8 ⟨rfl, MN⟩
      have HR8 := Lib.hid (MN.heap HRN.out (by simp))
      have HM8 := Lib.hid (HMN.out.trans MN)
      have HI8 := Lib.hid (HC.out.mods0 MN)
      have c0 : w8.cell? ⟨w2.heap.size, 0, none⟩ = some (.int .i64 2) := (cell_blk HR8.out 0).trans rfl
      have f0 : w8.frozen? ⟨w2.heap.size, 0, none⟩ = false := froz_blk HR8.out 0
      clear HRN HMN HIN HC HVV MN HR7 HM7 HI7
      have hsq := HSQ.out
      have hrc := HRC.out
      have hdc := HDC.out
      have hrb := HRB.out
      clear HSQ HRC HDC HRB HV1 HV2 HV3 HV4 c0 f0
      generalize mulV y y = s at hsq ⊢
      generalize (rootV y).1 = r at hrb ⊢
      generalize (rootV y).2 = rc at hrc ⊢
      generalize (divV 1000000 y).1 = q at ⊢
      generalize (divV 1000000 y).2 = dc at hdc ⊢
      obtain ⟨s0, s1⟩ := hsq
      obtain ⟨l0, l1⟩ := hlb
      by_cases hy : y < 0
      · rw [if_pos hy] at hrc
        rw [if_neg (by omega)] at hdc
        subst hrc hdc
        clear hrb
        have y0 : (y == 0) = false := by simp; omega
        have y1 : (y != 0) = true := by simp; omega
        go_wp2_with fail
        refine (awakeC_ok _).mono ?_
        rintro e w9 ⟨rfl, M9⟩
        go_wp2
        go_ret
        exact ⟨rfl, HM8.out.trans M9⟩
      · rw [if_neg hy] at hrc
        obtain ⟨r0, r1, r2, r3⟩ := hrb (by omega)
        obtain ⟨m1, m2⟩ := mul_bds (a := r) (b := r) (A := 1000000000) (B := 1000000000) (by omega) (by omega)
        obtain ⟨m3, m4⟩ := mul_bds (a := r + 1) (b := r + 1) (A := 1000000001) (B := 1000000001) (by omega) (by omega)
        subst hrc
        clear hrb
        by_cases hz : y = 0
        · rw [if_pos hz] at hdc
          subst hdc hz
          obtain rfl : r = 0 := by
            rcases Int.lt_or_le 0 r with h | h
            · have := Int.mul_le_mul (show (1 : Int) ≤ r from h) (show (1 : Int) ≤ r from h) (by omega) (by omega)
              omega
            · omega
          clear r2 r3 m1 m2 m3 m4
          go_wp2_with fail
          refine (awakeC_ok _).mono ?_
          rintro e w9 ⟨rfl, M9⟩
          go_wp2
          go_ret
          exact ⟨rfl, HM8.out.trans M9⟩
        · rw [if_neg hz] at hdc
          have y0 : (y == 0) = false := by simpa using hz
          have y1 : (y != 0) = true := by simpa using hz
          subst hdc
          clear hz
          go_wp2_with fail
          refine (awakeC_ok _).mono ?_
          rintro e w9 ⟨rfl, M9⟩
          go_wp2
          go_ret
          exact ⟨rfl, HM8.out.trans M9⟩
  · skip
    have HLL := Lib.hid (decide_eq_false hl)
    go_enter Try.func9, Try.ntmps9
    go_wp2_with fail
    refine HL.out.mono ?_
    rw [HLL.out]
    rintro e w' ⟨rfl, rfl⟩
    go_wp2_with fail
    refine (awakeC_ok _).mono ?_
    rintro e w1 ⟨rfl, M1⟩
    go_wp2
    go_ret
    exact ⟨rfl, M1⟩
end Go.Proofs.Ytgjjmiaiclhidaa
