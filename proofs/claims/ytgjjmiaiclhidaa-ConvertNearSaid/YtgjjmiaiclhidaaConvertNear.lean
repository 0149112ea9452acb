/- ConvertNear: the walk. -/
import Derived.Test.YtgjjmiaiclhidaaValC
import Derived.Test.YtgjjmiaiclhidaaNearest
import Derived.Test.YtgjjmiaiclhidaaNearP
import Derived.Test.YtgjjmiaiclhidaaBaseF
import Derived.Test.YtgjjmiaiclhidaaBaseE
import Derived.BigGuardPart
namespace Go.Proofs.Ytgjjmiaiclhidaa
open Go.RowKit

/-- What a nearest raw reading is worth. -/
theorem near_parts {C : Conv} {P : List Pt} (hb : convB C P = true) {u : Int} (hu : -1000000000000 ≤ u ∧ u ≤ 1000000000000) {r : Nat} (hr : r < 256) (e : (valI C P r).2 = 0) :
    ∃ b : Nat, b < 256 ∧ nearI C P u = ((b : Int), 0) ∧ (valI C P b).2 = 0 ∧ (-1000000000000 ≤ (valI C P b).1 ∧ (valI C P b).1 ≤ 1000000000000) ∧ max ((valI C P b).1 - u) (u - (valI C P b).1) ≤ max ((valI C P r).1 - u) (u - (valI C P r).1) := by
  obtain ⟨-, h⟩ := nearI_spec hb u
  obtain ⟨h1, b, hb2, h3, h4, h5⟩ := h r hr e
  rw [clampI_in hu.1 hu.2] at h5
  exact ⟨b, hb2, Prod.ext h3 h1, h4, valI_bd hb b, h5⟩
set_option maxRecDepth 100000 in
set_option maxHeartbeats 8000000 in
theorem convertNear_walk (w : World) (v : Value) (L : List Int) (hv : Rd w v (i64s L)) (hb : ∀ i, -9223372036854775808 ≤ L.getD i 0 ∧ L.getD i 0 ≤ 9223372036854775807) (n0 : Int) (_hn0 : -9223372036854775808 ≤ n0 ∧ n0 ≤ 9223372036854775807) (a : Int) (ha : 0 ≤ a ∧ a ≤ 255) :
    Calls Try.prog 12 #[v, .int .i64 n0, .int .u8 a] w fun e w' => e = .returned (.bool true) ∧ Mods [] w w' := by
  obtain ⟨ra, rfl⟩ := Int.eq_ofNat_of_zero_le ha.1
  have hra : ra < 256 := by omega
  clear ha
  have HL := Lib.hid (light_ok w v L hv)
  have HV := Lib.hid hv
  have HB := Lib.hid hb
  clear hv hb
  by_cases hl : L.length ≤ 600
  · skip
    have HLL := Lib.hid (decide_eq_true hl)
    go_enter Try.func12, Try.ntmps12
    go_wp2_with fail
    refine HL.out.mono ?_
    rw [HLL.out]
    rintro e w' ⟨rfl, rfl⟩
    go_wp2_with fail
    refine (roll_ok w v L HV.out (by omega) HB.out).mono ?_
    rintro e w1 ⟨rfl, D1, M1, z1⟩
    go_wp2_with fail
    refine (conversion_ok w1 w.heap.size v L 0 D1).mono ?_
    rintro e w2 ⟨C, P, n2, rfl, IC, VC, OP, PL, D2, M2⟩
    have HM2 := Lib.hid (show Mods [] w w2 from M1.comp M2 (fun q hq => by simp at hq; exact .inr (by omega)))
    have HIC := Lib.hid IC
    have HVC := Lib.hid VC
    have HN1 := Lib.hid (show ∀ q, C.pts.ownBlock = some q → q ≠ w.heap.size from fun q hq => by have h1 := (OP.own q hq).1; have := D1.lt; omega)
    have hlt : w.heap.size < w2.heap.size := D2.lt
    have HONE := Lib.hid (Conv.one C IC.rd.one)
    have HD2 := Lib.hid D2
    clear D1 D2 M1 M2 VC OP IC PL
    go_wp2_with (first | fail | (refine wpList_store_row (cs := C.cells) rfl 26 (.tmp 8) (.tmp 27) rfl (heap_alloc_new w2 _) (by rfl) (by rfl) rfl C.infoCC HONE.out ?_; intro w4 R4 M4; have HR4 := Lib.hid R4; have HM4 := Lib.hid (HM2.out.trans (fresh M4)); have HIC4 := Lib.hid (HIC.out.mods0 (fresh M4)); have c0 : w4.cell? ⟨w2.heap.size, 0, none⟩ = some (.int .i64 C.form) := (cell_blk R4 0).trans rfl; have f0 : w4.frozen? ⟨w2.heap.size, 0, none⟩ = false := froz_blk R4 0; have HD4 := Lib.hid (HD2.out.mods0 (fresh M4)); clear M4 R4))
    refine (micro_ok w4 w.heap.size v L n2 HD4.out).mono ?_
    rintro e w5 ⟨x, n3, rfl, hx1, hx2, D5, M5⟩
    have HM5 := Lib.hid (show Mods [] w w5 from HM4.out.comp M5 (fun q hq => by simp at hq; exact .inr (by omega)))
    have HR5 := Lib.hid (M5.heap HR4.out (by simp; omega))
    have HI5 := Lib.hid (HIC4.out.mods M5 (fun _ q hq => by simpa using HN1.out q hq))
    have HD5 := Lib.hid D5
    clear D5 M5 HM4 HR4 HIC4 HD4 HD2 HIC HM2 c0 f0
    go_wp2_with fail
    refine (bool_ok w5 w.heap.size v L n3 HD5.out 2 (by omega) (by omega)).mono ?_
    rintro e w6 ⟨r, n4, rfl, D6, M6⟩
    have HM6 := Lib.hid (show Mods [] w w6 from HM5.out.comp M6 (fun q hq => by simp at hq; exact .inr (by omega)))
    have HR6 := Lib.hid (M6.heap HR5.out (by simp; omega))
    have HI6 := Lib.hid (HI5.out.mods M6 (fun _ q hq => by simpa using HN1.out q hq))
    clear D6 M6 HM5 HR5 HI5 HD5 HN1
    have HVA := Lib.hid (valueI_of HVC.out)
    have hva := valI_bd HVC.out ra
    generalize w2.heap.size = g at *
    have CL := Lib.hid (refClamp_ok n0)
    cases r with
    | true =>
      have HUB := Lib.hid (clampI_bd n0)
      go_wp2_with fail
      refine (CL.out _).mono ?_
      rintro e w' ⟨rfl, rfl⟩
      generalize clampI n0 = u at *
      go_wp2_with (refine wpList_load_conv (C := C) rfl (.tmp 8) rfl HR6.out (by rfl) ?_)
      have V1 := Lib.hid (fun W (M : Mods [] w6 W) => value_ok W C P ra (HI6.out.mods0 M) hra)
      have N1 := Lib.hid (fun W (M : Mods [] w6 W) => nearest_ok W C P u (HI6.out.mods0 M))
      have N2 := Lib.hid (fun W (M : Mods [] w6 W) => nearest_ok W C P (valI C P ra).1 (HI6.out.mods0 M))
      rw [HVA.out] at V1
      have NS := (nearI_spec HVC.out u).1
      refine (V1.out _ Mods.refl).mono ?_
      rintro e w7 ⟨rfl, M7⟩
      have HM7 := Lib.hid M7
      have HR7 := Lib.hid (M7.heap HR6.out (by simp))
      clear M7
      go_wp2_with (refine wpList_load_conv (C := C) rfl (.tmp 8) rfl HR7.out (by rfl) ?_)
      by_cases he : (valI C P ra).2 = 0
      · obtain ⟨bu, hbu, eu, cu, bdu, leu⟩ := near_parts HVC.out HUB.out hra he
        obtain ⟨bo, hbo, eo, co, bdo, leo⟩ := near_parts HVC.out hva hra he
        have V3 := Lib.hid (fun W (M : Mods [] w6 W) => value_ok W C P bu (HI6.out.mods0 M) hbu)
        have V4 := Lib.hid (fun W (M : Mods [] w6 W) => value_ok W C P bo (HI6.out.mods0 M) hbo)
        rw [HVA.out, cu] at V3
        rw [HVA.out, co] at V4
        rw [eu] at N1
        rw [eo] at N2
        have eqo : (valI C P bo).1 = (valI C P ra).1 := by omega
        rw [eqo] at V4
        have ub := HUB.out
        clear eqo leo co cu eu eo bdo HVC HVA NS V1
        rw [he]
        clear he
        generalize (valI C P bu).1 = vb at *
        generalize (valI C P ra).1 = va at *
        refine (N1.out _ HM7.out).mono ?_
        rintro e w8 ⟨rfl, M8⟩
        have HM8 := Lib.hid (HM7.out.trans M8)
        have HR8 := Lib.hid (M8.heap HR7.out (by simp))
        clear M8 HR7 HM7
        go_wp2_with (refine wpList_load_conv (C := C) rfl (.tmp 8) rfl HR8.out (by rfl) ?_)
        refine (N2.out _ HM8.out).mono ?_
        rintro e w9 ⟨rfl, M9⟩
        have HM9 := Lib.hid (HM8.out.trans M9)
        have HR9 := Lib.hid (M9.heap HR8.out (by simp))
        clear M9 HR8 HM8
        go_wp2_with (refine wpList_load_conv (C := C) rfl (.tmp 8) rfl HR9.out (by rfl) ?_)
        refine (V3.out _ HM9.out).mono ?_
        rintro e w11 ⟨rfl, M11⟩
        have HM11 := Lib.hid (HM9.out.trans M11)
        have HR11 := Lib.hid (M11.heap HR9.out (by simp))
        clear M11 HR9 HM9
        go_wp2_with (refine wpList_load_conv (C := C) rfl (.tmp 8) rfl HR11.out (by rfl) ?_)
        refine (V4.out _ HM11.out).mono ?_
        rintro e w12 ⟨rfl, M12⟩
        have HX := Lib.hid (HM6.out.trans (HM11.out.trans M12))
        clear M12 HR11 HM11 V3 V4 N1 N2 HI6 HM6
        have e5 : (va == va) = true := by simp
        have leu2 : (if vb - u < u - vb then u - vb else vb - u) ≤ (if va - u < u - va then u - va else va - u) := by split <;> split <;> omega
        clear leu
        obtain ⟨ub1, ub2⟩ := ub
        obtain ⟨va1, va2⟩ := hva
        obtain ⟨vb1, vb2⟩ := bdu
        rcases Int.lt_or_le (vb - u) (u - vb) with h1 | h1
        · rw [if_pos h1] at leu2
          rcases Int.lt_or_le (va - u) (u - va) with h2 | h2
          · rw [if_pos h2] at leu2
            go_wp2_with fail
            refine (awakeC_ok _).mono ?_
            rintro e w10 ⟨rfl, M10⟩
            go_wp2
            go_ret
            exact ⟨rfl, HX.out.trans M10⟩
          · rw [if_neg (by omega)] at leu2
            go_wp2_with fail
            refine (awakeC_ok _).mono ?_
            rintro e w10 ⟨rfl, M10⟩
            go_wp2
            go_ret
            exact ⟨rfl, HX.out.trans M10⟩
        · rw [if_neg (by omega)] at leu2
          rcases Int.lt_or_le (va - u) (u - va) with h2 | h2
          · rw [if_pos h2] at leu2
            go_wp2_with fail
            refine (awakeC_ok _).mono ?_
            rintro e w10 ⟨rfl, M10⟩
            go_wp2
            go_ret
            exact ⟨rfl, HX.out.trans M10⟩
          · rw [if_neg (by omega)] at leu2
            go_wp2_with fail
            refine (awakeC_ok _).mono ?_
            rintro e w10 ⟨rfl, M10⟩
            go_wp2
            go_ret
            exact ⟨rfl, HX.out.trans M10⟩
      · have q0 : ((valI C P ra).2 != 0) = true := by simpa using he
        have HV0 := Lib.hid q0
        clear he q0 V1
        generalize (nearI C P u).1 = nb at *
        generalize (nearI C P u).2 = ne at *
        generalize (nearI C P (valI C P ra).1).1 = ob at *
        generalize (nearI C P (valI C P ra).1).2 = oe at *
        generalize (valI C P ra).1 = va at *
        generalize (valI C P ra).2 = ea at *
        refine (N1.out _ HM7.out).mono ?_
        rintro e w8 ⟨rfl, M8⟩
        have HM8 := Lib.hid (HM7.out.trans M8)
        have HR8 := Lib.hid (M8.heap HR7.out (by simp))
        clear M8 HR7 HM7
        go_wp2_with (refine wpList_load_conv (C := C) rfl (.tmp 8) rfl HR8.out (by rfl) ?_)
        refine (N2.out _ HM8.out).mono ?_
        rintro e w9 ⟨rfl, M9⟩
        have HM9 := Lib.hid (HM8.out.trans M9)
        have HR9 := Lib.hid (M9.heap HR8.out (by simp))
        clear M9 HR8 HM8
        have HX := Lib.hid (HM6.out.trans HM9.out)
        have q0 := HV0.out
        clear N1 N2
        rcases NS with rfl | rfl
        · go_wp2_with fail
          refine (awakeC_ok _).mono ?_
          rintro e w10 ⟨rfl, M10⟩
          go_wp2
          go_ret
          exact ⟨rfl, HX.out.trans M10⟩
        · go_wp2_with fail
          refine (awakeC_ok _).mono ?_
          rintro e w10 ⟨rfl, M10⟩
          go_wp2
          go_ret
          exact ⟨rfl, HX.out.trans M10⟩
    | false =>
      have HUB := Lib.hid (And.intro hx1 hx2)
      clear hx1 hx2
      go_wp2_with (refine wpList_load_conv (C := C) rfl (.tmp 8) rfl HR6.out (by rfl) ?_)
      have V1 := Lib.hid (fun W (M : Mods [] w6 W) => value_ok W C P ra (HI6.out.mods0 M) hra)
      have N1 := Lib.hid (fun W (M : Mods [] w6 W) => nearest_ok W C P x (HI6.out.mods0 M))
      have N2 := Lib.hid (fun W (M : Mods [] w6 W) => nearest_ok W C P (valI C P ra).1 (HI6.out.mods0 M))
      rw [HVA.out] at V1
      have NS := (nearI_spec HVC.out x).1
      refine (V1.out _ Mods.refl).mono ?_
      rintro e w7 ⟨rfl, M7⟩
      have HM7 := Lib.hid M7
      have HR7 := Lib.hid (M7.heap HR6.out (by simp))
      clear M7
      go_wp2_with (refine wpList_load_conv (C := C) rfl (.tmp 8) rfl HR7.out (by rfl) ?_)
      by_cases he : (valI C P ra).2 = 0
      · obtain ⟨bu, hbu, eu, cu, bdu, leu⟩ := near_parts HVC.out HUB.out hra he
        obtain ⟨bo, hbo, eo, co, bdo, leo⟩ := near_parts HVC.out hva hra he
        have V3 := Lib.hid (fun W (M : Mods [] w6 W) => value_ok W C P bu (HI6.out.mods0 M) hbu)
        have V4 := Lib.hid (fun W (M : Mods [] w6 W) => value_ok W C P bo (HI6.out.mods0 M) hbo)
        rw [HVA.out, cu] at V3
        rw [HVA.out, co] at V4
        rw [eu] at N1
        rw [eo] at N2
        have eqo : (valI C P bo).1 = (valI C P ra).1 := by omega
        rw [eqo] at V4
        have ub := HUB.out
        clear eqo leo co cu eu eo bdo HVC HVA NS V1
        rw [he]
        clear he
        generalize (valI C P bu).1 = vb at *
        generalize (valI C P ra).1 = va at *
        refine (N1.out _ HM7.out).mono ?_
        rintro e w8 ⟨rfl, M8⟩
        have HM8 := Lib.hid (HM7.out.trans M8)
        have HR8 := Lib.hid (M8.heap HR7.out (by simp))
        clear M8 HR7 HM7
        go_wp2_with (refine wpList_load_conv (C := C) rfl (.tmp 8) rfl HR8.out (by rfl) ?_)
        refine (N2.out _ HM8.out).mono ?_
        rintro e w9 ⟨rfl, M9⟩
        have HM9 := Lib.hid (HM8.out.trans M9)
        have HR9 := Lib.hid (M9.heap HR8.out (by simp))
        clear M9 HR8 HM8
        go_wp2_with (refine wpList_load_conv (C := C) rfl (.tmp 8) rfl HR9.out (by rfl) ?_)
        refine (V3.out _ HM9.out).mono ?_
        rintro e w11 ⟨rfl, M11⟩
        have HM11 := Lib.hid (HM9.out.trans M11)
        have HR11 := Lib.hid (M11.heap HR9.out (by simp))
        clear M11 HR9 HM9
        go_wp2_with (refine wpList_load_conv (C := C) rfl (.tmp 8) rfl HR11.out (by rfl) ?_)
        refine (V4.out _ HM11.out).mono ?_
        rintro e w12 ⟨rfl, M12⟩
        have HX := Lib.hid (HM6.out.trans (HM11.out.trans M12))
        clear M12 HR11 HM11 V3 V4 N1 N2 HI6 HM6
        have e5 : (va == va) = true := by simp
        have leu2 : (if vb - x < x - vb then x - vb else vb - x) ≤ (if va - x < x - va then x - va else va - x) := by split <;> split <;> omega
        clear leu
        obtain ⟨ub1, ub2⟩ := ub
        obtain ⟨va1, va2⟩ := hva
        obtain ⟨vb1, vb2⟩ := bdu
        rcases Int.lt_or_le (vb - x) (x - vb) with h1 | h1
        · rw [if_pos h1] at leu2
          rcases Int.lt_or_le (va - x) (x - va) with h2 | h2
          · rw [if_pos h2] at leu2
            go_wp2_with fail
            refine (awakeC_ok _).mono ?_
            rintro e w10 ⟨rfl, M10⟩
            go_wp2
            go_ret
            exact ⟨rfl, HX.out.trans M10⟩
          · rw [if_neg (by omega)] at leu2
            go_wp2_with fail
            refine (awakeC_ok _).mono ?_
            rintro e w10 ⟨rfl, M10⟩
            go_wp2
            go_ret
            exact ⟨rfl, HX.out.trans M10⟩
        · rw [if_neg (by omega)] at leu2
          rcases Int.lt_or_le (va - x) (x - va) with h2 | h2
          · rw [if_pos h2] at leu2
            go_wp2_with fail
            refine (awakeC_ok _).mono ?_
            rintro e w10 ⟨rfl, M10⟩
            go_wp2
            go_ret
            exact ⟨rfl, HX.out.trans M10⟩
          · rw [if_neg (by omega)] at leu2
            go_wp2_with fail
            refine (awakeC_ok _).mono ?_
            rintro e w10 ⟨rfl, M10⟩
            go_wp2
            go_ret
            exact ⟨rfl, HX.out.trans M10⟩
      · have q0 : ((valI C P ra).2 != 0) = true := by simpa using he
        have HV0 := Lib.hid q0
        clear he q0 V1
        generalize (nearI C P x).1 = nb at *
        generalize (nearI C P x).2 = ne at *
        generalize (nearI C P (valI C P ra).1).1 = ob at *
        generalize (nearI C P (valI C P ra).1).2 = oe at *
        generalize (valI C P ra).1 = va at *
        generalize (valI C P ra).2 = ea at *
        refine (N1.out _ HM7.out).mono ?_
        rintro e w8 ⟨rfl, M8⟩
        have HM8 := Lib.hid (HM7.out.trans M8)
        have HR8 := Lib.hid (M8.heap HR7.out (by simp))
        clear M8 HR7 HM7
        go_wp2_with (refine wpList_load_conv (C := C) rfl (.tmp 8) rfl HR8.out (by rfl) ?_)
        refine (N2.out _ HM8.out).mono ?_
        rintro e w9 ⟨rfl, M9⟩
        have HM9 := Lib.hid (HM8.out.trans M9)
        have HR9 := Lib.hid (M9.heap HR8.out (by simp))
        clear M9 HR8 HM8
        have HX := Lib.hid (HM6.out.trans HM9.out)
        have q0 := HV0.out
        clear N1 N2
        rcases NS with rfl | rfl
        · go_wp2_with fail
          refine (awakeC_ok _).mono ?_
          rintro e w10 ⟨rfl, M10⟩
          go_wp2
          go_ret
          exact ⟨rfl, HX.out.trans M10⟩
        · go_wp2_with fail
          refine (awakeC_ok _).mono ?_
          rintro e w10 ⟨rfl, M10⟩
          go_wp2
          go_ret
          exact ⟨rfl, HX.out.trans M10⟩
  · skip
    have HLL := Lib.hid (decide_eq_false hl)
    go_enter Try.func12, Try.ntmps12
    go_wp2_with fail
    refine HL.out.mono ?_
    rw [HLL.out]
    rintro e w' ⟨rfl, rfl⟩
    go_wp2_with fail
    refine (awakeC_ok _).mono ?_
    rintro e w1 ⟨rfl, M1⟩
    go_wp2
    go_ret
    exact ⟨rfl, M1⟩
end Go.Proofs.Ytgjjmiaiclhidaa
