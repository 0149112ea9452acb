/- ConvertReturns: the walk. -/
import Derived.Test.YtgjjmiaiclhidaaValC
import Derived.Test.YtgjjmiaiclhidaaDecE
import Derived.Test.YtgjjmiaiclhidaaDecB
import Derived.Test.YtgjjmiaiclhidaaBaseG
namespace Go.Proofs.Ytgjjmiaiclhidaa
open Go.RowKit

set_option maxRecDepth 100000 in
set_option maxHeartbeats 8000000 in
theorem convertReturns_walk (w : World) (v : Value) (L : List Int) (hv : Rd w v (i64s L)) (hb : ∀ i, -9223372036854775808 ≤ L.getD i 0 ∧ L.getD i 0 ≤ 9223372036854775807) (vr : Value) (R : List Int) (hvr : Rd w vr (u8s R)) (hbr : Bytes R) (n0 : Int) (hn0 : I64 n0) :
    Calls Try.prog 15 #[v, vr, .int .i64 n0] w fun e w' => e = .returned (.bool true) ∧ Mods [] w w' := by
  have HN0 := Lib.hid hn0
  have HVR := Lib.hid hvr
  have HBR := Lib.hid hbr
  obtain ⟨adr, capr, rfl⟩ := hvr.len
  rw [u8s_length] at HVR
  rw [u8s_length]
  have hcr : R.length ≤ 9223372036854775807 := by obtain ⟨_, _, he, h1, h2, _⟩ := hvr.u8; exact Nat.le_trans h1 h2
  clear hn0 hvr hbr
  have HL := Lib.hid (light_ok w v L hv)
  have HV := Lib.hid hv
  have HB := Lib.hid hb
  clear hv hb
  by_cases hl : L.length ≤ 600
  · by_cases hr : R.length ≤ 100
    · have dr : decide ((R.length : Int) > 100) = false := decide_eq_false (by omega)
      have HLL := Lib.hid (decide_eq_true hl)
      go_enter Try.func15, Try.ntmps15
      go_wp2_with fail
      refine HL.out.mono ?_
      rw [HLL.out]
      rintro e w' ⟨rfl, rfl⟩
      go_wp2_with fail
      refine (roll_ok w v L HV.out (by omega) HB.out).mono ?_
      rintro e w1 ⟨rfl, D1, M1, z1⟩
      go_wp2_with fail
      refine (conversion_ok w1 w.heap.size v L 0 D1).mono ?_
      rintro e w2 ⟨C, P, n2, rfl, IC, VC, OP, PL, D2, M2⟩
      have HM2 := Lib.hid (show Mods [] w w2 from M1.comp M2 (fun q hq => by simp at hq; exact .inr (by omega)))
      have HIC := Lib.hid IC
      have HVC := Lib.hid VC
      have HOW := Lib.hid (show ∀ q, C.pts.ownBlock = some q → q < w2.heap.size from fun q hq => (OP.own q hq).2)
      have HGW := Lib.hid HM2.out.size
      have HPL := Lib.hid PL
      have HONE := Lib.hid (Conv.one C IC.rd.one)
      have HD2 := Lib.hid D2
      clear D1 D2 M1 M2 VC OP IC PL
      have HLC := Lib.hid (convL_len HVC.out)
      have HBC := Lib.hid (bytes_of (convL_byt HVC.out HIC.out.pok.raw))
      have HDE := Lib.hid (fun R pv => dec_enc HVC.out R pv)
      have HDO := Lib.hid (fun R => dec_enc_ok HVC.out R)
      have HDC := Lib.hid (fun k hk => dec_cut HVC.out (k := k) hk)
      have HEN := Lib.hid (fun W (M : Mods [] w2 W) => convEnc_ok W C P (HIC.out.mods0 M))
      rw [HVC.out] at HEN
      go_wp2_with (first | (refine wpList_load_conv rfl (.tmp 7) rfl HR4.out (by rfl) ?_) | (refine wpList_store_row (cs := C.cells) rfl 26 (.tmp 7) (.tmp 27) rfl (heap_alloc_new w2 _) (by rfl) (by rfl) rfl C.infoCC HONE.out ?_; intro w4 R4 M4; have HR4 := Lib.hid R4; have HM4 := Lib.hid (HM2.out.trans (fresh M4)); have HIC4 := Lib.hid (HIC.out.mods0 (fresh M4)); have c0 : w4.cell? ⟨w2.heap.size, 0, none⟩ = some (.int .i64 C.form) := (cell_blk R4 0).trans rfl; have f0 : w4.frozen? ⟨w2.heap.size, 0, none⟩ = false := froz_blk R4 0; have HF4 := Lib.hid (fresh M4); clear M4 R4))
      refine (HEN.out _ HF4.out).mono ?_
      rintro e w5 ⟨vb, rfl, OB, M5⟩
      have hlen := HLC.out
      obtain ⟨gb, capb, cur, hvb, hgb, hcb1, hcb2, -, -⟩ := owns_form OB (by rw [u8s_length]; omega)
      have HOB := Lib.hid (show OwnB w5 w4.heap.size vb (convL C P) from OB)
      have HM5 := Lib.hid M5
      have HR5 := Lib.hid (M5.heap HR4.out (by simp))
      have HI5 := Lib.hid (HIC4.out.mods0 M5)
      have HX5 := Lib.hid (HM4.out.trans M5)
      rw [u8s_length] at hvb hcb1
      subst hvb
      have hcb3 : capb ≤ 9223372036854775807 := hcb2
      clear OB M5 hgb hcb2 c0 f0
      obtain ⟨B, hB⟩ : ∃ B, B = convL C P := ⟨_, rfl⟩
      rw [← hB] at HOB hlen HBC HDE HDO HDC hcb1
      rw [← hB]
      clear HLC hB HEN
      have hln0 : ((B.length : Int) == 0) = false := beq_eq_false_iff_ne.2 (by omega)
      have hln1 : (B.length == 0) = false := beq_eq_false_iff_ne.2 (by omega)
      have hlr : (B ++ R).length ≤ 200 := by rw [List.length_append]; omega
      have HAPP := Lib.hid (bytes_of (A := B ++ R) (fun x hx => by
        rcases List.mem_append.1 hx with h | h
        · exact of_bytes HBC.out x h
        · exact of_bytes HBR.out x h))
      go_wp2_with (first
        | (at_builtin; refine wpList_appB (by rfl) (.tmp 42) (.tmp 43) rfl (v := v6) (by rfl) HO6.out (by rfl) ((HVR.out.mods0 HX5.out).mods0 HM6.out) (by omega) (HM6.out.size) ?_; intro v7 w7 O7 M7; have HO7 := Lib.hid O7; have HM7 := Lib.hid (HM6.out.comp M7 (fun k hk => .inr (by have := HO6.out.back hk; omega))); clear O7 M7)
        | (at_builtin; refine wpList_appB (by rfl) (.const (.slice none 0 0)) (.tmp 41) rfl (v := .slice none 0 0) (by rfl) (OwnB.nil w5 w5.heap.size) (by rfl) HOB.out.rd (by simp; omega) (Nat.le_refl _) ?_; intro v6 w6 O6 M6; have HO6 := Lib.hid (show OwnB w6 w5.heap.size v6 B from O6); have HM6 := Lib.hid (show Mods [] w5 w6 from M6.mono (by simp [Value.ownBlock])); clear O6 M6))
      have HD1 := Lib.hid (convDec_ok w7 v7 (B ++ R) HO7.out.rd HAPP.out)
      refine HD1.out.mono ?_
      rintro e w8 hd8
      unfold DecRes at hd8
      rw [if_pos (HDO.out R)] at hd8
      obtain ⟨pv, rfl, OP8, M8⟩ := hd8
      obtain ⟨q1, q2, q3⟩ := HDE.out R pv
      rw [q1, q2]
      rw [q3] at OP8
      have HM8 := Lib.hid (HM7.out.trans M8)
      have HR8 := Lib.hid (HM8.out.heap HR5.out (by simp))
      have HI8 := Lib.hid (HI5.out.mods0 HM8.out)
      have HC8 : Hid (IsConv w8 (C.with pv) P) := Lib.hid ⟨OP8.rd, HI8.out.pok, HI8.out.form, HI8.out.m, HI8.out.b, HI8.out.k1, HI8.out.k2⟩
      have hone8 := Lib.hid (Conv.one (C.with pv) OP8.rd.one)
      have HOB8 := Lib.hid (HOB.out.mods0 HM8.out)
      clear q1 q2 q3 OP8 M8 HD1 HO6 HM6 HO7 HM7 HAPP
      have hmq := Int.emod_nonneg n0 (show (B.length : Int) ≠ 0 by omega)
      have hmr := Int.emod_lt_of_pos n0 (show 0 < (B.length : Int) by omega)
      obtain ⟨k, hk⟩ : ∃ k : Nat, n0 % (B.length : Int) = (k : Int) := ⟨(n0 % (B.length : Int)).toNat, by omega⟩
      have hkl : k < B.length := by omega
      have HMOD := Lib.hid (fun W => mod_ok n0 (B.length : Int) W HN0.out (by omega) (by omega))
      rw [hk] at HMOD
      clear hk hmq hmr
      go_wp2_with (refine wpList_store_row (cs := (C.with pv).cells) rfl 26 (.tmp 10) (.tmp 46) rfl (heap_alloc_new w8 _) (by rfl) (by rfl) (by rfl) (Conv.infoCC _) hone8.out ?_; intro w9 R9 M9; have HR9 := Lib.hid R9; have HF9 := Lib.hid (fresh M9); clear R9 M9)
      refine (HMOD.out _).mono ?_
      rintro e w' ⟨rfl, rfl⟩
      have HOB9 := Lib.hid (HOB8.out.mods0 HF9.out)
      have HX9 := Lib.hid (HX5.out.trans (HM8.out.trans HF9.out))
      have HQ9 := Lib.hid (HF9.out.heap HR8.out (by simp))
      have HI9 := Lib.hid (HI8.out.mods0 HF9.out)
      have HC9 := Lib.hid (HC8.out.mods0 HF9.out)
      generalize w8.heap.size = g9 at HR9 ⊢
      clear HOB8 HM8 HR8 HI8 HC8 HF9 HX5 HR5 HI5 HM5 HOB
      have i0 : (0 : Int) ≤ (k : Int) := by omega
      have i1 : (k : Int) ≤ (capb : Int) := by omega
      have HD2 := Lib.hid (fun W (M : Mods [] w9 W) => convDec_ok W _ (B.take k) (((HOB9.out.mods0 M).rd).take k (by omega)) ((HBC.out).take k))
      go_wp2_with fail
      refine (HD2.out _ Mods.refl).mono ?_
      rintro e w10 hd10
      unfold DecRes at hd10
      rw [HDC.out k hkl, if_neg (by decide)] at hd10
      obtain ⟨rfl, M10⟩ := hd10
      have HX10 := Lib.hid (HX9.out.trans M10)
      have HQ10 := Lib.hid (M10.heap HQ9.out (by simp))
      have HR10 := Lib.hid (M10.heap HR9.out (by simp))
      have HI10 := Lib.hid (HI9.out.mods0 M10)
      have HC10 := Lib.hid (HC9.out.mods0 M10)
      clear M10 HX9 HQ9 HR9 HI9 HC9 HD2
      have HSM := Lib.hid (fun W (M : Mods [] w10 W) => same04_ok W C (C.with pv) P P (HI10.out.mods0 M) (HC10.out.mods0 M))
      rw [sameC_refl (with_eq C pv)] at HSM
      have e3 : ((B.length : Int) == (B.length : Int)) = true := by simp
      go_wp2_with (first
        | (refine wpList_load_convG (C := C) (by rfl) (.tmp 7) rfl HQ11.out (by rfl) ?_)
        | (refine wpList_load_convG (C := C.with pv) (by rfl) (.tmp 10) rfl HR11.out (by rfl) ?_)
        | (refine wpList_store_row (cs := zK.cells) rfl 26 (.tmp 13) (.tmp 57) rfl (heap_alloc_new w10 _) (by rfl) (by rfl) (by rfl) (Conv.infoCC zK) zK_one ?_; intro w11 R11 M11; have HF11 := Lib.hid (fresh M11); have HQ11 := Lib.hid (HF11.out.heap HQ10.out (by simp)); have HR11 := Lib.hid (HF11.out.heap HR10.out (by simp)); clear R11 M11))
      refine (HSM.out _ HF11.out).mono ?_
      rintro e w12 ⟨rfl, M12⟩
      go_wp2_with fail
      refine (awakeC_ok _).mono ?_
      rintro e w13 ⟨rfl, M13⟩
      go_wp2
      go_ret
      exact ⟨rfl, ((HX10.out.trans HF11.out).trans M12).trans M13⟩
    · have dr : decide ((R.length : Int) > 100) = true := decide_eq_true (by omega)
      have HLL := Lib.hid (decide_eq_true hl)
      go_enter Try.func15, Try.ntmps15
      go_wp2_with fail
      refine HL.out.mono ?_
      rw [HLL.out]
      rintro e w' ⟨rfl, rfl⟩
      go_wp2_with fail
      refine (awakeC_ok _).mono ?_
      rintro e w1 ⟨rfl, M1⟩
      go_wp2
      go_ret
      exact ⟨rfl, M1⟩
  · skip
    have HLL := Lib.hid (decide_eq_false hl)
    go_enter Try.func15, Try.ntmps15
    go_wp2_with fail
    refine HL.out.mono ?_
    rw [HLL.out]
    rintro e w' ⟨rfl, rfl⟩
    go_wp2_with fail
    refine (awakeC_ok _).mono ?_
    rintro e w1 ⟨rfl, M1⟩
    go_wp2
    go_ret
    exact ⟨rfl, M1⟩
end Go.Proofs.Ytgjjmiaiclhidaa
