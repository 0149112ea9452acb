/- ConvertBytes: the walk. -/
import Derived.Test.YtgjjmiaiclhidaaValC
import Derived.Test.YtgjjmiaiclhidaaValD
import Derived.Test.YtgjjmiaiclhidaaBytesP
import Derived.Test.YtgjjmiaiclhidaaBaseG
namespace Go.Proofs.Ytgjjmiaiclhidaa
open Go.RowKit

set_option maxRecDepth 100000 in
set_option maxHeartbeats 8000000 in
theorem convertBytes_walk (w : World) (C0 : Conv) (P0 : List Pt) (hC0 : ConvIn w C0 P0) (v : Value) (L : List Int) (hv : Rd w v (i64s L)) (hb : ∀ i, -9223372036854775808 ≤ L.getD i 0 ∧ L.getD i 0 ≤ 9223372036854775807) (vr : Value) (R : List Int) (hvr : Rd w vr (u8s R)) (hbr : Bytes R) (n0 : Int) (hn0 : I64 n0) :
    Calls Try.prog 14 #[.agg C0.cells, v, vr, .int .i64 n0] w fun e w' => e = .returned (.bool true) ∧ Mods [] w w' := by
  have HN0 := Lib.hid hn0
  have HVR := Lib.hid hvr
  have HBR := Lib.hid hbr
  obtain ⟨adr, capr, rfl⟩ := hvr.len
  rw [u8s_length] at HVR
  rw [u8s_length]
  have hcr : R.length ≤ 9223372036854775807 := by obtain ⟨_, _, he, h1, h2, _⟩ := hvr.u8; exact Nat.le_trans h1 h2
  have HI := Lib.hid hC0
  have BB := Lib.hid (heap_alloc_new w (.cells C0.cells 26))
  have M0 := Lib.hid ((Mods.refl (S := []) (w := w)).alloc (.cells C0.cells 26))
  clear hC0 hn0 hvr hbr
  by_cases hl0 : P0.length ≤ 30
  · have HLT := Lib.hid (decide_eq_true hl0)
    have HL := Lib.hid (light_ok w v L hv)
    have HV := Lib.hid hv
    have HB := Lib.hid hb
    clear hv hb
    by_cases hl : L.length ≤ 600
    · have HLL := Lib.hid (decide_eq_true hl)
      have HLM := Lib.hid (fun W (M : Mods [] w W) => light_ok W v L (HV.out.mods0 M))
      by_cases hr : R.length ≤ 200
      · have dr : decide ((R.length : Int) > 200) = false := decide_eq_false (by omega)
        go_enter Try.func14, Try.ntmps14
        go_wp2_with (refine wpList_load_conv rfl (.tmp 4) rfl BB.out (by rfl) ?_)
        refine (cLight_ok _ C0 P0 (HI.out.mods0 M0.out).rd).mono ?_
        rw [HLT.out]
        rintro e w0 ⟨rfl, Mx⟩
        have HX := Lib.hid (M0.out.trans Mx)
        have HB0 := Lib.hid (Mx.heap BB.out (by simp))
        clear Mx
        go_wp2_with fail
        refine (HLM.out _ HX.out).mono ?_
        rw [HLL.out]
        rintro e w' ⟨rfl, rfl⟩
        go_wp2_with fail
        refine (roll_ok _ v L (HV.out.mods0 HX.out) (by omega) HB.out).mono ?_
        rintro e w1 ⟨rfl, D1, M1, z1⟩
        go_wp2_with fail
        refine (conversion_ok w1 w0.heap.size v L 0 D1).mono ?_
        rintro e w2 ⟨C, P, n2, rfl, IC, VC, OP, PL, D2, M2⟩
        have HM2 := Lib.hid (show Mods [] w w2 from HX.out.trans (M1.comp M2 (fun q hq => by simp at hq; exact .inr (by omega))))
        have HB2 := Lib.hid ((M1.comp M2 (fun q hq => by simp at hq; exact .inr (by omega) : ∀ q ∈ [w0.heap.size], q ∈ [] ∨ w0.heap.size ≤ q)).heap HB0.out (by simp))
        have HIC := Lib.hid IC
        have HVC := Lib.hid VC
        have HONE := Lib.hid (Conv.one C IC.rd.one)
        have HI0 := Lib.hid ((HI.out.is (by omega)).mods0 HM2.out)
        have hg0 : w.heap.size < w2.heap.size := lt_of_block HB2.out
        clear D1 D2 M1 M2 VC OP IC PL HX HB0 M0 HLM HV HB HLL HLT
        go_wp2_with (first
          | (refine wpList_load_conv (C := C0) rfl (.tmp 4) rfl HB4.out (by rfl) ?_)
          | (refine wpList_store_row (cs := C.cells) rfl 26 (.tmp 9) (.tmp 43) rfl (heap_alloc_new w2 _) (by rfl) (by rfl) rfl C.infoCC HONE.out ?_; intro w4 R4 M4; have HR4 := Lib.hid R4; have HF4 := Lib.hid (fresh M4); have HB4 := Lib.hid ((fresh M4).heap HB2.out (by simp)); clear M4 R4))
        have HM4 := Lib.hid (HM2.out.trans HF4.out)
        have HI4 := Lib.hid (HI0.out.mods0 HF4.out)
        have HC4 := Lib.hid (HIC.out.mods0 HF4.out)
        clear HM2 HI0 HIC HB2
        refine (convEnc_ok w4 C0 P0 HI4.out).mono ?_
        rintro e w5 h5
        obtain ⟨v5, rfl, O5, M5⟩ := encAny h5
        have HO5 := Lib.hid O5
        have HM5 := Lib.hid M5
        have HB5 := Lib.hid (M5.heap HB4.out (by simp))
        clear O5 M5 h5
        go_wp2_with (refine wpList_load_conv (C := C0) rfl (.tmp 4) rfl HB5.out (by rfl) ?_)
        refine (refEnc_ok w5 C0 P0 (HI4.out.mods0 HM5.out)).mono ?_
        rintro e w6 h6
        obtain ⟨v6, rfl, O6, M6⟩ := encAny h6
        have HO6 := Lib.hid O6
        have HM6 := Lib.hid (HM5.out.trans M6)
        have HO5 := Lib.hid (HO5.out.mods0 M6)
        have HR6 := Lib.hid (HM6.out.heap HR4.out (by simp))
        clear O6 M6 h6 HB5
        go_wp2_with (refine wpList_load_conv (C := C) rfl (.tmp 9) rfl HR6.out (by rfl) ?_)
        refine (convEnc_ok w6 C P (HC4.out.mods0 HM6.out)).mono ?_
        rintro e w7 h7
        obtain ⟨v7, rfl, O7, M7⟩ := encAny h7
        rw [HVC.out] at O7
        rw [HVC.out]
        have HO7 := Lib.hid (show OwnB w7 w6.heap.size v7 (convL C P) from O7)
        have HM7 := Lib.hid (HM6.out.trans M7)
        have HO5 := Lib.hid (HO5.out.mods0 M7)
        have HO6 := Lib.hid (HO6.out.mods0 M7)
        have HR7 := Lib.hid (M7.heap HR6.out (by simp))
        clear O7 M7 h7 HR6
        go_wp2_with (refine wpList_load_conv (C := C) rfl (.tmp 9) rfl HR7.out (by rfl) ?_)
        refine (refEnc_ok w7 C P (HC4.out.mods0 HM7.out)).mono ?_
        rintro e w8 h8
        obtain ⟨v8, rfl, O8, M8⟩ := encAny h8
        rw [HVC.out] at O8
        rw [HVC.out]
        have HO8 := Lib.hid (show OwnB w8 w7.heap.size v8 (convL C P) from O8)
        have HM8 := Lib.hid (HM7.out.trans M8)
        have HO5 := Lib.hid (HO5.out.mods0 M8)
        have HO6 := Lib.hid (HO6.out.mods0 M8)
        have HO7 := Lib.hid (HO7.out.mods0 M8)
        clear O8 M8 h8 HR7
        have HLC := Lib.hid (convL_len HVC.out)
        have HBC := Lib.hid (bytes_of (convL_byt HVC.out HC4.out.pok.raw))
        generalize encE (convB C0 P0) = ee at *
        have ee1 : (ee != ee) = false := by simp
        generalize encA (convB C0 P0) (convL C0 P0) = X0 at *
        have HS1 := Lib.hid (fun W (M : Mods [] w8 W) => same_ok W v5 v6 X0 X0 (HO5.out.rd.mods0 M) (HO6.out.rd.mods0 M))
        rw [beq_self_eq_true] at HS1
        go_wp2_with fail
        refine (HS1.out _ Mods.refl).mono ?_
        rintro e w9 ⟨rfl, n9, hw9⟩
        have HM9 : Hid (Mods [] w8 w9) := Lib.hid (by rw [hw9]; exact Mods.refl.drewN _)
        clear hw9
        have HS2 := Lib.hid (same_ok w9 v7 v8 (convL C P) (convL C P) (HO7.out.rd.mods0 HM9.out) (HO8.out.rd.mods0 HM9.out))
        rw [beq_self_eq_true] at HS2
        rw [show encE true = 0 from rfl]
        go_wp2_with fail
        refine HS2.out.mono ?_
        rintro e w10 ⟨rfl, n10, hw10⟩
        have HM10 : Hid (Mods [] w8 w10) := Lib.hid (by rw [hw10]; exact HM9.out.drewN _)
        have HO10 := Lib.hid (HO8.out.mods0 HM10.out)
        have HX10 := Lib.hid (HM4.out.trans (HM8.out.trans HM10.out))
        clear hw10 HM9 HS1 HS2 HO5 HO6 HO7 HO8
        have hlen := HLC.out
        obtain ⟨B, hB⟩ : ∃ B, B = convL C P := ⟨_, rfl⟩
        rw [← hB] at HO10 hlen HBC
        clear hB HLC
        obtain ⟨gz, capz, cz, hvz, -, hcz1, hcz2, -, -⟩ := owns_form HO10.out (by rw [u8s_length]; omega)
        rw [u8s_length] at hvz hcz1
        subst hvz
        have hcz3 : capz ≤ 9223372036854775807 := hcz2
        have HAW := Lib.hid (fun (W : World) => awakeC_ok W)
        by_cases hR0 : R.length = 0
        · have d0 : decide ((R.length : Int) > 0) = false := decide_eq_false (by omega)
          have d0' : decide (R.length > 0) = false := decide_eq_false (by omega)
          clear hR0
          go_wp2_with (at_builtin; refine wpList_appB (by rfl) (.const (.slice none 0 0)) (.tmp 83) rfl (v := .slice none 0 0) (by rfl) (OwnB.nil w10 w10.heap.size) (by rfl) HO10.out.rd (by simp; omega) (Nat.le_refl _) ?_; intro v11 w11 O11 M11; obtain ⟨gb, capb, cb, hvb, -, hcb1, hcb2, -, -⟩ := owns_form (show OwnB w11 w10.heap.size v11 B from O11) (by rw [u8s_length]; omega); rw [u8s_length] at hvb hcb1; subst hvb; have hcb3 : capb ≤ 9223372036854775807 := hcb2; have RB := Lib.hid (show OwnB w11 w10.heap.size _ B from O11).rd; have HM11 := Lib.hid (show Mods [] w10 w11 from M11.mono (by simp [Value.ownBlock])); have HMR := Lib.hid (HX10.out.trans HM11.out); have RZ := Lib.hid (HO10.out.mods0 HM11.out).rd; have BBD := Lib.hid HBC.out; clear O11 M11)
          have hmq := Int.emod_nonneg n0 (show (B.length : Int) + 1 ≠ 0 by omega)
          have hmr := Int.emod_lt_of_pos n0 (show 0 < (B.length : Int) + 1 by omega)
          obtain ⟨k, hk⟩ : ∃ k : Nat, n0 % ((B.length : Int) + 1) = (k : Int) := ⟨(n0 % ((B.length : Int) + 1)).toNat, by omega⟩
          have hkl : k ≤ B.length := by omega
          have HMOD := Lib.hid (fun W => mod_ok n0 ((B.length : Int) + 1) W HN0.out (by omega) (by omega))
          rw [hk] at HMOD
          clear hk hmq hmr
          have i0 : (0 : Int) ≤ (k : Int) := by omega
          have i1 : (k : Int) ≤ (capz : Int) := by omega
          go_wp2_with fail
          refine (HMOD.out _).mono ?_
          rintro e w' ⟨rfl, rfl⟩
          go_wp2_with fail
          have R13 := heap_alloc_new w11 (.cells #[.slice adr R.length capr, .slice (some ⟨gz, 0, none⟩) k capz, .slice (some ⟨gb, 0, none⟩) B.length capb] 33)
          have M13 := (Mods.refl (S := []) (w := w11)).alloc (.cells #[.slice adr R.length capr, .slice (some ⟨gz, 0, none⟩) k capz, .slice (some ⟨gb, 0, none⟩) B.length capb] 33)
          have HM13 := Lib.hid (HMR.out.trans M13)
          have HSQ : Hid (∀ q, q < 3 → ∃ ad n cap X, (w11.alloc (.cells #[.slice adr R.length capr, .slice (some ⟨gz, 0, none⟩) k capz, .slice (some ⟨gb, 0, none⟩) B.length capb] 33)).cell? ⟨w11.heap.size, q, none⟩ = some (.slice ad n cap) ∧ Rd (w11.alloc (.cells #[.slice adr R.length capr, .slice (some ⟨gz, 0, none⟩) k capz, .slice (some ⟨gb, 0, none⟩) B.length capb] 33)) (.slice ad n cap) (u8s X) ∧ Bytes X) := Lib.hid (fun q hq => by
            match q, hq with
            | 0, _ => exact ⟨_, _, _, R, (cell_blk R13 0).trans rfl, (HVR.out.mods0 HMR.out).mods0 M13, HBR.out⟩
            | 1, _ => exact ⟨_, _, _, B.take k, (cell_blk R13 1).trans rfl, ((RZ.out).mods0 M13).take k hkl, HBC.out.take k⟩
            | 2, _ => exact ⟨_, _, _, B, (cell_blk R13 2).trans rfl, (RB.out).mods0 M13, BBD.out⟩)
          clear R13 M13 HMOD
          generalize w11.alloc (.cells #[.slice adr R.length capr, .slice (some ⟨gz, 0, none⟩) k capz, .slice (some ⟨gb, 0, none⟩) B.length capb] 33) = w13 at HM13 HSQ ⊢
          generalize w11.heap.size = gx at HSQ ⊢
          go_loopw [108] (fun i wr => ∃ q : Nat, q ≤ 3 ∧ i = .int .i64 q ∧ Mods [] w13 wr) (fun i _ => 3 - (intOf i).toNat)
          case atStart => exact ⟨0, by omega, rfl, Mods.refl⟩
          case round =>
            obtain ⟨q, hq, rfl, M⟩ := hrel
            by_cases hq3 : q < 3
            · obtain ⟨ad, n, cap, X, hcx, hrx, hbx⟩ := HSQ.out q hq3
              have hc := M.cell hcx (by simp)
              have HRX := Lib.hid (hrx.mods0 M)
              have HBX := Lib.hid hbx
              have HM := Lib.hid M
              have j1 : (0 : Int) ≤ (q : Int) := by omega
              have j2 : (q : Int) < 3 := by omega
              clear M hcx hrx hbx
              go_wp2_with fail
              refine (convDec_ok _ _ X HRX.out HBX.out).mono ?_
              rintro e w15 h15
              obtain ⟨pv, rfl, I15, M15⟩ := decAny HBX.out h15
              have HI15 := Lib.hid I15
              have HM15 := Lib.hid M15
              have hone15 := Lib.hid (Conv.one _ I15.rd.one)
              clear I15 M15 h15
              go_wp2_with (refine wpList_store_row (cs := (resC X pv).cells) rfl 26 (.tmp 21) (.tmp 115) rfl (heap_alloc_new w15 _) (by rfl) (by rfl) (by rfl) (Conv.infoCC _) hone15.out ?_; intro w16 R16 M16; have HR16 := Lib.hid R16; have HF16 := Lib.hid (fresh M16); clear R16 M16)
              refine (refDec_ok _ _ X ((HRX.out.mods0 HM15.out).mods0 HF16.out) HBX.out).mono ?_
              rintro e w17 h17
              obtain ⟨pv2, rfl, I17, M17⟩ := decAny HBX.out h17
              have HI17 := Lib.hid I17
              have HM17 := Lib.hid M17
              have hone17 := Lib.hid (Conv.one _ I17.rd.one)
              have HR17 := Lib.hid (M17.heap HR16.out (by simp))
              have HQ17 := Lib.hid ((HI15.out.mods0 HF16.out).mods0 M17)
              clear I17 M17 h17 HR16 HI15
              generalize w15.heap.size = g21 at HR17 ⊢
              have HSM := Lib.hid (fun W (M : Mods [] w17 W) => same04_ok W (resC X pv) (resC X pv2) (resP X) (resP X) (HQ17.out.mods0 M) (HI17.out.mods0 M))
              rw [res_same] at HSM
              generalize resC X pv = C1 at *
              generalize resC X pv2 = C2 at *
              generalize errC X = ec at *
              generalize resN X = nc at *
              have e1 : (ec != ec) = false := by simp
              have e2 : (nc != nc) = false := by simp
              go_wp2_with (first
                | (refine wpList_load_convG (C := C1) (by rfl) (.tmp 21) rfl HQ18.out (by rfl) ?_)
                | (refine wpList_load_convG (C := C2) (by rfl) (.tmp 24) rfl HR18.out (by rfl) ?_)
                | (refine wpList_store_row (cs := C2.cells) rfl 26 (.tmp 24) (.tmp 121) rfl (heap_alloc_new w17 _) (by rfl) (by rfl) (by rfl) (Conv.infoCC _) hone17.out ?_; intro w18 R18 M18; have HR18 := Lib.hid R18; have HF18 := Lib.hid (fresh M18); have HQ18 := Lib.hid ((fresh M18).heap HR17.out (by simp)); clear R18 M18))
              refine (HSM.out _ HF18.out).mono ?_
              rintro e w19 ⟨rfl, M19⟩
              have HMX := Lib.hid (((((HM.out.trans HM15.out).trans HF16.out).trans HM17.out).trans HF18.out).trans M19)
              clear M19
              go_wp2_with fail
              exact ⟨⟨q + 1, by omega, by go_num, HMX.out⟩, by simp only [intOf]; omega⟩
            · have HMX := Lib.hid (HM13.out.trans M)
              clear M
              go_wp2_with fail
              refine (HAW.out _).mono ?_
              rintro e w20 ⟨rfl, M20⟩
              go_wp2
              go_ret
              exact ⟨rfl, HMX.out.trans M20⟩
        · have d0 : decide ((R.length : Int) > 0) = true := decide_eq_true (by omega)
          have d0' : decide (R.length > 0) = true := decide_eq_true (by omega)
          go_wp2_with (at_builtin; refine wpList_appB (by rfl) (.const (.slice none 0 0)) (.tmp 83) rfl (v := .slice none 0 0) (by rfl) (OwnB.nil w10 w10.heap.size) (by rfl) HO10.out.rd (by simp; omega) (Nat.le_refl _) ?_; intro v11 w11 O11 M11; obtain ⟨gb, capb, cb, hvb, -, hcb1, hcb2, -, -⟩ := owns_form (show OwnB w11 w10.heap.size v11 B from O11) (by rw [u8s_length]; omega); rw [u8s_length] at hvb hcb1; subst hvb; have hcb3 : capb ≤ 9223372036854775807 := hcb2; have HOA := Lib.hid (show OwnB w11 w10.heap.size _ B from O11); have HM11 := Lib.hid (show Mods [] w10 w11 from M11.mono (by simp [Value.ownBlock])); clear O11 M11)
          obtain ⟨_, _, he, _, _, hcR⟩ := (HVR.out.mods0 (HX10.out.trans HM11.out)).u8
          injection he with he1 he2 he3
          obtain ⟨bb, off, hadr, hx0⟩ := hcR 0 (by omega)
          rw [← he1] at hadr
          subst hadr he1 he3
          rw [Nat.add_zero] at hx0
          have hm1 := Int.emod_nonneg n0 (show (B.length : Int) ≠ 0 by omega)
          have hm2 := Int.emod_lt_of_pos n0 (show 0 < (B.length : Int) by omega)
          obtain ⟨k1, hk1⟩ : ∃ k : Nat, n0 % (B.length : Int) = (k : Int) := ⟨(n0 % (B.length : Int)).toNat, by omega⟩
          have hk1l : k1 < B.length := by omega
          have HMO1 := Lib.hid (fun W => mod_ok n0 (B.length : Int) W HN0.out (by omega) (by omega))
          rw [hk1] at HMO1
          have hx1 : w11.drew.cell? ⟨bb, off, none⟩ = some (.int .u8 (R.getD 0 0)) := hx0
          have hbb : bb < w10.heap.size := by
            obtain ⟨_, _, he, _, _, hc⟩ := (HVR.out.mods0 HX10.out).u8
            obtain ⟨b2, o2, h2, h3⟩ := hc 0 (by omega)
            injection he with he1 _ _
            rw [← he1] at h2
            injection h2 with h2
            injection h2 with h2 _ _
            subst h2
            exact World.block_lt_of_cell? w10 _ h3
          have HX1 := Lib.hid hx1
          obtain ⟨O12, cB, hcB, hcBs⟩ := HOA.out.set hk1l (R.getD 0 0)
          have BBD := Lib.hid (show Bytes (B.set k1 (R.getD 0 0)) from bytes_of (fun x hx => by
            rcases List.mem_or_eq_of_mem_set hx with h | h
            · exact of_bytes HBC.out x h
            · rw [h]; exact HBR.out 0))
          have hr0 : (0 : Int) < (R.length : Int) := by omega
          have hr0n : 0 < R.length := by omega
          have hgb : w10.heap.size ≤ gb := (HOA.out.lt gb rfl).1
          have cx : w11.drew.cell? ⟨gb, k1, none⟩ = some (cB[k1]'hcBs) := (cell_blk hcB k1).trans (Array.getElem?_eq_getElem hcBs)
          have fx : w11.drew.frozen? ⟨gb, k1, none⟩ = false := froz_blk hcB k1
          have l0 : (0 : Int) ≤ (k1 : Int) := by omega
          have l1 : (k1 : Int) < (B.length : Int) := by omega
          clear hm1 hm2 hk1 he2 hcR hx0 hx1
          generalize R.getD 0 0 = r0 at HX1 O12 BBD
          go_wp2_with fail
          refine heldStart (S := fun W => Mods [] w10 W ∧ W.cell? ⟨bb, off, none⟩ = some (.int .u8 r0)) 10 rfl (by kernel_rfl) ⟨HM11.out.drew, HX1.out⟩ (fun hHeld => ?_)
          refine takeD (i := 0) (d := 88) (v := ?_) rfl rfl (by kernel_rfl) (by kernel_rfl) (by kernel_rfl) (fun _ _ _ h => h) (Or.inl ⟨by rfl, ?_⟩) hHeld ?_
          rotate_left 1
          · (intro w hSw; skip; go_simp; (try with_reducible rfl))
          simp only [List.setIfInBounds_toArray, List.set_cons_zero, List.set_cons_succ]
          refine takeD (i := 1) (d := 89) (v := ?_) rfl rfl (by kernel_rfl) (by kernel_rfl) (by kernel_rfl) (fun _ _ _ h => h) (Or.inl ⟨by rfl, ?_⟩) hHeld ?_
          rotate_left 1
          · (intro w hSw; skip; go_simp; (try with_reducible rfl))
          simp only [List.setIfInBounds_toArray, List.set_cons_zero, List.set_cons_succ]
          refine takeD (i := 2) (d := 90) (v := ?_) rfl rfl (by kernel_rfl) (by kernel_rfl) (by kernel_rfl) (fun _ _ _ h => h) (Or.inl ⟨by rfl, ?_⟩) hHeld ?_
          rotate_left 1
          · (intro w hSw; skip; go_simp; (try with_reducible rfl))
          simp only [List.setIfInBounds_toArray, List.set_cons_zero, List.set_cons_succ]
          refine takeD (i := 3) (d := 91) (v := ?_) rfl rfl (by kernel_rfl) (by kernel_rfl) (by kernel_rfl) (fun _ _ _ h => h) (Or.inl ⟨by rfl, ?_⟩) hHeld ?_
          rotate_left 1
          · (intro w hSw; skip; go_simp; (try with_reducible rfl))
          simp only [List.setIfInBounds_toArray, List.set_cons_zero, List.set_cons_succ]
          refine takeD (i := 5) (d := 93) (v := ?_) rfl rfl (by kernel_rfl) (by kernel_rfl) (by kernel_rfl) (fun _ _ _ h => h) (Or.inl ⟨by rfl, ?_⟩) hHeld ?_
          rotate_left 1
          · (intro w hSw; skip; go_simp; (try with_reducible rfl))
          simp only [List.setIfInBounds_toArray, List.set_cons_zero, List.set_cons_succ]
          refine takeD (i := 6) (d := 94) (v := ?_) rfl rfl (by kernel_rfl) (by kernel_rfl) (by kernel_rfl) (fun _ _ _ h => h) (Or.inl ⟨by rfl, ?_⟩) hHeld ?_
          rotate_left 1
          · (intro w hSw; skip; go_simp; (try with_reducible rfl))
          simp only [List.setIfInBounds_toArray, List.set_cons_zero, List.set_cons_succ]
          refine takeD (i := 7) (d := 95) (v := ?_) rfl rfl (by kernel_rfl) (by kernel_rfl) (by kernel_rfl) (fun _ _ _ h => h) (Or.inl ⟨by rfl, ?_⟩) hHeld ?_
          rotate_left 1
          · (intro w hSw; (have yb := hSw.2); go_simp; (try with_reducible rfl))
          simp only [List.setIfInBounds_toArray, List.set_cons_zero, List.set_cons_succ]
          refine wpAnyH_ready (rs := [4]) (by kernel_rfl) (by simp) ?_
          refine AllReadyH.cons rfl (fun K hK => ?_) AllReadyH.nil
          go_simp
          go_wp2_with (go_at_call 37; refine (HMO1.out _).mono ?_; rintro e w' ⟨rfl, rfl⟩)
          refine hK.out _ _ ?_ (fun hHeld => ?_)
          · exact hHeld
          clear hK K
          refine takeD (i := 8) (d := 96) (v := ?_) rfl rfl (by kernel_rfl) (by kernel_rfl) (by kernel_rfl) (fun _ _ _ h => h) (Or.inl ⟨by rfl, ?_⟩) hHeld ?_
          rotate_left 1
          · (intro w hSw; skip; go_simp; (try with_reducible rfl))
          simp only [List.setIfInBounds_toArray, List.set_cons_zero, List.set_cons_succ]
          refine wpAnyH_ready (rs := [9]) (by kernel_rfl) (by simp) ?_
          refine AllReadyH.cons rfl (fun K hK => ?_) AllReadyH.nil
          go_simp
          refine hK.out _ _ ?_ (fun hHeld => ?_)
          · exact ⟨hHeld.1.setCell (.inr hgb) _, ((Mods.refl (S := [gb])).setCell (p := ⟨gb, k1, none⟩) (.inl (by simp)) _).cell hHeld.2 (by simp; omega)⟩
          clear hK K
          refine wpAnyH_done (by kernel_rfl) ?_ _
          have HMR := Lib.hid (HX10.out.trans hHeld.1)
          have RB : Hid (Rd (w11.setCell ⟨gb, k1, none⟩ (.int .u8 r0)).drew _ (u8s (B.set k1 r0))) := Lib.hid (by have := O12.rd; exact this)
          have RZ := Lib.hid (HO10.out.mods0 hHeld.1).rd
          clear hHeld O12 cx fx hcB HX1 hbb
          generalize (w11.setCell ⟨gb, k1, none⟩ (.int .u8 r0)).drew = w12 at HMR RB RZ ⊢
          have hmq := Int.emod_nonneg n0 (show (B.length : Int) + 1 ≠ 0 by omega)
          have hmr := Int.emod_lt_of_pos n0 (show 0 < (B.length : Int) + 1 by omega)
          obtain ⟨k, hk⟩ : ∃ k : Nat, n0 % ((B.length : Int) + 1) = (k : Int) := ⟨(n0 % ((B.length : Int) + 1)).toNat, by omega⟩
          have hkl : k ≤ B.length := by omega
          have HMOD := Lib.hid (fun W => mod_ok n0 ((B.length : Int) + 1) W HN0.out (by omega) (by omega))
          rw [hk] at HMOD
          clear hk hmq hmr
          have i0 : (0 : Int) ≤ (k : Int) := by omega
          have i1 : (k : Int) ≤ (capz : Int) := by omega
          go_wp2_with fail
          refine (HMOD.out _).mono ?_
          rintro e w' ⟨rfl, rfl⟩
          go_wp2_with fail
          have R13 := heap_alloc_new w12 (.cells #[.slice (some ⟨bb, off, none⟩) R.length capr, .slice (some ⟨gz, 0, none⟩) k capz, .slice (some ⟨gb, 0, none⟩) B.length capb] 33)
          have M13 := (Mods.refl (S := []) (w := w12)).alloc (.cells #[.slice (some ⟨bb, off, none⟩) R.length capr, .slice (some ⟨gz, 0, none⟩) k capz, .slice (some ⟨gb, 0, none⟩) B.length capb] 33)
          have HM13 := Lib.hid (HMR.out.trans M13)
          have HSQ : Hid (∀ q, q < 3 → ∃ ad n cap X, (w12.alloc (.cells #[.slice (some ⟨bb, off, none⟩) R.length capr, .slice (some ⟨gz, 0, none⟩) k capz, .slice (some ⟨gb, 0, none⟩) B.length capb] 33)).cell? ⟨w12.heap.size, q, none⟩ = some (.slice ad n cap) ∧ Rd (w12.alloc (.cells #[.slice (some ⟨bb, off, none⟩) R.length capr, .slice (some ⟨gz, 0, none⟩) k capz, .slice (some ⟨gb, 0, none⟩) B.length capb] 33)) (.slice ad n cap) (u8s X) ∧ Bytes X) := Lib.hid (fun q hq => by
            match q, hq with
            | 0, _ => exact ⟨_, _, _, R, (cell_blk R13 0).trans rfl, (HVR.out.mods0 HMR.out).mods0 M13, HBR.out⟩
            | 1, _ => exact ⟨_, _, _, B.take k, (cell_blk R13 1).trans rfl, ((RZ.out).mods0 M13).take k hkl, HBC.out.take k⟩
            | 2, _ => exact ⟨_, _, _, (B.set k1 r0), (cell_blk R13 2).trans rfl, (RB.out).mods0 M13, BBD.out⟩)
          clear R13 M13 HMOD
          generalize w12.alloc (.cells #[.slice (some ⟨bb, off, none⟩) R.length capr, .slice (some ⟨gz, 0, none⟩) k capz, .slice (some ⟨gb, 0, none⟩) B.length capb] 33) = w13 at HM13 HSQ ⊢
          generalize w12.heap.size = gx at HSQ ⊢
          go_loopw [108] (fun i wr => ∃ q : Nat, q ≤ 3 ∧ i = .int .i64 q ∧ Mods [] w13 wr) (fun i _ => 3 - (intOf i).toNat)
          case atStart => exact ⟨0, by omega, rfl, Mods.refl⟩
          case round =>
            obtain ⟨q, hq, rfl, M⟩ := hrel
            by_cases hq3 : q < 3
            · obtain ⟨ad, n, cap, X, hcx, hrx, hbx⟩ := HSQ.out q hq3
              have hc := M.cell hcx (by simp)
              have HRX := Lib.hid (hrx.mods0 M)
              have HBX := Lib.hid hbx
              have HM := Lib.hid M
              have j1 : (0 : Int) ≤ (q : Int) := by omega
              have j2 : (q : Int) < 3 := by omega
              clear M hcx hrx hbx
              go_wp2_with fail
              refine (convDec_ok _ _ X HRX.out HBX.out).mono ?_
              rintro e w15 h15
              obtain ⟨pv, rfl, I15, M15⟩ := decAny HBX.out h15
              have HI15 := Lib.hid I15
              have HM15 := Lib.hid M15
              have hone15 := Lib.hid (Conv.one _ I15.rd.one)
              clear I15 M15 h15
              go_wp2_with (refine wpList_store_row (cs := (resC X pv).cells) rfl 26 (.tmp 21) (.tmp 115) rfl (heap_alloc_new w15 _) (by rfl) (by rfl) (by rfl) (Conv.infoCC _) hone15.out ?_; intro w16 R16 M16; have HR16 := Lib.hid R16; have HF16 := Lib.hid (fresh M16); clear R16 M16)
              refine (refDec_ok _ _ X ((HRX.out.mods0 HM15.out).mods0 HF16.out) HBX.out).mono ?_
              rintro e w17 h17
              obtain ⟨pv2, rfl, I17, M17⟩ := decAny HBX.out h17
              have HI17 := Lib.hid I17
              have HM17 := Lib.hid M17
              have hone17 := Lib.hid (Conv.one _ I17.rd.one)
              have HR17 := Lib.hid (M17.heap HR16.out (by simp))
              have HQ17 := Lib.hid ((HI15.out.mods0 HF16.out).mods0 M17)
              clear I17 M17 h17 HR16 HI15
              generalize w15.heap.size = g21 at HR17 ⊢
              have HSM := Lib.hid (fun W (M : Mods [] w17 W) => same04_ok W (resC X pv) (resC X pv2) (resP X) (resP X) (HQ17.out.mods0 M) (HI17.out.mods0 M))
              rw [res_same] at HSM
              generalize resC X pv = C1 at *
              generalize resC X pv2 = C2 at *
              generalize errC X = ec at *
              generalize resN X = nc at *
              have e1 : (ec != ec) = false := by simp
              have e2 : (nc != nc) = false := by simp
              go_wp2_with (first
                | (refine wpList_load_convG (C := C1) (by rfl) (.tmp 21) rfl HQ18.out (by rfl) ?_)
                | (refine wpList_load_convG (C := C2) (by rfl) (.tmp 24) rfl HR18.out (by rfl) ?_)
                | (refine wpList_store_row (cs := C2.cells) rfl 26 (.tmp 24) (.tmp 121) rfl (heap_alloc_new w17 _) (by rfl) (by rfl) (by rfl) (Conv.infoCC _) hone17.out ?_; intro w18 R18 M18; have HR18 := Lib.hid R18; have HF18 := Lib.hid (fresh M18); have HQ18 := Lib.hid ((fresh M18).heap HR17.out (by simp)); clear R18 M18))
              refine (HSM.out _ HF18.out).mono ?_
              rintro e w19 ⟨rfl, M19⟩
              have HMX := Lib.hid (((((HM.out.trans HM15.out).trans HF16.out).trans HM17.out).trans HF18.out).trans M19)
              clear M19
              go_wp2_with fail
              exact ⟨⟨q + 1, by omega, by go_num, HMX.out⟩, by simp only [intOf]; omega⟩
            · have HMX := Lib.hid (HM13.out.trans M)
              clear M
              go_wp2_with fail
              refine (HAW.out _).mono ?_
              rintro e w20 ⟨rfl, M20⟩
              go_wp2
              go_ret
              exact ⟨rfl, HMX.out.trans M20⟩
      · have dr : decide ((R.length : Int) > 200) = true := decide_eq_true (by omega)
        go_enter Try.func14, Try.ntmps14
        go_wp2_with (refine wpList_load_conv rfl (.tmp 4) rfl BB.out (by rfl) ?_)
        refine (cLight_ok _ C0 P0 (HI.out.mods0 M0.out).rd).mono ?_
        rw [HLT.out]
        rintro e w0 ⟨rfl, Mx⟩
        have HX := Lib.hid (M0.out.trans Mx)
        have HB0 := Lib.hid (Mx.heap BB.out (by simp))
        clear Mx
        go_wp2_with fail
        refine (HLM.out _ HX.out).mono ?_
        rw [HLL.out]
        rintro e w' ⟨rfl, rfl⟩
        go_wp2_with fail
        refine (awakeC_ok _).mono ?_
        rintro e w1 ⟨rfl, M1⟩
        go_wp2
        go_ret
        exact ⟨rfl, HX.out.trans M1⟩
    · have HLL := Lib.hid (decide_eq_false hl)
      have HLM := Lib.hid (fun W (M : Mods [] w W) => light_ok W v L (HV.out.mods0 M))
      go_enter Try.func14, Try.ntmps14
      go_wp2_with (refine wpList_load_conv rfl (.tmp 4) rfl BB.out (by rfl) ?_)
      refine (cLight_ok _ C0 P0 (HI.out.mods0 M0.out).rd).mono ?_
      rw [HLT.out]
      rintro e w0 ⟨rfl, Mx⟩
      have HX := Lib.hid (M0.out.trans Mx)
      have HB0 := Lib.hid (Mx.heap BB.out (by simp))
      clear Mx
      go_wp2_with fail
      refine (HLM.out _ HX.out).mono ?_
      rw [HLL.out]
      rintro e w' ⟨rfl, rfl⟩
      go_wp2_with fail
      refine (awakeC_ok _).mono ?_
      rintro e w1 ⟨rfl, M1⟩
      go_wp2
      go_ret
      exact ⟨rfl, HX.out.trans M1⟩
  · have HLT := Lib.hid (decide_eq_false hl0)
    go_enter Try.func14, Try.ntmps14
    go_wp2_with (refine wpList_load_conv rfl (.tmp 4) rfl BB.out (by rfl) ?_)
    refine (cLight_ok _ C0 P0 (HI.out.mods0 M0.out).rd).mono ?_
    rw [HLT.out]
    rintro e w0 ⟨rfl, Mx⟩
    have HX := Lib.hid (M0.out.trans Mx)
    have HB0 := Lib.hid (Mx.heap BB.out (by simp))
    clear Mx
    go_wp2_with fail
    refine (awakeC_ok _).mono ?_
    rintro e w1 ⟨rfl, M1⟩
    go_wp2
    go_ret
    exact ⟨rfl, HX.out.trans M1⟩
end Go.Proofs.Ytgjjmiaiclhidaa
