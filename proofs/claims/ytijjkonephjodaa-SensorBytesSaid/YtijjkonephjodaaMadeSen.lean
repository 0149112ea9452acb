/- The dice's Sensor: contract. -/
import Derived.Test.YtijjkonephjodaaMadeSenP
namespace Go.Proofs.Ytijjkonephjodaa
open Go.RowKit

/-- The head of a sensor made: what the first calls give. -/
def headS (num typ uni : Nat) (nm : ByteArray) (ei en : Nat) (host : Bool) : Sen := ⟨num, typ, uni, nm, ei, en, false, zC, 0, 0, 0, 0, 0, 0, 0, 0, 0, 0, 0, 0, host, 1⟩
theorem mul_small {a b st : Nat} (ha : a < 4) (hb : b < 300) (hst : st < 65536) : ∃ q : Nat, q < 65536 ∧ IntKind.i64.wrap ((a : Int) * (b : Int)) = (q : Int) ∧ wrap64 ((a : Int) * (b : Int)) = (q : Int) ∧ IntKind.u16.wrap (q : Int) = (q : Int) ∧ bits .andNot .u16 (st : Int) (q : Int) = ((st &&& (65535 - q) : Nat) : Int) := by
  have h : a * b ≤ 3 * 299 := Nat.mul_le_mul (by omega) (by omega)
  have e : (a : Int) * (b : Int) = ((a * b : Nat) : Int) := by simp
  refine ⟨a * b, by omega, ?_, ?_, ?_, u16_andNot_nat _ _ hst (by omega)⟩
  · rw [e]; exact IntWalk.i64_in _ (by omega)
  · rw [e]; exact IntWalk.wrap64_in _ (by omega)
  · rw [IntKind.wrap_u16]; omega
theorem Try.infoT : (Try.prog.info? 29).map (·.size) = some 7 := by kernel_rfl
theorem thsCells_one (m : Nat) (R : Nat → Nat) : (thsCells m R).all (·.oneCell') = true := by
  simp [thsCells, Value.oneCell']
theorem headS_cells (num typ uni : Nat) (nm : ByteArray) (ei en : Nat) (host : Bool) :
    (#[.int .u8 num, .int .u8 (1 + (typ : Int)), .int .u8 uni, .string nm, .int .u8 ei, .int .u8 en, .bool false, .int .i64 0, .bool false, .int .i64 0, .int .i64 0, .int .i64 0, .int .i64 0, .slice none 0 0,
      .int .u8 0, .int .u8 0, .int .u8 0, .int .u8 0, .int .u8 0, .int .u8 0, .int .u8 0, .int .u8 0, .int .u8 0, .int .u16 0, .int .u16 0, .int .u16 0, .bool host, .int .i64 1] : Array Value) = (headS num (1 + typ) uni nm ei en host).cells := by
  simp [Sen.cells, headS, zC]
set_option maxRecDepth 100000 in
set_option maxHeartbeats 8000000 in
theorem sensor_ok (w : World) (b : Nat) (v : Value) (L : List Int) (n : Nat) (h : IsDice w b v L n) (num : Nat) (hnum : num < 256) :
    Calls Try.prog 13 #[.pointer (some ⟨b, 0, none⟩), .int .u8 num] w fun e w' => MadeSen w b v L num e w' := by
  have hbl := h.lt
  have H := Lib.hid h
  have hv := Lib.hid h.vlt
  clear h
  go_enter Try.func13, Try.ntmps13
  go_wp2_with fail
  change Calls _ _ _ (w.alloc (.cells zS.cells 32)) _
  have M1 := (Mods.refl (S := []) (w := w)).alloc (.cells zS.cells 32)
  have R1 := heap_alloc_new w (.cells zS.cells 32)
  have Z1 : (w.alloc (.cells zS.cells 32)).heap.size = w.heap.size + 1 := by simp
  generalize w.alloc (.cells zS.cells 32) = w1 at M1 R1 Z1 ⊢
  generalize hgr : w.heap.size = gr at R1 Z1 hbl ⊢
  have HGR := Lib.hid hgr
  clear hgr
  have D1 := H.out.mods0 M1
  have MM := Lib.hid (M1.nil (S := [b]))
  have RR := Lib.hid R1
  clear M1 R1
  refine (next_ok w1 b v L _ D1 4 (by omega) (by omega)).mono ?_
  rintro e w2 ⟨typ, n2, rfl, ty0, ty1, D2, M2⟩
  have MM := Lib.hid (MM.out.trans M2)
  have RR := Lib.hid (M2.heap RR.out (by simp; omega))
  have z2 := M2.size
  clear M2
  obtain ⟨typ', rfl⟩ := Int.eq_ofNat_of_zero_le ty0
  go_wp2_with fail
  refine (byte_ok w2 b v L _ D2).mono ?_
  rintro e w3 ⟨uni, n3, rfl, un0, un1, D3, M3⟩
  have MM := Lib.hid (MM.out.trans M3)
  have RR := Lib.hid (M3.heap RR.out (by simp; omega))
  have z3 := M3.size
  clear M3 D1 D2
  obtain ⟨uni', rfl⟩ := Int.eq_ofNat_of_zero_le un0
  go_wp2_with fail
  refine (next_ok w3 b v L _ D3 16 (by omega) (by omega)).mono ?_
  rintro e w4 ⟨nl, n4, rfl, nl0, nl1, D4, M4⟩
  have MM := Lib.hid (MM.out.trans M4)
  have RR := Lib.hid (M4.heap RR.out (by simp; omega))
  have z4 := M4.size
  clear M4
  obtain ⟨nl', rfl⟩ := Int.eq_ofNat_of_zero_le nl0
  go_wp2_with fail
  rw [show (1 + (nl' : Int)) = ((1 + nl' : Nat) : Int) by omega]
  refine (text_ok w4 b v L _ D4 alphaS (by decide) (by decide) (1 + nl') (by omega)).mono ?_
  rintro e w5 ⟨nm, n5, rfl, nm0, nm1, D5, M5⟩
  have HNM := Lib.hid (name_made nm0 (by omega) (by omega) nm1)
  have hnm : nm.size ≤ 16 := by omega
  have MM := Lib.hid (MM.out.trans M5)
  have RR := Lib.hid (M5.heap RR.out (by simp; omega))
  have z5 := M5.size
  clear M5 D3 D4 nm0 nm1
  go_wp2_with fail
  refine (entity_ok w5 b v L _ D5).mono ?_
  rintro e w6 ⟨ei, en, n6, rfl, ei1, en1, D6, M6⟩
  have MM := Lib.hid (MM.out.trans M6)
  have RR := Lib.hid (M6.heap RR.out (by simp; omega))
  have z6 := M6.size
  clear M6 D5
  go_wp2_with fail
  refine (bool_ok w6 b v L _ D6 4 (by omega) (by omega)).mono ?_
  rintro e w7 ⟨host, n7, rfl, D7, M7⟩
  have MM := Lib.hid (MM.out.trans M7)
  have RR := Lib.hid (M7.heap RR.out (by simp; omega))
  have z7 := M7.size
  clear M7 D6
  have H28 := Lib.hid (headS_cells num typ' uni' nm ei en host)
  go_wp2_with (refine wpList_store_row (cs := (headS num (1 + typ') uni' nm ei en host).cells) rfl 32 (.tmp 5) (.tmp 23) rfl (heap_alloc_new w7 _) (by rfl) (by exact congrArg Value.agg H28.out) (by rfl) (Sen.infoS _) (Sen.one _ rfl) ?_; intro w8 R8 M8)
  have zgc : gr < w7.heap.size := by omega
  have zgw : w.heap.size ≤ w7.heap.size := by have := HGR.out; omega
  have HB : Hid (Bld w w8 b v L n7 32 gr w7.heap.size zS.cells (headS num (1 + typ') uni' nm ei en host).cells) :=
    Lib.hid ⟨(D7.mods0 (Mods.refl.alloc _)).mods M8 (by have := D7.lt; simp; omega) (fun hl k hk hk2 => by have := hv.out hl k hk; simp at hk2; omega), (MM.out.trans (Mods.nil (Mods.refl.alloc _))).comp M8 (fun k hk => by simp at hk; subst hk; exact .inr zgw), M8.heap (heap_alloc RR.out) (by simp; omega), R8, by have := HGR.out; omega, by have := HGR.out; omega, zgw, by omega, hv.out⟩
  clear M8 R8 MM RR D7 z2 z3 z4 z5 z6 z7 Z1
  generalize w7.heap.size = gc at HB zgc zgw ⊢
  obtain ⟨typ, htyp⟩ : ∃ typ, typ = 1 + typ' := ⟨_, rfl⟩
  have ht4 : typ < 256 := by omega
  rw [← htyp] at HB
  clear htyp
  refine (bool_ok w8 b v L _ HB.out.D 3 (by omega) (by omega)).mono ?_
  rintro e w9 ⟨isd, n9, rfl, D9, M9⟩
  have HB := Lib.hid (HB.out.dice D9 M9)
  clear D9 M9
  cases isd with
  | true =>
    have c6 : w9.cell? ⟨gc, 6, none⟩ = some (.bool false) := HB.out.c 6
    have f6 := HB.out.f
    go_wp2_with fail
    have HB : Hid (Bld w (w9.setCell ⟨gc, 6, none⟩ (.bool true)) b v L n9 32 gr gc zS.cells ({ headS num typ uni' nm ei en host with disc := true } : Sen).cells) := Lib.hid (HB.out.set 6 (.bool true))
    clear c6 f6
    generalize w9.setCell ⟨gc, 6, none⟩ (.bool true) = w10 at HB ⊢
    refine (next_ok w10 b v L _ HB.out.D 32768 (by omega) (by omega)).mono ?_
    rintro e w11 ⟨sti, n11, rfl, st0, st1, D11, M11⟩
    have HB := Lib.hid (HB.out.dice D11 M11)
    clear D11 M11
    obtain ⟨st, rfl⟩ := Int.eq_ofNat_of_zero_le st0
    have hst : st < 32768 := by omega
    have c23 : w11.cell? ⟨gc, 23, none⟩ = some (.int .u16 0) := HB.out.c 23
    have f6 := HB.out.f
    go_wp2_with fail
    have HB : Hid (Bld w (w11.setCell ⟨gc, 23, none⟩ (.int .u16 st)) b v L n11 32 gr gc zS.cells ({ headS num typ uni' nm ei en host with disc := true, states := st } : Sen).cells) := Lib.hid (HB.out.set 23 (.int .u16 st))
    clear c23 f6
    generalize w11.setCell ⟨gc, 23, none⟩ (.int .u16 st) = w12 at HB ⊢
    have c23 : w12.cell? ⟨gc, 23, none⟩ = some (.int .u16 st) := HB.out.c 23
    have c24 : w12.cell? ⟨gc, 24, none⟩ = some (.int .u16 0) := HB.out.c 24
    have f24 : w12.frozen? ⟨gc, 24, none⟩ = false := HB.out.f 24
    have DD := Lib.hid ((HB.out.mods0 (Mods.refl.drewN 1)).D)
    have NX := Lib.hid (fun W (D : IsDice W b v L n11) => next_ok W b v L n11 D 4 (by omega) (by omega))
    go_region_held3 (fun w' => w'.cell? ⟨gc, 23, none⟩ = some (.int .u16 st))
      (first | go_keep | exact M13.cell (by assumption) (by have := DD.out.lt; have := HB.out.hb; have := HB.out.hc; simp; omega) | exact (HB13.out.set 24 _).c 23)
      (first
        | (go_at_call 19; refine (NX.out _ DD.out).mono ?_; rintro e w13 ⟨ri', n13, rfl, ri0, ri1, D13, M13⟩; obtain ⟨ri, rfl⟩ := Int.eq_ofNat_of_zero_le ri0; have hri : ri < 4 := (by omega); have hw13 := wrap16 (m := ri) (by omega); have ha13 : bits .andNot .u16 (st : Int) (ri : Int) = ((st &&& (65535 - ri) : Nat) : Int) := u16_andNot_nat _ _ (by omega) (by omega); have HB13 := Lib.hid ((HB.out.mods0 (Mods.refl.drewN 1)).dice D13 M13); have c24 : w13.cell? ⟨gc, 24, none⟩ = some (.int .u16 0) := HB13.out.c 24; have f24 : w13.frozen? ⟨gc, 24, none⟩ = false := HB13.out.f 24))
    rename_i hHeld
    have HB : Hid (Bld w (w13.setCell ⟨gc, 24, none⟩ (.int .u16 ((st &&& (65535 - ri) : Nat) : Int))) b v L n13 32 gr gc zS.cells ({ headS num typ uni' nm ei en host with disc := true, states := st, asrt := st &&& (65535 - ri) } : Sen).cells) := Lib.hid (HB13.out.set 24 _)
    clear hHeld c23 c24 f24 NX DD HB13 hw13 ha13 D13 M13
    generalize w13.setCell ⟨gc, 24, none⟩ (.int .u16 ((st &&& (65535 - ri) : Nat) : Int)) = w14 at HB ⊢
    have c23 : w14.cell? ⟨gc, 23, none⟩ = some (.int .u16 st) := HB.out.c 23
    have NX := Lib.hid (fun W n (D : IsDice W b v L n) => next_ok W b v L n D 4 (by omega) (by omega))
    have NY := Lib.hid (fun W n (D : IsDice W b v L n) => next_ok W b v L n D 300 (by omega) (by omega))
    have DD := Lib.hid ((HB.out.mods0 (Mods.refl.drewN 1)).D)
    go_wp2_with fail
    go_region_held3 (fun w' => w'.cell? ⟨gc, 23, none⟩ = some (.int .u16 st))
      (first | go_keep | exact M15.cell (by assumption) (by have := HB.out.hb; have := HB.out.hc; simp; omega) | exact M16.cell (by assumption) (by have := HB.out.hb; have := HB.out.hc; simp; omega) | exact (HB16.out.set 25 _).c 23)
      (first
        | (go_at_call_of 19 (Value.int IntKind.i64 4); refine (NX.out _ _ DD.out).mono ?_; rintro e w15 ⟨rj', n15, rfl, rj0, rj1, D15, M15⟩; obtain ⟨rj, rfl⟩ := Int.eq_ofNat_of_zero_le rj0)
        | (go_at_call_of 19 (Value.int IntKind.i64 300); refine (NY.out _ _ D15).mono ?_; rintro e w16 ⟨rk', n16, rfl, rk0, rk1, D16, M16⟩; obtain ⟨rk, rfl⟩ := Int.eq_ofNat_of_zero_le rk0; obtain ⟨q, hq1, hq2, hq3, hq4, hq5⟩ := mul_small (show rj < 4 by omega) (show rk < 300 by omega) (show st < 65536 by omega); have HB16 := Lib.hid (((HB.out.mods0 (Mods.refl.drewN 1)).dice D15 M15).dice D16 M16); have c25 : w16.cell? ⟨gc, 25, none⟩ = some (.int .u16 0) := HB16.out.c 25; have f25 : w16.frozen? ⟨gc, 25, none⟩ = false := HB16.out.f 25))
    rename_i hHeld
    have HB : Hid (Bld w (w16.setCell ⟨gc, 25, none⟩ (.int .u16 ((st &&& (65535 - q) : Nat) : Int))) b v L n16 32 gr gc zS.cells ({ headS num typ uni' nm ei en host with disc := true, states := st, asrt := st &&& (65535 - ri), deas := st &&& (65535 - q) } : Sen).cells) := Lib.hid (HB16.out.set 25 _)
    clear hHeld c23 c25 f25 NX NY DD HB16 hq2 hq3 hq4 hq5 D15 M15 D16 M16
    generalize w16.setCell ⟨gc, 25, none⟩ (.int .u16 ((st &&& (65535 - q) : Nat) : Int)) = w17 at HB ⊢
    have HSB := Lib.hid (show SenBox w17 gc ({ headS num typ uni' nm ei en host with disc := true, states := st, asrt := st &&& (65535 - ri), deas := st &&& (65535 - q) } : Sen) from ⟨HB.out.G⟩)
    go_wp2_with (first
      | (refine wpList_load_sen rfl (.tmp 5) rfl HSB.out (by rfl) ?_)
      | (refine wpList_store_row (cs := ({ headS num typ uni' nm ei en host with disc := true, states := st, asrt := st &&& (65535 - ri), deas := st &&& (65535 - q) } : Sen).cells) rfl 32 (.tmp 4) (.tmp 48) rfl HB.out.R (by rfl) (by rfl) (by rfl) (Sen.infoS _) (Sen.one _ rfl) ?_; intro w19 R19 M19))
    have HB := Lib.hid (HB.out.fin R19 M19)
    clear R19 M19
    refine bodyPost_ret (results_cell_row rfl _ _ gr _ _ _ _ rfl HB.out.R Try.underlying32 rfl (Sen.infoS _)) rfl ?_
    refine ⟨{ headS num typ uni' nm ei en host with disc := true, states := st, asrt := st &&& (65535 - ri), deas := st &&& (65535 - q) }, [], n16, rfl, IsSen.made ⟨RdPts.nil _, PtsOk.nil, ?_, ?_, ?_, ?_, ?_⟩ ⟨hnum, ht4, ?_, ?_, ei1, en1, ?_, ?_, ?_, ?_, ?_, ?_⟩ ?_ ?_, ?_, OwnPts.nil _ _, by simp, rfl, HB.out.D, HB.out.M⟩
    · exact i64_small (x := 0) ⟨by omega, by omega⟩
    · exact i64_small (x := 0) ⟨by omega, by omega⟩
    · exact i64_small (x := 0) ⟨by omega, by omega⟩
    · exact i64_small (x := 0) ⟨by omega, by omega⟩
    · exact i64_small (x := 0) ⟨by omega, by omega⟩
    · show uni' < 256; omega
    · show nm.size ≤ 1000; omega
    · show 0 < 256; omega
    · show 0 < 256; omega
    · show 0 < 256; omega
    · show st < 65536; omega
    · exact Nat.lt_of_le_of_lt Nat.and_le_left (show st < 65536 by omega)
    · exact Nat.lt_of_le_of_lt Nat.and_le_left (show st < 65536 by omega)
    · exact (by decide : 0 < 256 ∧ 0 < 256 ∧ 0 < 256 ∧ 0 < 256 ∧ 0 < 256 ∧ 0 < 256)
    · exact i64_small (x := 1) ⟨by omega, by omega⟩
    · have hm := or_mask (a := st) (sub_mask st (65535 - ri) (by omega)) (sub_mask st (65535 - q) (by omega))
      show (nameB nm && _ && discB _ _) = true
      rw [HNM.out]
      simp only [discB, headS, zC]
      simp
      exact ⟨by omega, hm⟩
  | false =>
    go_wp2_with fail
    refine (next_ok w9 b v L _ HB.out.D 3 (by omega) (by omega)).mono ?_
    rintro e w10 ⟨sa, n10, rfl, sa0, sa1, D10, M10⟩
    have HB := Lib.hid (HB.out.dice D10 M10)
    have cx : w10.cell? ⟨gc, 27, none⟩ = some (.int .i64 1) := HB.out.c 27
    have fx := HB.out.f
    clear D10 M10
    go_wp2_with fail
    obtain ⟨S1, hS1⟩ : ∃ S1 : Sen, S1 = { headS num typ uni' nm ei en host with samples := 1 + 2 * sa } := ⟨_, rfl⟩
    have HB : Hid (Bld w (w10.setCell ⟨gc, 27, none⟩ (.int .i64 (1 + 2 * sa))) b v L n10 32 gr gc zS.cells S1.cells) := by
      have h := HB.out.set 27 (.int .i64 (1 + 2 * sa))
      rw [set_samples, ← hS1] at h
      exact h
    have HS1 := Lib.hid hS1
    clear cx fx hS1
    generalize w10.setCell ⟨gc, 27, none⟩ (.int .i64 (1 + 2 * sa)) = w11 at HB ⊢
    have HLT := Lib.hid (show gr < w11.heap.size ∧ gc < w11.heap.size ∧ b < w11.heap.size ∧ w.heap.size ≤ w11.heap.size from
      ⟨lt_of_block HB.out.R, lt_of_block HB.out.G, HB.out.D.lt, by have := lt_of_block HB.out.R; have := HB.out.hr; omega⟩)
    refine (conversion_ok w11 b v L _ HB.out.D).mono ?_
    rintro e w12 ⟨C, P, n12, rfl, IC, CV, OC, PL, D12, M12⟩
    have HB := Lib.hid (HB.out.dice D12 M12)
    have HCV := Lib.hid CV
    have HIC := Lib.hid (show PtsOk P ∧ I64 C.form ∧ I64 C.m ∧ I64 C.b ∧ I64 C.k1 ∧ I64 C.k2 from ⟨IC.pok, IC.form, IC.m, IC.b, IC.k1, IC.k2⟩)
    have HPL := Lib.hid PL
    have HONE := Lib.hid IC.rd.one
    have HOC := Lib.hid OC
    clear D12 M12 CV IC OC PL
    have HS : Hid (∀ W, W.heap[gc]? = some (.cells (setAll S1.cells 7 C.cells.toList) 32 (0, 0)) → Mods [gc] w12 W → SB w W b v L n12 gr gc { S1 with conv := C } w11.heap.size P) := Lib.hid (fun W G M =>
      ⟨HB.out.part (setAll_conv S1 C ▸ G) M, HOC.out.mods M (by have := HLT.out; simp; omega), HLT.out⟩)
    have H7 := Lib.hid (show S1.cells.size = 28 from rfl)
    go_wp2_with (refine wpList_store_part (cs := C.cells) rfl 26 (.tmp 56) (.tmp 55) rfl HB.out.G 7 (by rfl) (by rfl) (show 7 + 7 ≤ 28 by decide) Try.infoC (Conv.one _ HONE.out) ?_; intro w13 R13 M13; have c8 : w13.cell? ⟨gc, 8, none⟩ = some (.bool C.sgn) := (by rw [setAll_conv] at R13; rw [cell_blk R13]; rfl))
    have HS := Lib.hid (HS.out w13 R13 M13)
    clear R13 M13 HB HOC HLT c8
    generalize w11.heap.size = B at HS
    refine (thresholds_ok w13 b v L _ HS.out.bl.D C.sgn).mono ?_
    rintro e w14 ⟨m, n14, R, rfl, m64, Rlt, Rord, Rz, D14, M14⟩
    have HS := Lib.hid (HS.out.dice D14 M14)
    obtain ⟨S2, hS2⟩ : ∃ S2 : Sen, S2 = { S1 with conv := C } := ⟨_, rfl⟩
    rw [← hS2] at HS
    obtain ⟨S0, hS0⟩ : ∃ S0 : Sen, S0 = { S2 with mask := m, r0 := R 0, r1 := R 1, r2 := R 2, r3 := R 3, r4 := R 4, r5 := R 5 } := ⟨_, rfl⟩
    have HANA : Hid (Ana S0 P num ∧ S0.conv = C ∧ S0.mask = m) := by
      have hs1 := HS1.out
      rw [hS0]
      refine ⟨⟨?_, ?_, ?_, ?_, ?_, ?_, ?_, ?_, ?_, m64, ⟨Rlt _, Rlt _, Rlt _, Rlt _, Rlt _, Rlt _⟩, zeroRaw_made Rz, ord_made (by rw [hS2]) Rord, ?_, ?_⟩, ?_, rfl⟩ <;> rw [hS2, hs1]
      · rfl
      · exact ht4
      · show uni' < 256; omega
      · exact HNM.out
      · exact hnm
      · exact ei1
      · exact en1
      · rfl
      · exact HCV.out
      · rfl
      · show (1 + 2 * sa : Int) = 1 ∨ (1 + 2 * sa : Int) = 3 ∨ (1 + 2 * sa : Int) = 5; omega
    have HT : Hid (∀ W, W.heap[gc]? = some (.cells (setAll S2.cells 14 (thsCells m R).toList) 32 (0, 0)) → Mods [gc] w14 W → SB w W b v L n14 gr gc S0 B P) := Lib.hid (fun W G M => by
      rw [setAll_ths, ← hS0] at G
      exact HS.out.part G M (by rw [hS0]))
    clear D14 M14 Rlt Rord Rz hS2 hS0
    go_wp2_with (refine wpList_store_part (cs := thsCells m R) rfl 29 (.tmp 62) (.tmp 61) rfl HS.out.bl.G 14 (by rfl) (by rfl) (show 14 + 7 ≤ 28 by decide) Try.infoT (thsCells_one m R) ?_; intro w15 R15 M15)
    have HS := Lib.hid (HT.out w15 R15 M15)
    clear R15 M15 HT
    refine (next_ok w15 b v L _ HS.out.bl.D 5 (by omega) (by omega)).mono ?_
    rintro e w16 ⟨hl', n16, rfl, hl0, hl1, D16, M16⟩
    obtain ⟨hl, rfl⟩ := Int.eq_ofNat_of_zero_le hl0
    have HS := Lib.hid (HS.out.dice D16 M16)
    have cx : w16.cell? ⟨gc, 21, none⟩ = some (.int .u8 S0.hl) := HS.out.bl.c 21
    have fx := HS.out.bl.f
    clear D16 M16
    go_wp2_with fail
    obtain ⟨S3, hS3⟩ : ∃ S3 : Sen, S3 = { S0 with hl := hl } := ⟨_, rfl⟩
    have HS : Hid (SB w (w16.setCell ⟨gc, 21, none⟩ (.int .u8 hl)) b v L n16 gr gc S3 B P) := Lib.hid (HS.out.set 21 (.int .u8 hl) (by rw [set_hl, hS3]) (by rw [hS3]))
    have H3 := Lib.hid hS3
    clear cx fx hS3
    generalize w16.setCell ⟨gc, 21, none⟩ (.int .u8 hl) = w17 at HS ⊢
    refine (next_ok w17 b v L _ HS.out.bl.D 5 (by omega) (by omega)).mono ?_
    rintro e w18 ⟨hu', n18, rfl, hu0, hu1, D18, M18⟩
    obtain ⟨hu, rfl⟩ := Int.eq_ofNat_of_zero_le hu0
    have HS := Lib.hid (HS.out.dice D18 M18)
    have cx : w18.cell? ⟨gc, 22, none⟩ = some (.int .u8 S3.hu) := HS.out.bl.c 22
    have fx := HS.out.bl.f
    clear D18 M18
    go_wp2_with fail
    obtain ⟨S4, hS4⟩ : ∃ S4 : Sen, S4 = { S3 with hu := hu } := ⟨_, rfl⟩
    have HS : Hid (SB w (w18.setCell ⟨gc, 22, none⟩ (.int .u8 hu)) b v L n18 gr gc S4 B P) := Lib.hid (HS.out.set 22 (.int .u8 hu) (by rw [set_hu, hS4]) (by rw [hS4]))
    have H4 := Lib.hid (show S4 = { S0 with hl := hl, hu := hu } by rw [hS4, H3.out])
    clear cx fx hS4
    generalize w18.setCell ⟨gc, 22, none⟩ (.int .u8 hu) = w19 at HS ⊢
    refine (bool_ok w19 b v L _ HS.out.bl.D 12 (by omega) (by omega)).mono ?_
    rintro e w20 ⟨q1, n20, rfl, D20, M20⟩
    have HS := Lib.hid (HS.out.dice D20 M20)
    clear D20 M20
    have hhu : hu < 256 := by omega
    have hhl : hl < 256 := by omega
    have hw16 := wrap16 (m := m) (by omega)
    cases q1 with
    | false =>
      have HU := H4
      have c14 : w20.cell? ⟨gc, 14, none⟩ = some (.int .u8 m) := by have := HS.out.bl.c 14; rw [this, HU.out]; show some (Value.int .u8 (S0.mask : Int)) = _; rw [HANA.out.2.2]
      have c24 : w20.cell? ⟨gc, 24, none⟩ = some (.int .u16 S4.asrt) := HS.out.bl.c 24
      have c25 : w20.cell? ⟨gc, 25, none⟩ = some (.int .u16 S4.deas) := HS.out.bl.c 25
      have fx := HS.out.bl.f
      go_wp2_with fail
      obtain ⟨S6, hS6⟩ : ∃ S6 : Sen, S6 = { S0 with hl := hl, hu := hu, asrt := m, deas := m } := ⟨_, rfl⟩
      have HS : Hid (SB w ((w20.setCell ⟨gc, 24, none⟩ (.int .u16 m)).setCell ⟨gc, 25, none⟩ (.int .u16 m)) b v L n20 gr gc S6 B P) := Lib.hid ((HS.out.set (S' := { S4 with asrt := m }) 24 (.int .u16 m) (set_asrt S4 m) rfl).set 25 (.int .u16 m) (by rw [set_deas, hS6, HU.out]) (by rw [hS6, HU.out]))
      have HL := Lib.hid hS6
      clear c14 c24 c25 fx hS6
      generalize (w20.setCell ⟨gc, 24, none⟩ (.int .u16 m)).setCell ⟨gc, 25, none⟩ (.int .u16 m) = w31 at HS ⊢
      refine (bool_ok w31 b v L _ HS.out.bl.D 3 (by omega) (by omega)).mono ?_
      rintro e w32 ⟨q2, n32, rfl, D32, M32⟩
      have HS := Lib.hid (HS.out.dice D32 M32)
      clear D32 M32
      have hmz : m &&& (65535 - m) = 0 := and_sub m (by omega)
      cases q2 with
      | false =>
        have HSB := Lib.hid (show SenBox w32 gc S6 from ⟨HS.out.bl.G⟩)
        have hone := Lib.hid (show S6.conv.pts.oneCell' = true by rw [HL.out]; show S0.conv.pts.oneCell' = true; rw [HANA.out.2.1]; exact HONE.out)
        go_wp2_with (first
          | (refine wpList_load_sen rfl (.tmp 5) rfl HSB.out (by rfl) ?_)
          | (refine wpList_store_row (cs := S6.cells) rfl 32 (.tmp 4) (.tmp 98) rfl HS.out.bl.R (by rfl) (by rfl) (by rfl) (Sen.infoS _) (Sen.one _ hone.out) ?_; intro w39 R39 M39))
        have HB := Lib.hid (HS.out.bl.fin R39 M39)
        have HO := Lib.hid (HS.out.own.mods M39 (by have := HS.out.lt; simp; omega))
        clear R39 M39
        refine bodyPost_ret (results_cell_row rfl _ _ gr _ _ _ _ rfl HB.out.R Try.underlying32 rfl (Sen.infoS _)) rfl ?_
        have hc : S0.conv = C := HANA.out.2.1
        have hm : S0.mask = m := HANA.out.2.2
        have hpts : S6.conv.pts = C.pts := by rw [HL.out]; show S0.conv.pts = _; rw [hc]
        have HO := HO.out
        have hlt := HS.out.lt.2.2.2
        rw [hpts] at HO
        have hic : IsConv w39 S0.conv P := by
          have ⟨i1, i2, i3, i4, i5, i6⟩ := HIC.out
          rw [hc]
          exact ⟨HO.rd, i1, i2, i3, i4, i5, i6⟩
        refine ⟨S6, P, _, rfl, ?_, ?_, by rw [hpts]; exact HO.down hlt, HPL.out, ?_, HB.out.D, HB.out.M⟩
        · rw [HL.out]; exact HANA.out.1.isSen hic hnum hhl (by omega) (by omega) (by omega)
        · rw [HL.out]; exact HANA.out.1.valid (by rw [hm]; exact hmz) (by rw [hm]; exact hmz)
        · rw [HL.out]; exact HANA.out.1.number
      | true =>
        go_wp2_with fail
        refine (next_ok w32 b v L _ HS.out.bl.D 64 (by omega) (by omega)).mono ?_
        rintro e w33 ⟨ra', n33, rfl, ra0, ra1, D33, M33⟩
        obtain ⟨ra, rfl⟩ := Int.eq_ofNat_of_zero_le ra0
        have HS := Lib.hid (HS.out.dice D33 M33)
        have hwa := wrap16 (m := ra) (by omega)
        have haa : bits .andNot .u16 (m : Int) (ra : Int) = ((m &&& (65535 - ra) : Nat) : Int) := u16_andNot_nat _ _ (by omega) (by omega)
        have c24 : w33.cell? ⟨gc, 24, none⟩ = some (.int .u16 S6.asrt) := HS.out.bl.c 24
        have fx := HS.out.bl.f
        clear D33 M33
        go_wp2_with fail
        obtain ⟨S7, hS7⟩ : ∃ S7 : Sen, S7 = { S0 with hl := hl, hu := hu, asrt := m &&& (65535 - ra), deas := m } := ⟨_, rfl⟩
        have HS : Hid (SB w (w33.setCell ⟨gc, 24, none⟩ (.int .u16 ((m &&& (65535 - ra) : Nat) : Int))) b v L n33 gr gc S7 B P) := Lib.hid (HS.out.set 24 _ (by rw [set_asrt, hS7, HL.out]) (by rw [hS7, HL.out]))
        have HL7 := Lib.hid hS7
        clear c24 fx hwa haa hS7
        generalize w33.setCell ⟨gc, 24, none⟩ (.int .u16 ((m &&& (65535 - ra) : Nat) : Int)) = w34 at HS ⊢
        refine (next_ok w34 b v L _ HS.out.bl.D 64 (by omega) (by omega)).mono ?_
        rintro e w35 ⟨rb', n35, rfl, rb0, rb1, D35, M35⟩
        obtain ⟨rb, rfl⟩ := Int.eq_ofNat_of_zero_le rb0
        have HS := Lib.hid (HS.out.dice D35 M35)
        have hwb := wrap16 (m := rb) (by omega)
        have hbb : bits .andNot .u16 (m : Int) (rb : Int) = ((m &&& (65535 - rb) : Nat) : Int) := u16_andNot_nat _ _ (by omega) (by omega)
        have c25 : w35.cell? ⟨gc, 25, none⟩ = some (.int .u16 S7.deas) := HS.out.bl.c 25
        have fx := HS.out.bl.f
        clear D35 M35 HL
        obtain ⟨S8, hS8⟩ : ∃ S8 : Sen, S8 = { S0 with hl := hl, hu := hu, asrt := m &&& (65535 - ra), deas := m &&& (65535 - rb) } := ⟨_, rfl⟩
        have HS : Hid (SB w (w35.setCell ⟨gc, 25, none⟩ (.int .u16 ((m &&& (65535 - rb) : Nat) : Int))) b v L n35 gr gc S8 B P) := Lib.hid (HS.out.set 25 _ (by rw [set_deas, hS8, HL7.out]) (by rw [hS8, HL7.out]))
        have HL := Lib.hid hS8
        clear hS8
        have HSB := Lib.hid (show SenBox (w35.setCell ⟨gc,25,none⟩ (.int .u16 ((m&&&(65535-rb):Nat):Int))) gc S8 from ⟨HS.out.bl.G⟩)
        have hone := Lib.hid (show S8.conv.pts.oneCell' = true by rw [HL.out]; show S0.conv.pts.oneCell' = true; rw [HANA.out.2.1]; exact HONE.out)
        go_wp2_with (first
          | (refine wpList_load_sen rfl (.tmp 5) rfl HSB.out (by rfl) ?_)
          | (refine wpList_store_row (cs := S8.cells) rfl 32 (.tmp 4) (.tmp 98) rfl HS.out.bl.R (by rfl) (by rfl) (by rfl) (Sen.infoS _) (Sen.one _ hone.out) ?_; intro w39 R39 M39))
        have HB := Lib.hid (HS.out.bl.fin R39 M39)
        have HO := Lib.hid (HS.out.own.mods M39 (by have := HS.out.lt; simp; omega))
        clear R39 M39
        refine bodyPost_ret (results_cell_row rfl _ _ gr _ _ _ _ rfl HB.out.R Try.underlying32 rfl (Sen.infoS _)) rfl ?_
        have hc : S0.conv = C := HANA.out.2.1
        have hm : S0.mask = m := HANA.out.2.2
        have hpts : S8.conv.pts = C.pts := by rw [HL.out]; show S0.conv.pts = _; rw [hc]
        have HO := HO.out
        have hlt := HS.out.lt.2.2.2
        rw [hpts] at HO
        have hic : IsConv w39 S0.conv P := by
          have ⟨i1, i2, i3, i4, i5, i6⟩ := HIC.out
          rw [hc]
          exact ⟨HO.rd, i1, i2, i3, i4, i5, i6⟩
        refine ⟨S8, P, _, rfl, ?_, ?_, by rw [hpts]; exact HO.down hlt, HPL.out, ?_, HB.out.D, HB.out.M⟩
        · rw [HL.out]; exact HANA.out.1.isSen hic hnum hhl (by omega) (Nat.lt_of_le_of_lt Nat.and_le_left (show m<65536 by omega)) (Nat.lt_of_le_of_lt Nat.and_le_left (show m<65536 by omega))
        · rw [HL.out]; exact HANA.out.1.valid (by rw [hm]; exact sub_mask m _ (by omega)) (by rw [hm]; exact sub_mask m _ (by omega))
        · rw [HL.out]; exact HANA.out.1.number
    | true =>
      go_wp2_with fail
      refine (byte_ok w20 b v L _ HS.out.bl.D).mono ?_
      rintro e w21 ⟨hv', n21, rfl, hv0, hv1, D21, M21⟩
      obtain ⟨hv2, rfl⟩ := Int.eq_ofNat_of_zero_le hv0
      have HS := Lib.hid (HS.out.dice D21 M21)
      have cx : w21.cell? ⟨gc, 22, none⟩ = some (.int .u8 S4.hu) := HS.out.bl.c 22
      have fx := HS.out.bl.f
      clear D21 M21
      obtain ⟨S5, hS5⟩ : ∃ S5 : Sen, S5 = { S0 with hl := hl, hu := hv2 } := ⟨_, rfl⟩
      have HS : Hid (SB w (w21.setCell ⟨gc, 22, none⟩ (.int .u8 hv2)) b v L n21 gr gc S5 B P) := Lib.hid (HS.out.set 22 (.int .u8 hv2) (by rw [set_hu, hS5, H4.out]) (by rw [hS5, H4.out]))
      have HU := Lib.hid hS5
      clear hS5
      have c14 : (w21.setCell ⟨gc,22,none⟩ (.int .u8 hv2)).cell? ⟨gc, 14, none⟩ = some (.int .u8 m) := by have := HS.out.bl.c 14; rw [this, HU.out]; show some (Value.int .u8 (S0.mask : Int)) = _; rw [HANA.out.2.2]
      have c24 : (w21.setCell ⟨gc,22,none⟩ (.int .u8 hv2)).cell? ⟨gc, 24, none⟩ = some (.int .u16 S5.asrt) := HS.out.bl.c 24
      have c25 : (w21.setCell ⟨gc,22,none⟩ (.int .u8 hv2)).cell? ⟨gc, 25, none⟩ = some (.int .u16 S5.deas) := HS.out.bl.c 25
      have fx := HS.out.bl.f
      go_wp2_with fail
      obtain ⟨S6, hS6⟩ : ∃ S6 : Sen, S6 = { S0 with hl := hl, hu := hv2, asrt := m, deas := m } := ⟨_, rfl⟩
      have HS : Hid (SB w (((w21.setCell ⟨gc,22,none⟩ (.int .u8 hv2)).setCell ⟨gc, 24, none⟩ (.int .u16 m)).setCell ⟨gc, 25, none⟩ (.int .u16 m)) b v L n21 gr gc S6 B P) := Lib.hid ((HS.out.set (S' := { S5 with asrt := m }) 24 (.int .u16 m) (set_asrt S5 m) rfl).set 25 (.int .u16 m) (by rw [set_deas, hS6, HU.out]) (by rw [hS6, HU.out]))
      have HL := Lib.hid hS6
      clear c14 c24 c25 fx hS6
      generalize ((w21.setCell ⟨gc,22,none⟩ (.int .u8 hv2)).setCell ⟨gc, 24, none⟩ (.int .u16 m)).setCell ⟨gc, 25, none⟩ (.int .u16 m) = w31 at HS ⊢
      refine (bool_ok w31 b v L _ HS.out.bl.D 3 (by omega) (by omega)).mono ?_
      rintro e w32 ⟨q2, n32, rfl, D32, M32⟩
      have HS := Lib.hid (HS.out.dice D32 M32)
      clear D32 M32
      have hmz : m &&& (65535 - m) = 0 := and_sub m (by omega)
      cases q2 with
      | false =>
        have HSB := Lib.hid (show SenBox w32 gc S6 from ⟨HS.out.bl.G⟩)
        have hone := Lib.hid (show S6.conv.pts.oneCell' = true by rw [HL.out]; show S0.conv.pts.oneCell' = true; rw [HANA.out.2.1]; exact HONE.out)
        go_wp2_with (first
          | (refine wpList_load_sen rfl (.tmp 5) rfl HSB.out (by rfl) ?_)
          | (refine wpList_store_row (cs := S6.cells) rfl 32 (.tmp 4) (.tmp 98) rfl HS.out.bl.R (by rfl) (by rfl) (by rfl) (Sen.infoS _) (Sen.one _ hone.out) ?_; intro w39 R39 M39))
        have HB := Lib.hid (HS.out.bl.fin R39 M39)
        have HO := Lib.hid (HS.out.own.mods M39 (by have := HS.out.lt; simp; omega))
        clear R39 M39
        refine bodyPost_ret (results_cell_row rfl _ _ gr _ _ _ _ rfl HB.out.R Try.underlying32 rfl (Sen.infoS _)) rfl ?_
        have hc : S0.conv = C := HANA.out.2.1
        have hm : S0.mask = m := HANA.out.2.2
        have hpts : S6.conv.pts = C.pts := by rw [HL.out]; show S0.conv.pts = _; rw [hc]
        have HO := HO.out
        have hlt := HS.out.lt.2.2.2
        rw [hpts] at HO
        have hic : IsConv w39 S0.conv P := by
          have ⟨i1, i2, i3, i4, i5, i6⟩ := HIC.out
          rw [hc]
          exact ⟨HO.rd, i1, i2, i3, i4, i5, i6⟩
        refine ⟨S6, P, _, rfl, ?_, ?_, by rw [hpts]; exact HO.down hlt, HPL.out, ?_, HB.out.D, HB.out.M⟩
        · rw [HL.out]; exact HANA.out.1.isSen hic hnum hhl (by omega) (by omega) (by omega)
        · rw [HL.out]; exact HANA.out.1.valid (by rw [hm]; exact hmz) (by rw [hm]; exact hmz)
        · rw [HL.out]; exact HANA.out.1.number
      | true =>
        go_wp2_with fail
        refine (next_ok w32 b v L _ HS.out.bl.D 64 (by omega) (by omega)).mono ?_
        rintro e w33 ⟨ra', n33, rfl, ra0, ra1, D33, M33⟩
        obtain ⟨ra, rfl⟩ := Int.eq_ofNat_of_zero_le ra0
        have HS := Lib.hid (HS.out.dice D33 M33)
        have hwa := wrap16 (m := ra) (by omega)
        have haa : bits .andNot .u16 (m : Int) (ra : Int) = ((m &&& (65535 - ra) : Nat) : Int) := u16_andNot_nat _ _ (by omega) (by omega)
        have c24 : w33.cell? ⟨gc, 24, none⟩ = some (.int .u16 S6.asrt) := HS.out.bl.c 24
        have fx := HS.out.bl.f
        clear D33 M33
        go_wp2_with fail
        obtain ⟨S7, hS7⟩ : ∃ S7 : Sen, S7 = { S0 with hl := hl, hu := hv2, asrt := m &&& (65535 - ra), deas := m } := ⟨_, rfl⟩
        have HS : Hid (SB w (w33.setCell ⟨gc, 24, none⟩ (.int .u16 ((m &&& (65535 - ra) : Nat) : Int))) b v L n33 gr gc S7 B P) := Lib.hid (HS.out.set 24 _ (by rw [set_asrt, hS7, HL.out]) (by rw [hS7, HL.out]))
        have HL7 := Lib.hid hS7
        clear c24 fx hwa haa hS7
        generalize w33.setCell ⟨gc, 24, none⟩ (.int .u16 ((m &&& (65535 - ra) : Nat) : Int)) = w34 at HS ⊢
        refine (next_ok w34 b v L _ HS.out.bl.D 64 (by omega) (by omega)).mono ?_
        rintro e w35 ⟨rb', n35, rfl, rb0, rb1, D35, M35⟩
        obtain ⟨rb, rfl⟩ := Int.eq_ofNat_of_zero_le rb0
        have HS := Lib.hid (HS.out.dice D35 M35)
        have hwb := wrap16 (m := rb) (by omega)
        have hbb : bits .andNot .u16 (m : Int) (rb : Int) = ((m &&& (65535 - rb) : Nat) : Int) := u16_andNot_nat _ _ (by omega) (by omega)
        have c25 : w35.cell? ⟨gc, 25, none⟩ = some (.int .u16 S7.deas) := HS.out.bl.c 25
        have fx := HS.out.bl.f
        clear D35 M35 HL
        obtain ⟨S8, hS8⟩ : ∃ S8 : Sen, S8 = { S0 with hl := hl, hu := hv2, asrt := m &&& (65535 - ra), deas := m &&& (65535 - rb) } := ⟨_, rfl⟩
        have HS : Hid (SB w (w35.setCell ⟨gc, 25, none⟩ (.int .u16 ((m &&& (65535 - rb) : Nat) : Int))) b v L n35 gr gc S8 B P) := Lib.hid (HS.out.set 25 _ (by rw [set_deas, hS8, HL7.out]) (by rw [hS8, HL7.out]))
        have HL := Lib.hid hS8
        clear hS8
        have HSB := Lib.hid (show SenBox (w35.setCell ⟨gc,25,none⟩ (.int .u16 ((m&&&(65535-rb):Nat):Int))) gc S8 from ⟨HS.out.bl.G⟩)
        have hone := Lib.hid (show S8.conv.pts.oneCell' = true by rw [HL.out]; show S0.conv.pts.oneCell' = true; rw [HANA.out.2.1]; exact HONE.out)
        go_wp2_with (first
          | (refine wpList_load_sen rfl (.tmp 5) rfl HSB.out (by rfl) ?_)
          | (refine wpList_store_row (cs := S8.cells) rfl 32 (.tmp 4) (.tmp 98) rfl HS.out.bl.R (by rfl) (by rfl) (by rfl) (Sen.infoS _) (Sen.one _ hone.out) ?_; intro w39 R39 M39))
        have HB := Lib.hid (HS.out.bl.fin R39 M39)
        have HO := Lib.hid (HS.out.own.mods M39 (by have := HS.out.lt; simp; omega))
        clear R39 M39
        refine bodyPost_ret (results_cell_row rfl _ _ gr _ _ _ _ rfl HB.out.R Try.underlying32 rfl (Sen.infoS _)) rfl ?_
        have hc : S0.conv = C := HANA.out.2.1
        have hm : S0.mask = m := HANA.out.2.2
        have hpts : S8.conv.pts = C.pts := by rw [HL.out]; show S0.conv.pts = _; rw [hc]
        have HO := HO.out
        have hlt := HS.out.lt.2.2.2
        rw [hpts] at HO
        have hic : IsConv w39 S0.conv P := by
          have ⟨i1, i2, i3, i4, i5, i6⟩ := HIC.out
          rw [hc]
          exact ⟨HO.rd, i1, i2, i3, i4, i5, i6⟩
        refine ⟨S8, P, _, rfl, ?_, ?_, by rw [hpts]; exact HO.down hlt, HPL.out, ?_, HB.out.D, HB.out.M⟩
        · rw [HL.out]; exact HANA.out.1.isSen hic hnum hhl (by omega) (Nat.lt_of_le_of_lt Nat.and_le_left (show m<65536 by omega)) (Nat.lt_of_le_of_lt Nat.and_le_left (show m<65536 by omega))
        · rw [HL.out]; exact HANA.out.1.valid (by rw [hm]; exact sub_mask m _ (by omega)) (by rw [hm]; exact sub_mask m _ (by omega))
        · rw [HL.out]; exact HANA.out.1.number
end Go.Proofs.Ytijjkonephjodaa
