/- FlashDown: the walk. -/
import Derived.Test.YtjdimdebplggnaaFlashClears
import Derived.Test.YtjdimdebplggnaaFlashParts
namespace Go.Proofs.Ytjdimdebplggnaa
open Go.RowKit
/-- The device behind the Erase that failed. -/
def Dev.downed (bs : List Int) (t : Int) : Dev := { Dev.with bs with left := 0, torn := t, steps := 129, down := true, wear := [0, 1], data := orRange bs 64 64 t }
theorem downed_erase (bs : List Int) (t : Int) : ((Dev.with bs).arm 1 t).erase 1 = (10, Dev.downed bs t) := by
  rw [show (Dev.with bs).arm 1 t = { Dev.with bs with left := 1, torn := t } from by rw [Dev.arm_up rfl]; rfl]
  rw [Dev.erase, if_neg (by simp [Dev.with, Dev.fresh]), if_pos (by simp [Dev.with, Dev.fresh])]
  rfl
/-- A slice of the first bytes of a row. -/
theorem head_rd {w : World} {g : Nat} {T : TypeId} {bs : List Int} (h : RowAt w g T 128 (u8s bs)) (hl : bs.length = 128) {m : Nat} (hm : m ≤ 128) : Rd w (.slice (some ⟨g, 0, none⟩) m 128) (u8s (bs.take m)) := by
  have h1 := cut_rd (k := 0) (m := m) h (by rw [u8s_length, hl]; omega)
  rw [if_neg (by omega), u8s_cut] at h1
  exact h1
theorem down_back {bs : List Int} (hl : bs.length = 128) (t : Int) (D : Dev) (hD : D = (Dev.downed bs t).restore) : D.read 0 64 = (bs.take 64, 0) ∧ (D.program 0 (bs.take 64)).1 = 0 ∧ (D.program 0 (bs.take 64)).2.down = false := by
  have hlen : D.data.length = 128 := by rw [hD]; simp only [Dev.restore, Dev.downed, orRange_len]; exact hl
  have hd : D.down = false := by rw [hD]; rfl
  have hlf : D.left ≤ 0 := by rw [hD]; exact Int.le_refl _
  have hp := prog_up (n := 0) (l := bs.take 64) hd hlf (by rw [hlen, List.length_take, hl]; omega)
  rw [show ((0 : Nat) : Int) = (0 : Int) from rfl] at hp
  refine ⟨?_, by rw [hp], by rw [hp]; exact hd⟩
  have hf : fits D 0 64 = true := by simp [fits, hlen]
  rw [Dev.read, if_neg (by rw [hd]; simp), if_pos hf]
  refine congrArg (·, 0) ?_
  have e : D.data = orRange bs 64 64 t := by rw [hD]; rfl
  rw [e]
  simp only [Int.toNat_zero, List.drop_zero, show Int.toNat 64 = 64 from rfl]
  refine ext_getD (by rw [List.length_take, List.length_take, orRange_len]) fun j hj => ?_
  rw [List.length_take, orRange_len, hl] at hj
  have h1 := orRange_getD bs 64 64 t j (by rw [hl]; omega)
  rw [if_neg (by omega)] at h1
  simp only [List.getD_eq_getElem?_getD, List.getElem?_take] at h1 ⊢
  rw [if_pos (by omega), if_pos (by omega), h1]
theorem down_no {D : Dev} (h : D.down = true) : (∀ a l, D.program a l = (10, D)) ∧ (∀ s, D.erase s = (10, D)) ∧ (∀ s t, D.arm s t = D) :=
  ⟨fun a l => by rw [Dev.program, if_pos h], fun s => by rw [Dev.erase, if_pos h], fun s t => by rw [Dev.arm, if_pos h]⟩
theorem down_out {bs : List Int} (hl : bs.length = 128) : (Dev.with bs).program (-1) [0] = (2, Dev.with bs) ∧ (Dev.with bs).program 128 [0] = (2, Dev.with bs) ∧ (Dev.with bs).erase (-1) = (2, Dev.with bs) ∧ (Dev.with bs).erase 2 = (2, Dev.with bs) ∧ (Dev.with bs).read 127 2 = ([], 2) := by
  have hd : ¬ (Dev.with bs).down = true := by simp [Dev.with, Dev.fresh]
  have hw : (Dev.with bs).wear.length = 2 := by simp [Dev.with, Dev.fresh]
  have hlen : (Dev.with bs).data.length = 128 := hl
  refine ⟨?_, ?_, ?_, ?_, ?_⟩
  · rw [Dev.program, if_neg hd, if_neg (by simp [fits, hlen])]
  · rw [Dev.program, if_neg hd, if_neg (by simp [fits, hlen])]
  · rw [Dev.erase, if_neg hd, if_neg (by omega)]
  · rw [Dev.erase, if_neg hd, if_neg (by omega)]
  · rw [Dev.read, if_neg hd, if_neg (by simp [fits, hlen])]
theorem bytes_one : Bytes [0] := by intro i; match i with | 0 => simp | n + 1 => simp

set_option maxRecDepth 100000 in
set_option maxHeartbeats 2000000 in
theorem flashDown_walk (w : World) (v : Value) (L : List Int) (hv : Rd w v (i64s L)) (hb : ∀ i, I64 (L.getD i 0)) (vm : Value) (m : List Do) (hvm : RdDos w vm m) (torn : Int) (ht : 0 ≤ torn ∧ torn ≤ 255) :
    Calls Try.prog 6 #[v, vm, .int .u8 torn] w fun e w' => e = .returned (.bool true) ∧ Mods [] w w' := by
  have HAW := Lib.hid (awake_ok w)
  have LO := Lib.hid (lightDo_ok w vm m hvm)
  have LI := Lib.hid (light_ok w v L hv)
  by_cases hl : L.length ≤ 600
  · have HL := Lib.hid (show decide (L.length ≤ 600) = true by simpa using hl)
    cases hlb : lightB m with
    | false =>
      have HLB := Lib.hid hlb
      clear hlb hv hb hvm
      go_enter Try.func6, Try.ntmps6
      go_wp2_with fail
      refine LI.out.mono ?_
      rw [HL.out]
      rintro e w' ⟨rfl, rfl⟩
      go_wp2_with fail
      refine LO.out.mono ?_
      rw [HLB.out]
      rintro e w' ⟨rfl, rfl⟩
      go_wp2_with fail
      refine HAW.out.mono ?_
      rintro e w' ⟨rfl, hm⟩
      go_wp2
      go_ret
      exact ⟨rfl, hm⟩
    | true =>
      have HLB := Lib.hid hlb
      have hll := lightB_len hlb
      have HV := Lib.hid hv
      have HB := Lib.hid hb
      obtain ⟨ad, cap, rfl, hc1, hc2, HD⟩ := hvm
      have HD := Lib.hid HD
      unfold maxLen at hc2
      obtain ⟨t0, t1⟩ := ht
      clear hlb hv hb
      go_enter Try.func6, Try.ntmps6
      go_wp2_with fail
      refine LI.out.mono ?_
      rw [HL.out]
      rintro e w' ⟨rfl, rfl⟩
      go_wp2_with fail
      refine LO.out.mono ?_
      rw [HLB.out]
      rintro e w' ⟨rfl, rfl⟩
      go_wp2_with fail
      refine (made_ok w v L HV.out (by omega) HB.out).mono ?_
      rintro e w1 ⟨p, gb, bs, rfl, hbl, hby, I1, R1, M1, F1, G1, E1⟩
      have I1 : IsDev w1 p (Dev.with bs) := I1
      have HBL := Lib.hid hbl
      have HF := Lib.hid F1
      have HE := Lib.hid E1
      have HLT := Lib.hid I1.lt
      have z1 := M1.size
      have HO := Lib.hid (down_out hbl)
      have HX := Lib.hid (downed_erase bs torn)
      have okw := Dev.with_ok hbl hby
      have okx := erase_Ok (arm_Ok okw 1 torn (by omega) t0 t1) 1
      rw [HX.out] at okx
      have HST := Lib.hid (show (Dev.with bs).steps = 128 from rfl)
      have HSX := Lib.hid (show (Dev.downed bs torn).steps = 129 from rfl)
      have HDX := Lib.hid (show (Dev.downed bs torn).down = true from rfl)
      have HWX := Lib.hid (wears_small (D := (Dev.with bs).arm 1 torn) (fun i => by rw [Dev.arm_up rfl]; simp only [Dev.with, Dev.fresh, getD_replicate]; split <;> rfl))
      have HSA := Lib.hid (show ((Dev.with bs).arm 1 torn).steps = 128 by rw [Dev.arm_up rfl]; rfl)
      have oka := arm_Ok okw 1 torn (by omega) t0 t1
      have HWW := Lib.hid (wears_small (D := Dev.with bs) (fun i => by simp only [Dev.with, Dev.fresh, getD_replicate]; split <;> rfl))
      have HWD := Lib.hid (show ∀ i, (Dev.downed bs torn).wear.getD i 0 ≤ 4611686018427000000 from fun i => by
        show ([0, 1] : List Int).getD i 0 ≤ _
        match i with
        | 0 => simp
        | 1 => simp
        | i + 2 => simp)
      have okb := restore_Ok okx
      have HBB := Lib.hid (down_back hbl torn _ rfl)
      generalize hDX : Dev.downed bs torn = DX at HX HBB okx HSX HDX HWD okb
      generalize hDW : Dev.with bs = D at HO I1 okw HST HWW HX HWX HSA oka
      generalize hDA : D.arm 1 torn = DA at HX HWX HSA oka
      have HDA := Lib.hid hDA
      clear hbl F1 E1 hDW hDA hDX
      go_wp2_with fail
      have I2 := I1.mods0 (Mods.refl.alloc (.cells #[.int .u8 0] 5))
      have R2 := R1.mods (S := []) (Mods.refl.alloc (.cells #[.int .u8 0] 5)) (by simp)
      have N2 := M1.alloc (.cells #[.int .u8 0] 5)
      have HR : Hid (Rd (w1.alloc (.cells #[.int .u8 0] 5)) (.slice (some ⟨w1.heap.size, 0, none⟩) 1 1) (u8s [0])) := rd_lit [0] (heap_new _ _) (by decide)
      have z2 : w1.heap.size < (w1.alloc (.cells #[.int .u8 0] 5)).heap.size := by simp
      generalize w1.alloc (.cells #[.int .u8 0] 5) = w2 at I2 R2 N2 HR z2 ⊢
      clear I1 R1 M1
      refine (program_ok w2 p D I2 okw (-1) _ [0] HR.out bytes_one (fun _ j hj => by simp only [Value.ownBlock, Option.some.injEq] at hj; subst hj; have h1 := HLT.out p.b (by simp [DevAt.foot]); have h2 := HLT.out p.g (by simp [DevAt.foot]); simp; omega) (by rw [HST.out]; omega)).mono ?_
      rw [HO.out.1]
      rintro e w3 ⟨rfl, I3, M3⟩
      have R3 := R2.mods M3 (fun h => HE.out (DevAt.bgf h))
      have N3 := N2.comp M3 (fun j hj => .inr (DevAt.bg HF.out j hj))
      have z3 := M3.size
      clear I2 R2 M3 HR N2
      go_wp2_with fail
      have I4 := I3.mods0 (Mods.refl.alloc (.cells #[.int .u8 0] 5))
      have R4 := R3.mods (S := []) (Mods.refl.alloc (.cells #[.int .u8 0] 5)) (by simp)
      have N4 := N3.alloc (.cells #[.int .u8 0] 5)
      have HR : Hid (Rd (w3.alloc (.cells #[.int .u8 0] 5)) (.slice (some ⟨w3.heap.size, 0, none⟩) 1 1) (u8s [0])) := rd_lit [0] (heap_new _ _) (by decide)
      have z4 : w3.heap.size < (w3.alloc (.cells #[.int .u8 0] 5)).heap.size := by simp
      generalize w3.alloc (.cells #[.int .u8 0] 5) = w4 at I4 R4 N4 HR z4 ⊢
      clear I3 R3 N3
      refine (program_ok w4 p D I4 okw 128 _ [0] HR.out bytes_one (fun _ j hj => by simp only [Value.ownBlock, Option.some.injEq] at hj; subst hj; have h1 := HLT.out p.b (by simp [DevAt.foot]); have h2 := HLT.out p.g (by simp [DevAt.foot]); simp; omega) (by rw [HST.out]; omega)).mono ?_
      rw [HO.out.2.1]
      rintro e w5 ⟨rfl, I5, M5⟩
      have R5 := R4.mods M5 (fun h => HE.out (DevAt.bgf h))
      have N5 := N4.comp M5 (fun j hj => .inr (DevAt.bg HF.out j hj))
      have z5 := M5.size
      clear I4 R4 M5 HR N4
      go_wp2_with fail
      refine (erase_ok w5 p D I5 okw (-1) (by rw [HST.out]; omega) HWW.out).mono ?_
      rw [HO.out.2.2.1]
      rintro e w6 ⟨rfl, I6, M6⟩
      have R6 := R5.mods M6 HE.out
      have N6 := N5.comp M6 (fun j hj => .inr (HF.out j hj))
      clear I5 R5 M6 N5
      go_wp2_with fail
      refine (erase_ok w6 p D I6 okw 2 (by rw [HST.out]; omega) HWW.out).mono ?_
      rw [HO.out.2.2.2.1]
      rintro e w7 ⟨rfl, I7, M7⟩
      have R7 := R6.mods M7 HE.out
      have N7 := N6.comp M7 (fun j hj => .inr (HF.out j hj))
      clear I6 R6 M7 N6
      go_wp2_with fail
      refine (read_ok w7 p D I7 okw 127 2).mono ?_
      rw [HO.out.2.2.2.2]
      rintro e w8 ⟨v8, rfl, O8, M8⟩
      have I8 := I7.mods0 M8
      have R8 := R7.mods M8 (by simp)
      have N8 := N7.trans M8
      obtain ⟨a8, c8, rfl⟩ := (Rd.own O8).len
      clear I7 R7 M8 N7 O8
      go_wp2_with fail
      refine (steps_ok w8 p D I8).mono ?_
      rw [HST.out]
      rintro e w8' ⟨rfl, rfl⟩
      go_wp2_with fail
      refine (arm_ok w8 p D I8 1 torn).mono ?_
      rintro e w9 ⟨rfl, I9, M9⟩
      have R9 := R8.mods M9 (fun h => HE.out (DevAt.b1f h))
      have N9 := N8.comp M9 (fun j hj => .inr (DevAt.b1 HF.out j hj))
      rw [HDA.out] at I9
      clear I8 R8 N8 M9
      go_wp2_with fail
      refine (erase_ok w9 p DA I9 oka 1 (by rw [HSA.out]; omega) HWX.out).mono ?_
      rw [HX.out]
      rintro e w10 ⟨rfl, I10, M10⟩
      have R10 := R9.mods M10 HE.out
      have N10 := N9.comp M10 (fun j hj => .inr (HF.out j hj))
      clear I9 R9 N9 M10 okw oka
      have HNO := Lib.hid (down_no HDX.out)
      go_wp2_with fail
      go_loopw [17] (fun i wr => ∃ (k : Nat), k ≤ m.length ∧ i = .int .i64 k ∧ IsDev wr p DX ∧ RowAt wr gb 5 128 (u8s bs) ∧ Mods [] w wr) (fun i _ => m.length - (intOf i).toNat)
      case atStart => exact ⟨0, by omega, rfl, I10, R10, N10⟩
      case round =>
        obtain ⟨k, hk, rfl, I, R, hm⟩ := hrel
        clear I10 R10 N10
        by_cases hlt : k < m.length
        · have HDL : Hid (∃ d, d = m.getD k default) := ⟨_, rfl⟩
          obtain ⟨dk, hdk⟩ := HDL.out
          obtain ⟨okd, b, off, rfl, vd, x0, x1, x2, x3, x4, rd⟩ := HD.out k hlt
          have hlen := lightB_get HLB.out hlt
          rw [← hdk] at okd x0 x1 x2 x3 rd hlen
          have hdat := okd.d
          have hka := okd.a
          have hkb := okd.b
          clear okd hdk HDL
          obtain ⟨kd, ka, kb, kt, kl⟩ := dk
          simp only at x0 x1 x2 x3 rd hdat hka hkb hlen
          have hbw : b < w.heap.size := World.block_lt_of_cell? w _ x1
          have far := Lib.hid (DevAt.farB rd HF.out)
          have y1 := hm.cell x1 (by simp)
          have y2 := hm.cell x2 (by simp)
          have y4 := hm.cell x4 (by simp)
          clear x0 x1 x3 x4
          go_wp2_with fail
          go_still_tail 12, (by kernel_rfl)
          still_call ((near_ok ka 128 _ hka (by omega) (by omega)).mono fun _ _ ⟨h1, h2⟩ => ⟨h1, h2.symm⟩)
          repeat still_step
          refine wpStill_nil ?_
          change wpList _ _ _ _ _ wr.drew
          have I2 := I.drewN 1
          have R2 : RowAt wr.drew gb 5 128 (u8s bs) := R.mods (S := []) Mods.refl.drew (by simp)
          have hm2 := hm.drew
          have y2 : wr.drew.cell? _ = _ := y2
          change IsDev wr.drew p DX at I2
          have rd2 := rd.mods0 hm2
          clear y1 y4 x2
          generalize wr.drew = w2' at I2 R2 hm2 rd2 y2 ⊢
          clear I R hm
          go_wp2_with fail
          refine (program_ok w2' p DX I2 okx (nearI ka 128) vd kl rd2 hdat far.out (by rw [HSX.out]; omega)).mono ?_
          rw [HNO.out.1]
          rintro e w3' ⟨rfl, I3, M3⟩
          have R3 := R2.mods M3 (fun h => HE.out (DevAt.bgf h))
          have hm3 := hm2.comp M3 (fun j hj => .inr (DevAt.bg HF.out j hj))
          have y2 := M3.cell y2 (fun hj => by have : _ ≤ b := DevAt.bg HF.out _ hj; omega)
          clear I2 R2 hm2 rd2 M3
          go_wp2_with fail
          refine (erase_ok w3' p DX I3 okx 0 (by rw [HSX.out]; omega) HWD.out).mono ?_
          rw [HNO.out.2.1]
          rintro e w4' ⟨rfl, I4, M4⟩
          have R4 := R3.mods M4 HE.out
          have hm4 := hm3.comp M4 (fun j hj => .inr (HF.out j hj))
          have y2 := M4.cell y2 (fun hj => by have : _ ≤ b := HF.out _ hj; omega)
          clear I3 R3 hm3 M4
          go_wp2_with fail
          refine (mod_ok kb 9 w4' hkb (by omega) (by omega)).mono ?_
          rintro e w2'' ⟨rfl, rfl⟩
          have b0 := Int.emod_nonneg kb (show (9 : Int) ≠ 0 by omega)
          have b1 := Int.emod_lt_of_pos kb (show (0 : Int) < 9 by omega)
          generalize kb % 9 = y at b0 b1 ⊢
          clear y2
          go_wp2_with fail
          refine (arm_ok w4' p DX I4 (1 + y) torn).mono ?_
          rw [HNO.out.2.2]
          rintro e w5' ⟨rfl, I5, M5⟩
          have R5 := R4.mods M5 (fun h => HE.out (DevAt.b1f h))
          have hm5 := hm4.comp M5 (fun j hj => .inr (DevAt.b1 HF.out j hj))
          clear I4 R4 hm4 M5
          go_wp2_with fail
          refine (down_ok w5' p DX I5).mono ?_
          rw [HDX.out]
          rintro e w5'' ⟨rfl, rfl⟩
          go_wp2_with fail
          refine (steps_ok w5' p DX I5).mono ?_
          rw [HSX.out]
          rintro e w5'' ⟨rfl, rfl⟩
          have I5 := Lib.hid I5
          have R5 := Lib.hid R5
          have hm5 := Lib.hid hm5
          go_wp2
          go_roundw
          case rel => exact ⟨k + 1, by omega, by go_num, I5.out, R5.out, hm5.out⟩
          case measure => simp [intOf]; omega
        · go_wp2_with fail
          refine (restore_ok wr p DX I).mono ?_
          rintro e w2' ⟨rfl, I2, M2⟩
          have I2 : IsDev w2' p DX.restore := I2
          have R2 := R.mods M2 (fun h => HE.out (DevAt.b1f h))
          have hm2 := hm.comp M2 (fun j hj => .inr (DevAt.b1 HF.out j hj))
          have HSB := Lib.hid (show DX.restore.steps = 129 from HSX.out)
          generalize DX.restore = DB at I2 HBB okb HSB
          clear I R hm M2
          go_wp2_with fail
          refine (read_ok w2' p DB I2 okb 0 64).mono ?_
          rw [HBB.out.1]
          rintro e w3' ⟨v3, rfl, O3, M3⟩
          have I3 := I2.mods0 M3
          have R3 := R2.mods M3 (by simp)
          have hm3 := hm2.trans M3
          have S3 := Lib.hid (Rd.own O3)
          clear I2 R2 hm2 M3 O3
          go_wp2_with fail
          have HR := Lib.hid (head_rd R3 HBL.out (show 64 ≤ 128 by omega))
          refine (same_ok w3' _ _ _ _ S3.out HR.out).mono ?_
          rintro e w4' ⟨rfl, nd, rfl⟩
          rw [show (bs.take 64 == bs.take 64) = true by simp]
          have I4 := I3.drewN nd
          have R4 : RowAt (w3'.drewN nd) gb 5 128 (u8s bs) := R3.mods (S := []) (Mods.refl.drewN nd) (by simp)
          have hm4 := hm3.drewN nd
          clear HR S3 I3 R3 hm3
          generalize w3'.drewN nd = w4' at I4 R4 hm4 ⊢
          go_wp2_with fail
          have HR := Lib.hid (head_rd R4 HBL.out (show 64 ≤ 128 by omega))
          refine (program_ok w4' p DB I4 okb 0 _ (bs.take 64) HR.out (bytes_take hby _) (fun _ j hj => by simp only [Value.ownBlock, Option.some.injEq] at hj; subst hj; exact fun h => HE.out (DevAt.bgf h)) (by rw [HSB.out]; omega)).mono ?_
          rw [HBB.out.2.1]
          rintro e w5' ⟨rfl, I5, M5⟩
          have HDN := Lib.hid HBB.out.2.2
          generalize (DB.program 0 (bs.take 64)).2 = DC at I5 HDN
          have hm5 := hm4.comp M5 (fun j hj => .inr (DevAt.bg HF.out j hj))
          clear I4 R4 hm4 M5 HR
          go_wp2_with fail
          refine (down_ok w5' p DC I5).mono ?_
          rw [HDN.out]
          rintro e w5'' ⟨rfl, rfl⟩
          go_wp2_with fail
          refine (awake_ok w5').mono ?_
          rintro e w6' ⟨rfl, hmm⟩
          go_wp2
          go_ret
          exact ⟨rfl, hm5.trans hmm⟩
  · have HL := Lib.hid (show decide (L.length ≤ 600) = false by simpa using hl)
    clear hl hv hb hvm
    go_enter Try.func6, Try.ntmps6
    go_wp2_with fail
    refine LI.out.mono ?_
    rw [HL.out]
    rintro e w' ⟨rfl, rfl⟩
    go_wp2_with fail
    refine HAW.out.mono ?_
    rintro e w' ⟨rfl, hm⟩
    go_wp2
    go_ret
    exact ⟨rfl, hm⟩
end Go.Proofs.Ytjdimdebplggnaa
