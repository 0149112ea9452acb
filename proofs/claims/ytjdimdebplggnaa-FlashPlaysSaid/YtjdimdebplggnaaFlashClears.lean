/- FlashClears: the walk. -/
import Derived.Test.YtjdimdebplggnaaFlashSteps
import Derived.Test.YtjdimdebplggnaaDevIn
import Derived.Test.YtjdimdebplggnaaDo
namespace Go.Proofs.Ytjdimdebplggnaa
open Go.RowKit
theorem tmod_in (a : Int) {m : Int} (hm : 0 < m) : -m < a.tmod m ∧ a.tmod m < m := by
  have h := Int.tmod_eq_emod (a := a) (b := m)
  have h1 := Int.emod_nonneg a (show m ≠ 0 by omega)
  have h2 := Int.emod_lt_of_pos a hm
  split at h <;> rename_i h3
  · omega
  · have h4 : a % m ≠ 0 := fun h0 => h3 (.inr (Int.dvd_of_emod_eq_zero h0))
    omega
/-- The byte j of the bytes after, before: the sector s was erased. -/
def Clear (A B : List Int) (s : Int) (j : Nat) : Prop := (¬ (j : Int) / 64 = s ∧ Less (A.getD j 0) (B.getD j 0)) ∨ ((j : Int) / 64 = s ∧ A.getD j 0 = 255)
theorem clears_erase {D : Dev} {B : Int} (h : D.In 2 64 B) (hd : D.down = false) (hl : D.left ≤ 0) {s : Nat} (hs : s < 2) :
    (D.erase s).2.down = false ∧ ∀ j, j < 128 → Clear (D.erase s).2.data D.data s j := by
  rw [erase_up hd hl (by rw [h.wl]; exact hs)]
  refine ⟨hd, fun j hj => ?_⟩
  have hb := h.ok.byt j
  simp only [h.sz]
  unfold Clear
  rw [orRange_getD _ _ _ _ _ (by rw [h.dl]; exact hj)]
  by_cases hin : s * 64 ≤ j ∧ j < s * 64 + 64
  · rw [if_pos hin]
    exact .inr ⟨by omega, or_ff hb.1 hb.2⟩
  · rw [if_neg hin]
    exact .inl ⟨by omega, Less.refl hb.1 hb.2⟩
theorem clears_prog {D : Dev} (ok : D.Ok) (a : Int) {l : List Int} (hb : Bytes l) (b t : Int) (j : Nat) : Clear (((D.arm b t).program a l).2.restore).data D.data (-1) j := by
  refine .inl ⟨by omega, ?_⟩
  have hd : (D.arm b t).data = D.data := by rw [Dev.arm]; split <;> rfl
  have h : ∀ E : Dev, E.data = D.data → Less ((E.program a l).2.data.getD j 0) (D.data.getD j 0) := by
    intro E he
    rw [Dev.program]
    split
    · rw [he]; exact Less.refl (ok.byt j).1 (ok.byt j).2
    · split
      · rw [← he]; exact run_less l hb E _ (by rw [he]; exact ok.byt) j
      · rw [he]; exact Less.refl (ok.byt j).1 (ok.byt j).2
  exact h _ hd


set_option maxRecDepth 100000 in
set_option maxHeartbeats 2000000 in
theorem flashClears_walk (w : World) (v : Value) (l : List Do) (hv : RdDos w v l) :
    Calls Try.prog 5 #[v] w fun e w' => e = .returned (.bool true) ∧ Mods [] w w' := by
  cases hlb : lightB l with
  | true =>
    have HLB := Lib.hid hlb
    have hll := lightB_len hlb
    have LO := Lib.hid (lightDo_ok w v l hv)
    obtain ⟨ad, cap, rfl, hc1, hc2, HV⟩ := hv
    have HV := Lib.hid HV
    unfold maxLen at hc2
    clear hlb
    go_enter Try.func5, Try.ntmps5
    go_wp2_with fail
    refine LO.out.mono ?_
    rw [HLB.out]
    rintro e w' ⟨rfl, rfl⟩
    go_wp2_with fail
    refine (new264 w).mono ?_
    rintro e w1 ⟨p, rfl, I1, M1, F1⟩
    have HF := Lib.hid F1
    have z1 := M1.size
    clear F1
    go_wp2_with fail
    go_loopw [5] (fun i wr => ∃ (k : Nat) (D : Dev), k ≤ l.length ∧ i = .int .i64 k ∧ IsDev wr p D ∧ D.In 2 64 (201 * k) ∧ D.down = false ∧ Mods [] w wr ∧ w1.heap.size ≤ wr.heap.size) (fun i _ => l.length - (intOf i).toNat)
    case atStart => exact ⟨0, _, by omega, rfl, I1, Dev.In.fresh (by omega) (by omega) (by omega), rfl, M1, Nat.le_refl _⟩
    case round =>
      obtain ⟨k, D0, hk, rfl, I, In0, hd0, hm, hz⟩ := hrel
      have hd0 := Lib.hid hd0
      clear I1 M1
      by_cases hlt : k < l.length
      · have HDL : Hid (∃ d, d = l.getD k default) := ⟨_, rfl⟩
        obtain ⟨dk, hdk⟩ := HDL.out
        obtain ⟨okd, b, off, rfl, vd, x0, x1, x2, x3, x4, rd⟩ := HV.out k hlt
        have hlen := lightB_get HLB.out hlt
        rw [← hdk] at okd x0 x1 x2 x3 rd hlen
        have hdat := okd.d
        have ⟨t0, t1⟩ := okd.t
        have hka := okd.a
        have hkk := okd.k
        have ⟨hb0, hb1⟩ := okd.b
        clear okd hdk HDL
        obtain ⟨kd, ka, kb, kt, kl⟩ := dk
        simp only at x0 x1 x2 x3 rd hdat t0 t1 hka hkk hb0 hb1 hlen
        have hbw : b < w.heap.size := World.block_lt_of_cell? w _ x1
        have far := Lib.hid (DevAt.farB rd HF.out)
        go_wp2_with fail
        refine (restore_ok wr p D0 I).mono ?_
        rintro e w2 ⟨rfl, I2, M2⟩
        have I2 : IsDev w2 p D0.restore := I2
        have In2 := In0.restore
        have hd2 := Lib.hid (show D0.restore.down = false from rfl)
        have hl2 := Lib.hid (show D0.restore.left ≤ 0 from Int.le_refl _)
        generalize D0.restore = D at I2 In2 hd2 hl2
        have hm2 : Mods [] w w2 := hm.comp M2 (fun j hj => .inr (DevAt.b1 HF.out j hj))
        have z2 := M2.size
        have E2 := Lib.hid (In2.read hd2.out)
        have HDL := Lib.hid In2.dl
        clear I In0 hd0 hm M2
        go_wp2_with fail
        refine (read_ok w2 p D I2 In2.ok 0 128).mono ?_
        rw [show D.read 0 128 = (D.data, 0) from E2.out]
        rintro e w3 ⟨v3, rfl, O3, M3⟩
        have I3 := I2.mods0 M3
        have hm3 := hm2.trans M3
        have z3 := M3.size
        have y0 := hm3.cell x0 (by simp)
        have y1 := hm3.cell x1 (by simp)
        have y2 := hm3.cell x2 (by simp)
        have y3 := hm3.cell x3 (by simp)
        have y4 := hm3.cell x4 (by simp)
        have O3lt := Lib.hid O3.lt
        have hlt3 := Lib.hid I2.lt
        clear M3 I2 hm2 x0
        go_wp2_with fail
        refine (mod_ok kd 5 w3 hkk (by omega) (by omega)).mono ?_
        rintro e w3' ⟨rfl, rfl⟩
        have b0 := Int.emod_nonneg kd (show (5 : Int) ≠ 0 by omega)
        have b1 := Int.emod_lt_of_pos kd (show (0 : Int) < 5 by omega)
        generalize kd % 5 = kx at b0 b1 ⊢
        by_cases hk1 : kx = 1
        · subst hk1
          go_wp2_with fail
          refine (mod_ok ka 2 w3 hka (by omega) (by omega)).mono ?_
          rintro e w3' ⟨rfl, rfl⟩
          have a0 := Int.emod_nonneg ka (show (2 : Int) ≠ 0 by omega)
          have a1 := Int.emod_lt_of_pos ka (show (0 : Int) < 2 by omega)
          obtain ⟨s, hs⟩ := Int.eq_ofNat_of_zero_le a0
          rw [hs] at a1 ⊢
          clear a0 hs
          have HCL := clears_erase In2 hd2.out hl2.out (show s < 2 by omega)
          have hd6 := HCL.1
          have HT := Lib.hid HCL.2
          clear HCL y0 y1 y2 y3 y4
          go_wp2_with fail
          refine (erase_ok w3 p D I3 In2.ok (s : Int) (by have := In2.st; omega) (fun i => by have := In2.we i; omega)).mono ?_
          rintro e w6 ⟨rfl, I6, M6⟩
          have In6 := In2.erase (s : Int)
          have In6 := In6.mono (show 201 * (k : Int) + 1 ≤ 201 * (k : Int) + 201 by omega)
          generalize (D.erase (s : Int)).2 = D6 at I6 In6 hd6 HT
          generalize (D.erase (s : Int)).1 = r6
          have hm6 : Mods [] w w6 := hm3.comp M6 (fun j hj => .inr (HF.out j hj))
          have z6 := M6.size
          have C6 := M6.owns O3 (fun j hj hj2 => by have := O3lt.out j hj; have := hlt3.out j hj2; omega)
          clear I3 hm3 O3 M6 In2
          obtain ⟨sv, hsv⟩ : ∃ sv : Int, sv = (s : Int) := ⟨_, rfl⟩
          rw [← hsv] at HT ⊢
          clear hsv
          have E6 := Lib.hid (In6.read hd6)
          have HL6 := Lib.hid In6.dl
          go_wp2_with fail
          refine (read_ok w6 p D6 I6 In6.ok 0 128).mono ?_
          rw [show D6.read 0 128 = (D6.data, 0) from E6.out]
          rintro e w7 ⟨v7, rfl, O7, M7⟩
          have I7 := I6.mods0 M7
          have hm7 := hm6.trans M7
          have z7 := M7.size
          have C7 := M7.owns C6 (fun _ _ => by simp)
          obtain ⟨a7, c7, rfl, hca, hcb, HC⟩ := (Rd.own O7).u8
          obtain ⟨a8, c8, rfl, hcc, hcd, HD⟩ := (Rd.own C7).u8
          rw [show D6.data.length = 128 from HL6.out] at hca HC ⊢
          rw [show D.data.length = 128 from HDL.out] at hcc HD ⊢
          have HC := Lib.hid HC
          have HD := Lib.hid HD
          have I7 := Lib.hid I7
          have hm7 := Lib.hid hm7
          have HI6 := Lib.hid In6
          have hd6 := Lib.hid hd6
          clear O7 C7 M7 I6 hm6 C6 In6
          unfold maxLen at hcb hcd
          go_wp2_with fail
          go_loopw [11] (fun i wr => ∃ (j n : Nat), j ≤ 128 ∧ i = .int .i64 j ∧ wr = w7.drewN n) (fun i _ => 128 - (intOf i).toNat)
          case atStart => exact ⟨0, 0, by omega, rfl, rfl⟩
          case round =>
            obtain ⟨j, nd, hj, rfl, rfl⟩ := hrel
            by_cases hlt2 : j < 128
            · obtain ⟨bc, oc, hbc, hc9⟩ := HC.out j hlt2
              subst hbc
              obtain ⟨bd, od, hbd, hd9⟩ := HD.out j hlt2
              subst hbd
              have HX := HT.out j hlt2
              unfold Clear at HX
              have i0 : (0 : Int) ≤ (j : Int) := by omega
              have i1 : (j : Int) < 128 := by omega
              generalize D6.data.getD j 0 = x at hc9 HX
              generalize D.data.getD j 0 = y at hd9 HX
              rcases HX with ⟨h1, h2⟩ | ⟨h1, h2⟩
              · have e1 : ((j : Int) / 64 == sv) = false := by simp; exact h1
                have e2 : ((j : Int) / 64 != sv) = true := by simp [bne]; exact h1
                have e3 := h2.none
                clear h1 h2
                go_wp2_with fail
                go_quiet (fail)
                go_wp2
                go_roundw
                case rel => exact ⟨j + 1, nd + nq, by omega, by go_num, by first | rfl | rw [World.drewN_drewN]⟩
                case measure => simp [intOf]; omega
              · have e1 : ((j : Int) / 64 == sv) = true := by simp; exact h1
                have e2 : ((j : Int) / 64 != sv) = false := by simp [bne]; exact h1
                rw [h2] at hc9
                clear h1 h2
                go_wp2_with fail
                go_quiet (fail)
                go_wp2
                go_roundw
                case rel => exact ⟨j + 1, nd + nq, by omega, by go_num, by first | rfl | rw [World.drewN_drewN]⟩
                case measure => simp [intOf]; omega
            · go_wp2
              go_roundw
              case rel => exact ⟨k + 1, D6, by omega, by go_num, IsDev.drewN I7.out nd, HI6.out.mono (by omega), hd6.out, hm7.out.drewN nd, by show _ ≤ w7.heap.size; omega⟩
              case measure => simp [intOf]; omega
        · have e1 : (kx == 1) = false := by simpa using hk1
          clear hk1
          have ⟨m0, m1⟩ := tmod_in kb (m := 40) (by omega)
          generalize hb : kb.tmod 40 = bx at m0 m1
          have HBX := Lib.hid hb
          clear hb
          go_wp2_with fail
          go_still_tail 12, (by kernel_rfl)
          change wpList _ _ _ _ _ w3.drew
          rw [HBX.out]
          have I4 := I3.drewN 1
          have hm4 := hm3.drew
          have O4 : w3.drew.ownsRow _ _ 1 v3 _ _ := O3
          have z4 : w3.drew.heap.size = w3.heap.size := rfl
          have y1 : w3.drew.cell? _ = _ := y1
          have y4 : w3.drew.cell? _ = _ := y4
          clear y2 y3 y0
          change IsDev w3.drew p D at I4
          generalize w3.drew = w4 at I4 hm4 O4 z4 y1 y4 ⊢
          clear I3 hm3 O3
          have HT := Lib.hid (fun j (_ : j < 128) => clears_prog In2.ok (nearI ka 128) hdat bx kt j)
          go_wp2_with fail
          refine (arm_ok w4 p D I4 bx kt).mono ?_
          rintro e w5 ⟨rfl, I5, M5⟩
          have In5 := In2.arm (s := bx) (t := kt) (by omega) t0 t1
          generalize D.arm bx kt = D5 at I5 In5 HT
          have hm5 := hm4.comp M5 (fun j hj => .inr (DevAt.b1 HF.out j hj))
          have z5 := M5.size
          have y1 := M5.cell y1 (fun hj => by have : _ ≤ b := DevAt.b1 HF.out _ hj; omega)
          have y4 := M5.cell y4 (fun hj => by have : _ ≤ b := DevAt.b1 HF.out _ hj; omega)
          have C5 := M5.owns O4 (fun j hj hj2 => by have := O3lt.out j hj; have := hlt3.out j (DevAt.b1f hj2); omega)
          clear I4 hm4 O4 M5
          go_wp2_with fail
          go_still_tail 12, (by kernel_rfl)
          still_call ((near_ok ka 128 _ hka (by omega) (by omega)).mono fun _ _ ⟨h1, h2⟩ => ⟨h1, h2.symm⟩)
          repeat still_step
          refine wpStill_nil ?_
          change wpList _ _ _ _ _ w5.drew
          have I5b := I5.drewN 1
          have hm5b := hm5.drew
          have O5b : w5.drew.ownsRow _ _ 1 v3 _ _ := C5
          have z5b : w5.drew.heap.size = w5.heap.size := rfl
          change IsDev w5.drew p D5 at I5b
          have rd5b := rd.mods0 hm5b
          clear y1 y4
          generalize w5.drew = w5b at I5b hm5b O5b z5b rd5b ⊢
          clear I5 hm5 C5
          go_wp2_with fail
          refine (program_ok w5b p D5 I5b In5.ok (nearI ka 128) vd kl rd5b hdat far.out (by have := In5.st; omega)).mono ?_
          rintro e w8 ⟨rfl, I8, M8⟩
          have In8 := (In5.program (nearI ka 128) kl).mono (show 201 * (k : Int) + (kl.length : Int) ≤ 201 * (k : Int) + 201 by omega)
          generalize (D5.program (nearI ka 128) kl).2 = D8 at I8 In8 HT
          generalize (D5.program (nearI ka 128) kl).1 = r8
          have hm8 := hm5b.comp M8 (fun j hj => .inr (DevAt.bg HF.out j hj))
          have z8 := M8.size
          have C8 := M8.owns O5b (fun j hj hj2 => by have := O3lt.out j hj; have := hlt3.out j (DevAt.bgf hj2); omega)
          clear I5b hm5b O5b M8 rd5b In5
          go_wp2_with fail
          refine (restore_ok w8 p D8 I8).mono ?_
          rintro e w6 ⟨rfl, I6, M6⟩
          have I6 : IsDev w6 p D8.restore := I6
          have In6 := In8.restore
          have hd6 : D8.restore.down = false := rfl
          generalize D8.restore = D6 at I6 In6 hd6 HT
          have hm6 := hm8.comp M6 (fun j hj => .inr (DevAt.b1 HF.out j hj))
          have z6 := M6.size
          have C6 := M6.owns C8 (fun j hj hj2 => by have := O3lt.out j hj; have := hlt3.out j (DevAt.b1f hj2); omega)
          clear I8 hm8 C8 M6 In8 In2
          obtain ⟨sv, hsv⟩ : ∃ sv : Int, sv = -1 := ⟨_, rfl⟩
          rw [← hsv] at HT ⊢
          clear hsv
          have E6 := Lib.hid (In6.read hd6)
          have HL6 := Lib.hid In6.dl
          go_wp2_with fail
          refine (read_ok w6 p D6 I6 In6.ok 0 128).mono ?_
          rw [show D6.read 0 128 = (D6.data, 0) from E6.out]
          rintro e w7 ⟨v7, rfl, O7, M7⟩
          have I7 := I6.mods0 M7
          have hm7 := hm6.trans M7
          have z7 := M7.size
          have C7 := M7.owns C6 (fun _ _ => by simp)
          obtain ⟨a7, c7, rfl, hca, hcb, HC⟩ := (Rd.own O7).u8
          obtain ⟨a8, c8, rfl, hcc, hcd, HD⟩ := (Rd.own C7).u8
          rw [show D6.data.length = 128 from HL6.out] at hca HC ⊢
          rw [show D.data.length = 128 from HDL.out] at hcc HD ⊢
          have HC := Lib.hid HC
          have HD := Lib.hid HD
          have I7 := Lib.hid I7
          have hm7 := Lib.hid hm7
          have HI6 := Lib.hid In6
          have hd6 := Lib.hid hd6
          clear O7 C7 M7 I6 hm6 C6 In6
          unfold maxLen at hcb hcd
          go_wp2_with fail
          go_loopw [11] (fun i wr => ∃ (j n : Nat), j ≤ 128 ∧ i = .int .i64 j ∧ wr = w7.drewN n) (fun i _ => 128 - (intOf i).toNat)
          case atStart => exact ⟨0, 0, by omega, rfl, rfl⟩
          case round =>
            obtain ⟨j, nd, hj, rfl, rfl⟩ := hrel
            by_cases hlt2 : j < 128
            · obtain ⟨bc, oc, hbc, hc9⟩ := HC.out j hlt2
              subst hbc
              obtain ⟨bd, od, hbd, hd9⟩ := HD.out j hlt2
              subst hbd
              have HX := HT.out j hlt2
              unfold Clear at HX
              have i0 : (0 : Int) ≤ (j : Int) := by omega
              have i1 : (j : Int) < 128 := by omega
              generalize D6.data.getD j 0 = x at hc9 HX
              generalize D.data.getD j 0 = y at hd9 HX
              rcases HX with ⟨h1, h2⟩ | ⟨h1, h2⟩
              · have e1 : ((j : Int) / 64 == sv) = false := by simp; exact h1
                have e2 : ((j : Int) / 64 != sv) = true := by simp [bne]; exact h1
                have e3 := h2.none
                clear h1 h2
                go_wp2_with fail
                go_quiet (fail)
                go_wp2
                go_roundw
                case rel => exact ⟨j + 1, nd + nq, by omega, by go_num, by first | rfl | rw [World.drewN_drewN]⟩
                case measure => simp [intOf]; omega
              · have e1 : ((j : Int) / 64 == sv) = true := by simp; exact h1
                have e2 : ((j : Int) / 64 != sv) = false := by simp [bne]; exact h1
                rw [h2] at hc9
                clear h1 h2
                go_wp2_with fail
                go_quiet (fail)
                go_wp2
                go_roundw
                case rel => exact ⟨j + 1, nd + nq, by omega, by go_num, by first | rfl | rw [World.drewN_drewN]⟩
                case measure => simp [intOf]; omega
            · go_wp2
              go_roundw
              case rel => exact ⟨k + 1, D6, by omega, by go_num, IsDev.drewN I7.out nd, HI6.out.mono (by omega), hd6.out, hm7.out.drewN nd, by show _ ≤ w7.heap.size; omega⟩
              case measure => simp [intOf]; omega
      · go_wp2_with fail
        refine (awake_ok wr).mono ?_
        rintro e w11 ⟨rfl, hmm⟩
        go_wp2
        go_ret
        exact ⟨rfl, hm.trans hmm⟩
  | false =>
    have LO := Lib.hid (lightDo_ok w v l hv)
    have HLB := Lib.hid hlb
    clear hv hlb
    go_enter Try.func5, Try.ntmps5
    go_wp2_with fail
    refine LO.out.mono ?_
    rw [HLB.out]
    rintro e w' ⟨rfl, rfl⟩
    go_wp2_with fail
    refine (awake_ok w).mono ?_
    rintro e w' ⟨rfl, hm⟩
    go_wp2
    go_ret
    exact ⟨rfl, hm⟩
end Go.Proofs.Ytjdimdebplggnaa
