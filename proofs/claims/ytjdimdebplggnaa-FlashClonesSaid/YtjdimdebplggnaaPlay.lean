/- play, equal: contracts. -/
import Derived.Test.YtjdimdebplggnaaFlashClears
namespace Go.Proofs.Ytjdimdebplggnaa
open Go.RowKit
/-- What one thing told makes of a device of the laws. -/
def Dev.told (D : Dev) (d : Do) : Dev :=
  if d.kind % 5 = 0 ∨ d.kind % 5 = 2 then (D.program (nearI d.a 128) d.data).2 else if d.kind % 5 = 1 then (D.erase (nearI d.a 2)).2 else if d.kind % 5 = 3 then D.arm (d.a.tmod 50) d.torn else D.restore
def Dev.play (D : Dev) (l : List Do) : Dev := l.foldl Dev.told D
theorem Dev.play_succ (D : Dev) (l : List Do) {k : Nat} (h : k < l.length) : D.play (l.take (k + 1)) = (D.play (l.take k)).told (l.getD k default) := by
  rw [List.take_succ_eq_append_getElem h, Dev.play, List.foldl_append, List.getD_eq_getElem?_getD, List.getElem?_eq_getElem h]
  rfl
set_option maxRecDepth 100000 in
set_option maxHeartbeats 2000000 in
theorem play_ok (w0 w : World) (p : DevAt) (D : Dev) (I : IsDev w p D) (B : Int) (hB : B ≤ 1000000000) (In : D.In 2 64 B) (v : Value) (l : List Do) (hv : RdDos w0 v l) (hm0 : Mods [] w0 w) (hlb : lightB l = true) (hfr : ∀ k ∈ p.foot, w0.heap.size ≤ k) :
    Calls Try.prog 37 #[.pointer (some ⟨p.b, 0, none⟩), v] w fun e w' => e = .returned (.tuple #[]) ∧ IsDev w' p (D.play l) ∧ (D.play l).In 2 64 (B + 12060) ∧ Mods p.foot w w' := by
  have HLB := Lib.hid hlb
  have hll := lightB_len hlb
  obtain ⟨ad, cap, rfl, hc1, hc2, HV⟩ := hv
  have HV := Lib.hid HV
  have HF := Lib.hid hfr
  have HM0 := Lib.hid hm0
  unfold maxLen at hc2
  clear hlb hfr hm0
  go_enter Try.func37, Try.ntmps37
  go_wp2_with fail
  go_loopw [4] (fun i wr => ∃ (k : Nat), k ≤ l.length ∧ i = .int .i64 k ∧ IsDev wr p (D.play (l.take k)) ∧ (D.play (l.take k)).In 2 64 (B + 201 * k) ∧ Mods p.foot w wr) (fun i _ => l.length - (intOf i).toNat)
  case atStart => exact ⟨0, by omega, rfl, I, by simpa [Dev.play] using In, Mods.refl⟩
  case round =>
    obtain ⟨k, hk, rfl, I2, In2, hm⟩ := hrel
    clear I In
    by_cases hlt : k < l.length
    · have HP := Lib.hid (D.play_succ l hlt)
      have hlen := lightB_get HLB.out hlt
      obtain ⟨okd, b, off, rfl, vd, x0, x1, x2, x3, x4, rd⟩ := HV.out k hlt
      generalize l.getD k default = dk at okd x0 x1 x2 x3 rd hlen HP
      generalize D.play (l.take k) = E at I2 In2 HP
      have hdat := okd.d
      have ⟨t0, t1⟩ := okd.t
      have hka := okd.a
      have hkk := okd.k
      clear okd
      obtain ⟨kd, ka, kb, kt, kl⟩ := dk
      simp only at x0 x1 x2 x3 rd hdat t0 t1 hka hkk hlen
      have hbw : b < w0.heap.size := World.block_lt_of_cell? w0 _ x1
      have hmw : Mods p.foot w0 wr := HM0.out.nil.comp hm (fun j hj => .inl hj)
      have nb : b ∉ p.foot := fun h => by have := HF.out b h; omega
      have far := Lib.hid (DevAt.farB rd HF.out)
      have y0 := hmw.cell x0 nb
      have y1 := hmw.cell x1 nb
      have y3 := hmw.cell x3 nb
      have y4 := hmw.cell x4 nb
      have rd1 := Lib.hid (rd.mods hmw (fun hl j hj hj2 => by have := rd.block_lt hl j hj; have := HF.out j hj2; omega))
      clear x0 x1 x2 x3 x4 hmw nb rd
      go_wp2_with fail
      refine (mod_ok kd 5 wr hkk (by omega) (by omega)).mono ?_
      rintro e w3' ⟨rfl, rfl⟩
      have b0 := Int.emod_nonneg kd (show (5 : Int) ≠ 0 by omega)
      have b1 := Int.emod_lt_of_pos kd (show (0 : Int) < 5 by omega)
      have HT := Lib.hid (show E.told ⟨kd, ka, kb, kt, kl⟩ = if kd % 5 = 0 ∨ kd % 5 = 2 then (E.program (nearI ka 128) kl).2 else if kd % 5 = 1 then (E.erase (nearI ka 2)).2 else if kd % 5 = 3 then E.arm (ka.tmod 50) kt else E.restore from rfl)
      generalize kd % 5 = kx at b0 b1 HT ⊢
      by_cases c0 : kx = 0 ∨ kx = 2
      · have HT := Lib.hid (HT.out.trans (if_pos c0))
        have HI := Lib.hid ((In2.program (nearI ka 128) kl).mono (show B + 201 * (k : Int) + kl.length ≤ B + 201 * ((k + 1 : Nat) : Int) by omega))
        rcases c0 with rfl | rfl
        · clear y0 y3
          go_wp2_with fail
          go_still_tail 12, (by kernel_rfl)
          still_call ((near_ok ka 128 _ hka (by omega) (by omega)).mono fun _ _ ⟨h1, h2⟩ => ⟨h1, h2.symm⟩)
          repeat still_step
          refine wpStill_nil ?_
          change wpList _ _ _ _ _ wr.drew
          have I3 := I2.drewN 1
          change IsDev wr.drew p E at I3
          have hm3 := hm.drew
          have rd3 := rd1.out.mods0 (Mods.refl (w := wr)).drew
          generalize wr.drew = w3 at I3 hm3 rd3 ⊢
          clear I2 hm y1 y4
          go_wp2_with fail
          refine (program_ok w3 p E I3 In2.ok (nearI ka 128) vd kl rd3 hdat far.out (by have := In2.st; omega)).mono ?_
          rintro e w4 ⟨rfl, I4, M4⟩
          have hm4 := Lib.hid (hm3.comp M4 (fun j hj => .inl (DevAt.bgf hj)))
          have I4 := Lib.hid I4
          clear I3 hm3 M4 rd3 In2
          go_wp2
          go_roundw
          case rel => exact ⟨k + 1, by omega, by go_num, by rw [HP.out, HT.out]; exact I4.out, by rw [HP.out, HT.out]; exact HI.out, hm4.out⟩
          case measure => simp [intOf]; omega
        · clear y0 y3
          go_wp2_with fail
          go_still_tail 12, (by kernel_rfl)
          still_call ((near_ok ka 128 _ hka (by omega) (by omega)).mono fun _ _ ⟨h1, h2⟩ => ⟨h1, h2.symm⟩)
          repeat still_step
          refine wpStill_nil ?_
          change wpList _ _ _ _ _ wr.drew
          have I3 := I2.drewN 1
          change IsDev wr.drew p E at I3
          have hm3 := hm.drew
          have rd3 := rd1.out.mods0 (Mods.refl (w := wr)).drew
          generalize wr.drew = w3 at I3 hm3 rd3 ⊢
          clear I2 hm y1 y4
          go_wp2_with fail
          refine (program_ok w3 p E I3 In2.ok (nearI ka 128) vd kl rd3 hdat far.out (by have := In2.st; omega)).mono ?_
          rintro e w4 ⟨rfl, I4, M4⟩
          have hm4 := Lib.hid (hm3.comp M4 (fun j hj => .inl (DevAt.bgf hj)))
          have I4 := Lib.hid I4
          clear I3 hm3 M4 rd3 In2
          go_wp2
          go_roundw
          case rel => exact ⟨k + 1, by omega, by go_num, by rw [HP.out, HT.out]; exact I4.out, by rw [HP.out, HT.out]; exact HI.out, hm4.out⟩
          case measure => simp [intOf]; omega
      · have HT := Lib.hid (HT.out.trans (if_neg c0))
        have n0 : kx ≠ 0 := fun h => c0 (.inl h)
        have n2 : kx ≠ 2 := fun h => c0 (.inr h)
        clear c0 rd1 y0 y4
        by_cases c1 : kx = 1
        · have HT := Lib.hid (HT.out.trans (if_pos c1))
          have HI := Lib.hid ((In2.erase (nearI ka 2)).mono (show B + 201 * (k : Int) + 1 ≤ B + 201 * ((k + 1 : Nat) : Int) by omega))
          subst c1
          clear y3 n0 n2
          go_wp2_with fail
          refine (near_ok ka 2 wr hka (by omega) (by omega)).mono ?_
          rintro e w3' ⟨rfl, rfl⟩
          clear y1
          go_wp2_with fail
          refine (erase_ok wr p E I2 In2.ok (nearI ka 2) (by have := In2.st; omega) (fun i => by have := In2.we i; omega)).mono ?_
          rintro e w4 ⟨rfl, I4, M4⟩
          have hm4 := Lib.hid (hm.trans M4)
          have I4 := Lib.hid I4
          clear I2 hm M4 In2
          go_wp2
          go_roundw
          case rel => exact ⟨k + 1, by omega, by go_num, by rw [HP.out, HT.out]; exact I4.out, by rw [HP.out, HT.out]; exact HI.out, hm4.out⟩
          case measure => simp [intOf]; omega
        · have HT := Lib.hid (HT.out.trans (if_neg c1))
          have e0 : (kx == 0) = false := by simpa using n0
          have e1 : (kx == 1) = false := by simpa using c1
          have e2 : (kx == 2) = false := by simpa using n2
          clear n0 n2 c1
          by_cases c3 : kx = 3
          · have HT := Lib.hid (HT.out.trans (if_pos c3))
            have ⟨m0, m1⟩ := tmod_in ka (m := 50) (by omega)
            have HI := Lib.hid ((In2.arm (s := ka.tmod 50) (t := kt) (by omega) t0 t1).mono (show B + 201 * (k : Int) ≤ B + 201 * ((k + 1 : Nat) : Int) by omega))
            subst c3
            clear e0 e1 e2
            go_wp2_with fail
            go_still_tail 12, (by kernel_rfl)
            change wpList _ _ _ _ _ wr.drew
            have I3 := I2.drewN 1
            change IsDev wr.drew p E at I3
            have hm3 := hm.drew
            generalize wr.drew = w3 at I3 hm3 ⊢
            clear I2 hm y1 y3
            generalize ka.tmod 50 = bx at HI HT m0 m1 ⊢
            go_wp2_with fail
            refine (arm_ok w3 p E I3 bx kt).mono ?_
            rintro e w4 ⟨rfl, I4, M4⟩
            have hm4 := Lib.hid (hm3.comp M4 (fun j hj => .inl (DevAt.b1f hj)))
            have I4 := Lib.hid I4
            clear I3 hm3 M4 In2
            go_wp2
            go_roundw
            case rel => exact ⟨k + 1, by omega, by go_num, by rw [HP.out, HT.out]; exact I4.out, by rw [HP.out, HT.out]; exact HI.out, hm4.out⟩
            case measure => simp [intOf]; omega
          · have HT := Lib.hid (HT.out.trans (if_neg c3))
            have e3 : (kx == 3) = false := by simpa using c3
            have HI := Lib.hid (In2.restore.mono (show B + 201 * (k : Int) ≤ B + 201 * ((k + 1 : Nat) : Int) by omega))
            clear c3 y1 y3
            go_wp2_with fail
            refine (restore_ok wr p E I2).mono ?_
            rintro e w4 ⟨rfl, I4, M4⟩
            have hm4 := Lib.hid (hm.comp M4 (fun j hj => .inl (DevAt.b1f hj)))
            have I4 := Lib.hid I4
            clear I2 hm M4 In2
            go_wp2
            go_roundw
            case rel => exact ⟨k + 1, by omega, by go_num, by rw [HP.out, HT.out]; exact I4.out, by rw [HP.out, HT.out]; exact HI.out, hm4.out⟩
            case measure => simp [intOf]; omega
    · obtain rfl : k = l.length := by omega
      rw [List.take_length] at I2 In2
      have HI := Lib.hid In2
      have HD := Lib.hid I2
      have HM := Lib.hid hm
      clear I2 In2 hm
      go_wp2
      go_end0
      exact ⟨rfl, HD.out, HI.out.mono (by omega), HM.out⟩
set_option maxRecDepth 100000 in
set_option maxHeartbeats 1000000 in
theorem equal_ok (w : World) (p q : DevAt) (D : Dev) (I : IsDev w p D) (J : IsDev w q D) (ok : D.Ok) :
    Calls Try.prog 39 #[.pointer (some ⟨p.b, 0, none⟩), .pointer (some ⟨q.b, 0, none⟩)] w fun e w' => e = .returned (.bool true) ∧ Mods [] w w' := by
  have HQ := Lib.hid (show (D.wear == D.wear) = true by simp)
  have HR : Hid (∃ r, r = D.read 0 128) := ⟨_, rfl⟩
  obtain ⟨r, hr⟩ := HR.out
  have HR2 := Lib.hid hr.symm
  have HQ2 := Lib.hid (show (r.1 == r.1) = true by simp)
  clear hr HR
  go_enter Try.func39, Try.ntmps39
  go_wp2_with fail
  refine (down_ok w p D I).mono ?_
  rintro e w' ⟨rfl, rfl⟩
  go_wp2_with fail
  refine (down_ok w q D J).mono ?_
  rintro e w' ⟨rfl, rfl⟩
  go_wp2_with fail
  refine (steps_ok w p D I).mono ?_
  rintro e w' ⟨rfl, rfl⟩
  go_wp2_with fail
  refine (steps_ok w q D J).mono ?_
  rintro e w' ⟨rfl, rfl⟩
  go_wp2_with fail
  refine (wear_ok w p D I ok).mono ?_
  rintro e w1 ⟨v1, rfl, O1, M1⟩
  have I1 := I.mods0 M1
  have J1 := J.mods0 M1
  have S1 := Lib.hid (Rd.own O1)
  clear I J O1
  go_wp2_with fail
  refine (wear_ok w1 q D J1 ok).mono ?_
  rintro e w2 ⟨v2, rfl, O2, M2⟩
  have I2 := I1.mods0 M2
  have J2 := J1.mods0 M2
  have S2 := Lib.hid (S1.out.mods0 M2)
  have S3 := Lib.hid (Rd.own O2)
  have N2 := M1.trans M2
  clear I1 J1 O2 M1 M2 S1
  go_wp2_with fail
  refine (sameInts_ok w2 _ _ _ _ S2.out S3.out).mono ?_
  rw [HQ.out]
  rintro e w3 ⟨rfl, n, rfl⟩
  have I3 := I2.drewN n
  have J3 := J2.drewN n
  have N3 := N2.drewN n
  generalize w2.drewN n = w3 at I3 J3 N3 ⊢
  clear I2 J2 N2 S2 S3
  go_wp2_with fail
  refine (size_ok w3 p D I3).mono ?_
  rintro e w' ⟨rfl, rfl⟩
  go_wp2_with fail
  refine (size_ok w3 q D J3).mono ?_
  rintro e w' ⟨rfl, rfl⟩
  go_wp2_with fail
  refine (read_ok w3 p D I3 ok 0 128).mono ?_
  rw [HR2.out]
  rintro e w4 ⟨v4, rfl, O4, M4⟩
  have J4 := J3.mods0 M4
  have N4 := N3.trans M4
  have S4 := Lib.hid (Rd.own O4)
  clear I3 J3 N3 O4 M4
  go_wp2_with fail
  refine (read_ok w4 q D J4 ok 0 128).mono ?_
  rw [HR2.out]
  rintro e w5 ⟨v5, rfl, O5, M5⟩
  have N5 := N4.trans M5
  have S5 := Lib.hid (S4.out.mods0 M5)
  have S6 := Lib.hid (Rd.own O5)
  clear J4 N4 O5 M5 S4
  go_wp2_with fail
  refine (same_ok w5 _ _ _ _ S5.out S6.out).mono ?_
  rw [HQ2.out]
  rintro e w6 ⟨rfl, n, rfl⟩
  have N6 := Lib.hid (N5.drewN n)
  clear N5
  go_wp2
  go_ret
  exact ⟨rfl, N6.out⟩
end Go.Proofs.Ytjdimdebplggnaa
