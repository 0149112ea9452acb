/- SensorDecoded: the walk. -/
import Derived.Test.YtgjjmiaiclhidaaSensorReturns
import Derived.Test.YtgjjmiaiclhidaaBaseK
import Derived.Test.YtgjjmiaiclhidaaBaseH
namespace Go.Proofs.Ytgjjmiaiclhidaa
open Go.RowKit

set_option maxRecDepth 100000 in
set_option maxHeartbeats 8000000 in
theorem sensorDecoded_walk (w : World) (v0 : Value) (B0 : List Int) (hv0 : Rd w v0 (u8s B0)) (hb0 : Bytes B0) (v : Value) (L : List Int) (hv : Rd w v (i64s L)) (hb : ∀ i, -9223372036854775808 ≤ L.getD i 0 ∧ L.getD i 0 ≤ 9223372036854775807) :
    Calls Try.prog 5 #[v0, v] w fun e w' => e = .returned (.bool true) ∧ Mods [] w w' := by
  have HV0 := Lib.hid hv0
  have HB0 := Lib.hid hb0
  obtain ⟨ad0, cap0, rfl⟩ := hv0.len
  rw [u8s_length] at HV0 ⊢
  clear hv0 hb0
  have HL := Lib.hid (light_ok w v L hv)
  have HV := Lib.hid hv
  have HB := Lib.hid hb
  clear hv hb
  by_cases hl : L.length ≤ 600
  · skip
    have HLL := Lib.hid (decide_eq_true hl)
    by_cases hB : B0.length ≤ 300
    · have e0 : decide ((B0.length : Int) > 300) = false := decide_eq_false (by omega)
      have e1 : ¬ (300 : Int) < (B0.length : Int) := by omega
      go_enter Try.func5, Try.ntmps5
      go_wp2_with fail
      refine HL.out.mono ?_
      rw [HLL.out]
      rintro e w' ⟨rfl, rfl⟩
      go_wp2_with fail
      refine (roll_ok w v L HV.out (by omega) HB.out).mono ?_
      rintro e w1 ⟨rfl, D1, M1, z1⟩
      have HM1 := Lib.hid M1
      have HD1 := Lib.hid D1
      clear M1 D1 z1 HV HB HL e0 e1
      go_wp2_with fail
      refine (byte_ok w1 _ v L 0 HD1.out).mono ?_
      rintro e w2 ⟨num, n2, rfl, nu0, nu1, D2, M2⟩
      obtain ⟨num, rfl⟩ := Int.eq_ofNat_of_zero_le nu0
      have HM2 := Lib.hid (HM1.out.comp M2 (fun q hq => by simp at hq; subst hq; exact .inr (Nat.le_refl _)))
      have HD2 := Lib.hid D2
      clear M2 D2 HM1 HD1
      go_wp2_with fail
      refine (sensor_ok w2 _ v L n2 HD2.out num (by omega)).mono ?_
      rintro e w3 ⟨S, P, n3, rfl, IS, VS, OP, PL, SN, D3, M3⟩
      have HM3 := Lib.hid (HM2.out.comp M3 (fun q hq => by simp at hq; subst hq; exact .inr (Nat.le_refl _)))
      have HIS := Lib.hid IS
      have HVS := Lib.hid VS
      have HD3 := Lib.hid D3
      have hvl := Lib.hid D3.vlt
      clear M3 D3 IS VS OP PL SN HM2 HD2
      go_wp2_with fail
      refine (refEncS_ok w3 S P HIS.out).mono ?_
      rw [HVS.out]
      rintro e w5 h5
      unfold EncRes at h5
      rw [if_pos rfl] at h5
      obtain ⟨u, rfl, O5, M5⟩ := h5
      have hlen := senL_len HVS.out
      have hsl : (seal8 (senL S P)).length = (senL S P).length + 1 := by simp [seal8]
      have hsb := seal8_bytes (senL_bytes HIS.out HVS.out).1
      obtain ⟨g, c, cur, hu, hgc, hc1, hc2, hc3, hc4⟩ := owns_form O5 (by rw [u8s_length]; omega)
      rw [u8s_length] at hu
      subst hu
      have HO5 := Lib.hid (show OwnB w5 w3.heap.size (.slice (some ⟨g, 0, none⟩) (seal8 (senL S P)).length c) (seal8 (senL S P)) from O5)
      have HM5 := Lib.hid (HM3.out.trans M5)
      have HD5 := Lib.hid (HD3.out.mods0 M5)
      clear O5 M5 HM3 HD3 HIS HVS hgc hc3 hc4
      rw [u8s_length] at hc1
      generalize seal8 (senL S P) = A at HO5 hsb hsl hc1 ⊢
      have hA1 : 10 ≤ A.length := by omega
      have hA2 : A.length ≤ 124 := by omega
      have HSB := Lib.hid hsb
      clear hlen hsl hsb
      obtain ⟨Q, hQ⟩ : ∃ Q, Q = A.take (A.length - 1) := ⟨_, rfl⟩
      have HR5 := Lib.hid (HO5.out.rd.take (A.length - 1) (by omega))
      rw [← hQ] at HR5
      have hQl : Q.length = A.length - 1 := by rw [hQ, List.length_take]; omega
      have HQB := Lib.hid (show Bytes Q by rw [hQ]; exact HSB.out.take _)
      have hq1 : 1 ≤ Q.length := by omega
      have hq2 : Q.length ≤ 200 := by omega
      have z0 : (0 : Int) ≤ (A.length : Int) - 1 := by omega
      have z1 : (A.length : Int) - 1 ≤ (c : Int) := by omega
      have z2 : ((A.length : Int) - 1).toNat = A.length - 1 := by omega
      have z3 : (1 : Int) ≤ (A.length : Int) := by omega
      clear hQ hQl
      go_wp2_with (at_builtin; refine wpList_appB (by rfl) (.const (.slice none 0 0)) (.tmp 38) rfl (by rfl) (OwnB.nil w5 w5.heap.size) (by rfl) HR5.out (by simp; omega) (Nat.le_refl _) ?_; intro vB wB OB MB; rw [List.nil_append] at OB; obtain ⟨gB, cB, curB, hvB, hgB, hcB1, -⟩ := owns_form OB (by rw [u8s_length]; omega); subst hvB; rw [u8s_length] at OB ⊢; have HOB := Lib.hid OB; have HMB := Lib.hid (show Mods [] w5 wB from MB); clear OB MB hgB)
      have HXB := Lib.hid (HM5.out.trans HMB.out)
      have HDB := Lib.hid (HD5.out.mods0 HMB.out)
      have hgb := (HOB.out.lt gB rfl)
      have hb5 := HD5.out.lt
      rw [u8s_length] at hcB1
      clear z0 z1 z2 z3 HO5 HR5 HMB HM5 HD5 HSB hc1 hA1 hA2
      refine (next_ok wB _ v L _ HDB.out _ (by omega) (by omega)).mono ?_
      rintro e w6 ⟨r, n6, rfl, r0, r1, D6, M6⟩
      obtain ⟨r, rfl⟩ := Int.eq_ofNat_of_zero_le r0
      have hrq : r < Q.length := by omega
      have HO6 := Lib.hid (HOB.out.mods M6 (fun q hq => by simp [Value.ownBlock] at hq; subst hq; simp; omega))
      have HX6 := Lib.hid (HXB.out.comp M6 (fun q hq => by simp at hq; subst hq; exact .inr (Nat.le_refl _)))
      have HD6 := Lib.hid D6
      clear D6 M6 HOB HXB HDB
      go_wp2_with fail
      refine (byte_ok w6 _ v L _ HD6.out).mono ?_
      rintro e w7 ⟨x, n7, rfl, x0, x1, D7, M7⟩
      have HO7 := Lib.hid (HO6.out.mods M7 (fun q hq => by simp [Value.ownBlock] at hq; subst hq; simp; omega))
      have HX7 := Lib.hid (HX6.out.comp M7 (fun q hq => by simp at hq; subst hq; exact .inr (Nat.le_refl _)))
      clear D7 M7 HO6 HX6 HD6
      have cx : w7.cell? ⟨gB, r, none⟩ = some (.int .u8 (Q.getD r 0)) := by
        obtain ⟨_, _, he, _, _, hc⟩ := HO7.out.rd.u8
        injection he with he1 _ _
        obtain ⟨b, o, h, hx⟩ := hc r hrq
        rw [← he1] at h
        cases h
        rw [Nat.zero_add] at hx
        exact hx
      have fx : w7.frozen? ⟨gB, r, none⟩ = false := by
        obtain ⟨g', _, cur', he, hgb', _⟩ := owns_form HO7.out (by rw [u8s_length]; omega)
        injection he with he _ _
        injection he with he
        injection he with he _
        subst he
        exact froz_blk hgb' r
      have HQ8 := Lib.hid (HQB.out.set r (show 0 ≤ x ∧ x ≤ 255 from ⟨x0, x1⟩))
      have HO8 := Lib.hid (HO7.out.set hrq x).1
      have HX8 := Lib.hid (HX7.out.setCell (p := ⟨gB, r, none⟩) (.inr (by show w.heap.size ≤ gB; omega)) (.int .u8 x))
      have i1 : (0 : Int) ≤ (r : Int) := by omega
      have i2 : (r : Int) < (Q.length : Int) := by omega
      have hcB2 : cB ≤ 9223372036854775807 := by
        obtain ⟨_, _, he, _, h2, _⟩ := HO7.out.rd
        injection he with _ _ he3
        subst he3
        exact h2
      generalize Q.getD r 0 = q0 at cx
      go_wp2_with fail
      clear cx fx HO7 HX7 HQB
      generalize w7.setCell ⟨gB, r, none⟩ (.int .u8 x) = w8 at HO8 HX8 ⊢
      have hql : (Q.set r x).length ≤ 200 := by rw [List.length_set]; exact hq2
      refine (refSeal8_ok w8 _ (Q.set r x) HO8.out.rd HQ8.out (by omega)).mono ?_
      rintro e w9 ⟨u1, rfl, O9, M9⟩
      obtain ⟨g9, c9, cur9, hu9, -⟩ := owns_form O9 (by rw [u8s_length]; simp [seal8])
      rw [u8s_length] at hu9
      subst hu9
      have HR1 := Lib.hid (Rd.own O9)
      have HX9 := Lib.hid (HX8.out.trans M9)
      have HB1 := Lib.hid (seal8_bytes HQ8.out)
      have hl1 : (seal8 (Q.set r x)).length ≤ 400 := by simp only [seal8, List.length_append, List.length_cons, List.length_nil]; omega
      clear O9 M9 HO8 HX8 HQ8 hql
      generalize seal8 (Q.set r x) = A1 at HR1 HB1 hl1 ⊢
      go_wp2_with fail
      refine (refSeal8_ok w9 _ B0 (HV0.out.mods0 HX9.out) HB0.out (by omega)).mono ?_
      rintro e wa ⟨u2, rfl, Oa, Ma⟩
      obtain ⟨ga, ca, cura, hua, -⟩ := owns_form Oa (by rw [u8s_length]; simp [seal8])
      rw [u8s_length] at hua
      subst hua
      have HR2 := Lib.hid (Rd.own Oa)
      have HXa := Lib.hid (HX9.out.trans Ma)
      have HR1a := Lib.hid (HR1.out.mods0 Ma)
      have HB2 := Lib.hid (seal8_bytes HB0.out)
      have hl2 : (seal8 B0).length ≤ 400 := by simp only [seal8, List.length_append, List.length_cons, List.length_nil]; omega
      clear Oa Ma HR1 HX9
      generalize seal8 B0 = A2 at HR2 HB2 hl2 ⊢
      go_wp2_with fail
      have ML := (Mods.refl (S := []) (w := wa)).alloc (.cells #[.slice ad0 B0.length cap0, .slice (some ⟨g9, 0, none⟩) A1.length c9, .slice (some ⟨ga, 0, none⟩) A2.length ca] 33)
      have HBL := Lib.hid (heap_alloc_new wa (.cells #[.slice ad0 B0.length cap0, .slice (some ⟨g9, 0, none⟩) A1.length c9, .slice (some ⟨ga, 0, none⟩) A2.length ca] 33))
      have HXL := Lib.hid (HXa.out.trans ML)
      have HR0 := Lib.hid (HV0.out.mods0 HXL.out)
      have HR1 := Lib.hid (HR1a.out.mods0 ML)
      have HR2 := Lib.hid (HR2.out.mods0 ML)
      generalize wa.alloc (.cells #[.slice ad0 B0.length cap0, .slice (some ⟨g9, 0, none⟩) A1.length c9, .slice (some ⟨ga, 0, none⟩) A2.length ca] 33) = wL at HBL HXL HR0 HR1 HR2 ⊢
      generalize wa.heap.size = gL at HBL ⊢
      clear ML HXa HR1a
      have HTQ : Hid (∀ q, q < 3 → ∃ u T, wL.cell? ⟨gL, q, none⟩ = some u ∧ Rd wL u (u8s T) ∧ Bytes T ∧ T.length ≤ 400) := Lib.hid (fun q hq => by
        match q, hq with
        | 0, _ => exact ⟨_, B0, cell_blk HBL.out 0, HR0.out, HB0.out, by omega⟩
        | 1, _ => exact ⟨_, A1, cell_blk HBL.out 1, HR1.out, HB1.out, hl1⟩
        | 2, _ => exact ⟨_, A2, cell_blk HBL.out 2, HR2.out, HB2.out, hl2⟩)
      clear HR0 HR1 HR2 HB1 HB2 hl1 hl2 HV0 HB0 HBL i1 i2 hrq r0 r1 x0 x1 hcB1 hcB2 hgb hb5 hq1 hq2
      go_loopw [55] (fun i wr => ∃ q : Nat, q ≤ 3 ∧ i = .int .i64 q ∧ Mods [] wL wr) (fun i _ => 3 - (intOf i).toNat)
      case atStart => exact ⟨0, by omega, rfl, Mods.refl⟩
      case round =>
        obtain ⟨q, hq, rfl, M⟩ := hrel
        have i1 : (0 : Int) ≤ (q : Int) := by omega
        by_cases hq3 : q < 3
        · obtain ⟨u, T, hu, RT, BT, lT⟩ := HTQ.out q hq3
          obtain ⟨at1, ct1, rfl⟩ := RT.len
          rw [u8s_length] at hu RT
          have cu : wr.cell? ⟨gL, q, none⟩ = some (.slice at1 T.length ct1) := M.cell hu (by simp)
          have HRT := Lib.hid (RT.mods0 M)
          have HBT := Lib.hid BT
          have HM := Lib.hid M
          have i2 : (q : Int) < 3 := by omega
          clear hu RT BT M
          go_wp2_with fail
          clear cu
          refine (senDec_ok wr _ T HRT.out HBT.out (by omega)).mono ?_
          rintro e wx hx
          by_cases he : errS T = 0
          · obtain ⟨pv, rfl, ISx, Mx⟩ := hx.good HBT.out he
            obtain ⟨q9, qs, qx⟩ := errS_parts he
            obtain ⟨hsl, hvl⟩ := senc_dec (X := T.dropLast) (by rw [List.dropLast_eq_take]; exact HBT.out.take _) qx pv
            have hsT : seal8 T.dropLast = T := seal_of HBT.out (by rintro rfl; simp at q9) qs
            rw [← hsl] at hsT
            generalize senX T.dropLast pv = SX at ISx hsl hvl hsT ⊢
            generalize ptsX T.dropLast = PX at ISx hsl hvl hsT
            have HIS := Lib.hid ISx
            have HVS := Lib.hid hvl
            have HST := Lib.hid hsT
            have hone := Lib.hid ISx.conv.rd.one
            have HMx := Lib.hid (HM.out.trans Mx)
            have HRx := Lib.hid (HRT.out.mods0 Mx)
            clear Mx hx ISx hsl hvl hsT he q9 qs qx HRT HM
            go_wp2_with (first
              | (refine wpList_load_sen rfl (.tmp 11) rfl HBY.out (by rfl) ?_)
              | (refine wpList_store_row (cs := SX.cells) rfl 32 (.tmp 11) (.tmp 62) rfl (heap_alloc_new wx _) (by rfl) (by rfl) (by rfl) (Sen.infoS _) (Sen.one _ hone.out) ?_; intro wy Ry My; have HBY := Lib.hid (show SenBox wy wx.heap.size SX from ⟨Ry⟩); have HFY := Lib.hid (fresh My); clear Ry My))
            generalize wx.heap.size = gx at HBY ⊢
            have HISy := Lib.hid (HIS.out.mods0 HFY.out)
            have HMy := Lib.hid (HMx.out.trans HFY.out)
            have HRy := Lib.hid (HRx.out.mods0 HFY.out)
            clear HIS HMx HRx HFY
            refine (encodeS_ok wy SX PX HISy.out).mono ?_
            rw [HVS.out, HST.out]
            rintro e wz h5
            unfold EncRes at h5
            rw [if_pos rfl] at h5
            obtain ⟨u, rfl, O5, M5⟩ := h5
            have HO5 := Lib.hid (Rd.own O5)
            have HMz := Lib.hid (HMy.out.trans M5)
            have HBz := Lib.hid (HBY.out.mods0 M5)
            have HISz := Lib.hid (HISy.out.mods0 M5)
            have HRz := Lib.hid (HRy.out.mods0 M5)
            clear O5 M5 HMy HBY HISy HRy
            go_wp2_with (refine wpList_load_sen rfl (.tmp 11) rfl HBz.out (by rfl) ?_)
            refine (valid_ok wz SX PX HISz.out).mono ?_
            rw [HVS.out]
            rintro e wv ⟨rfl, Mv⟩
            have HMv := Lib.hid (HMz.out.trans Mv)
            have HOv := Lib.hid (HO5.out.mods0 Mv)
            have HRv := Lib.hid (HRz.out.mods0 Mv)
            clear Mv HMz HBz HISz HRz HO5
            go_wp2_with fail
            refine (same_ok wv _ _ T T HOv.out HRv.out).mono ?_
            rw [show (T == T) = true by simp]
            rintro e wt ⟨rfl, nn, rfl⟩
            have HMt := Lib.hid (HMv.out.drewN nn)
            clear HMv HOv HRv
            go_wp2_with fail
            exact ⟨⟨q + 1, by omega, by go_num, HMt.out⟩, by simp only [intOf]; omega⟩
          · obtain ⟨rfl, Mx⟩ := hx.bad he
            have hne : (errS T != 0) = true := by simpa using he
            have HMx := Lib.hid (HM.out.trans Mx)
            clear Mx hx he HRT HBT HM
            generalize errS T = er at hne ⊢
            go_wp2_with (refine wpList_store_row (cs := zS.cells) rfl 32 (.tmp 11) (.tmp 62) rfl (heap_alloc_new wx _) (by rfl) (by rfl) (by rfl) (Sen.infoS _) zS_one ?_; intro wy Ry My; have HFY := Lib.hid (fresh My); clear Ry My)
            exact ⟨⟨q + 1, by omega, by go_num, HMx.out.trans HFY.out⟩, by simp only [intOf]; omega⟩
        · have i2 : ¬ (q : Int) < 3 := by omega
          have HZ := Lib.hid (HXL.out.trans M)
          clear M
          go_wp2_with fail
          refine (awakeS_ok _).mono ?_
          rintro e wz ⟨rfl, Mz⟩
          go_wp2
          go_ret
          exact ⟨rfl, HZ.out.trans Mz⟩
    · have e0 : decide ((B0.length : Int) > 300) = true := decide_eq_true (by omega)
      have e1 : (300 : Int) < (B0.length : Int) := by omega
      have HZ := Lib.hid (Mods.refl (S := []) (w := w))
      go_enter Try.func5, Try.ntmps5
      go_wp2_with fail
      refine (awakeS_ok _).mono ?_
      rintro e wz ⟨rfl, Mz⟩
      go_wp2
      go_ret
      exact ⟨rfl, HZ.out.trans Mz⟩
  · have HLL := Lib.hid (decide_eq_false hl)
    have HZ := Lib.hid (Mods.refl (S := []) (w := w))
    by_cases hB : B0.length ≤ 300
    · have e0 : decide ((B0.length : Int) > 300) = false := decide_eq_false (by omega)
      have e1 : ¬ (300 : Int) < (B0.length : Int) := by omega
      go_enter Try.func5, Try.ntmps5
      go_wp2_with fail
      refine HL.out.mono ?_
      rw [HLL.out]
      rintro e w' ⟨rfl, rfl⟩
      go_wp2_with fail
      refine (awakeS_ok _).mono ?_
      rintro e wz ⟨rfl, Mz⟩
      go_wp2
      go_ret
      exact ⟨rfl, HZ.out.trans Mz⟩
    · have e0 : decide ((B0.length : Int) > 300) = true := decide_eq_true (by omega)
      have e1 : (300 : Int) < (B0.length : Int) := by omega
      go_enter Try.func5, Try.ntmps5
      go_wp2_with fail
      refine (awakeS_ok _).mono ?_
      rintro e wz ⟨rfl, Mz⟩
      go_wp2
      go_ret
      exact ⟨rfl, HZ.out.trans Mz⟩
end Go.Proofs.Ytgjjmiaiclhidaa
