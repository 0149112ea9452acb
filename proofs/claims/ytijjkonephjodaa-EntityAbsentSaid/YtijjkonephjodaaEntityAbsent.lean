/- EntityAbsent: the walk. -/
import Derived.Test.YtijjkonephjodaaEnH
namespace Go.Proofs.Ytijjkonephjodaa
open Go.RowKit

set_option maxRecDepth 100000 in
set_option maxHeartbeats 8000000 in
theorem entityAbsent_walk (w : World) (v : Value) (L : List Int) (hv : Rd w v (i64s L)) (hb : ∀ i, -9223372036854775808 ≤ L.getD i 0 ∧ L.getD i 0 ≤ 9223372036854775807) :
    Calls Try.prog 7 #[v] w fun e w' => e = .returned (.bool true) ∧ Mods [] w w' := by
  have HL := Lib.hid (light_ok w v L hv)
  have HV := Lib.hid hv
  have HB := Lib.hid hb
  clear hv hb
  by_cases hl : L.length ≤ 600
  · have HLL := Lib.hid (decide_eq_true hl)
    go_enter Try.func7, Try.ntmps7
    go_wp2_with fail
    refine HL.out.mono ?_
    rw [HLL.out]
    rintro e w' ⟨rfl, rfl⟩
    go_wp2_with fail
    refine (roll_ok w v L HV.out (by omega) HB.out).mono ?_
    rintro e w1 ⟨rfl, D1, M1, z1⟩
    go_wp2_with fail
    refine (ascs_ok w1 w.heap.size v L 0 D1 9 (by omega)).mono ?_
    rintro e w2 ⟨vl, l, j2, rfl, Ol, hl9, hck, D2, M2⟩
    have HM2 := Lib.hid (show Mods [] w w2 from M1.comp M2 (fun q hq => by simp at hq; subst hq; exact .inr (Nat.le_refl _)))
    have HOl := Lib.hid Ol
    have HCK := Lib.hid hck
    have HL9 := Lib.hid hl9
    have hz2 := M2.size
    have HD2 := Lib.hid D2
    obtain ⟨al, cl, rfl⟩ := (Ol.rd ascOk).len
    clear D1 M1 M2 Ol hck hl9 D2
    generalize hnl : l.length = nl at HOl ⊢
    have HNL := Lib.hid hnl
    clear hnl
    go_wp2_with fail
    refine (entities_ok w2 w.heap.size v L j2 HD2.out 3 (by omega)).mono ?_
    rintro e w3 ⟨va, ab, j3, rfl, Oa, hla, D3, M3⟩
    have HM3 := Lib.hid (HM2.out.comp M3 (fun q hq => by simp at hq; subst hq; exact .inr (Nat.le_refl _)))
    have HOa := Lib.hid Oa
    have HLA := Lib.hid hla
    have HOl3 := Lib.hid (HOl.out.mods M3 (fun k hk hm => by simp at hm; subst hm; have := (HOl.out.lt _ hk).1; omega))
    have hz3 := M3.size
    have HD3 := Lib.hid D3
    obtain ⟨aa, ca, rfl⟩ := (Oa.rd entOk).len
    clear M3 Oa hla D3 HOl HD2
    generalize hna : ab.length = na at HOa ⊢
    have HNA := Lib.hid hna
    clear hna
    go_wp2_with fail
    refine (entity_ok w3 w.heap.size v L j3 HD3.out).mono ?_
    rintro e w4 ⟨x0, y0, j4, rfl, hx, hy, D4, M4⟩
    obtain ⟨x, hxe⟩ : ∃ x : Ent, x = ⟨⟨x0, hx⟩, ⟨y0, hy⟩⟩ := ⟨_, rfl⟩
    have hx0 : (x0 : Int) = ((x.id.val : Nat) : Int) := by rw [hxe]
    have hy0 : (y0 : Int) = ((x.inst.val : Nat) : Int) := by rw [hxe]
    rw [hx0, hy0]
    clear hx0 hy0 hxe hx hy
    have HM4 := Lib.hid (HM3.out.comp M4 (fun q hq => by simp at hq; subst hq; exact .inr (Nat.le_refl _)))
    have HOl4 := Lib.hid (HOl3.out.mods M4 (fun k hk hm => by simp at hm; subst hm; have := (HOl3.out.lt _ hk).1; omega))
    have HOa4 := Lib.hid (HOa.out.mods M4 (fun k hk hm => by simp at hm; subst hm; have := (HOa.out.lt _ hk).1; omega))
    have hz4 := M4.size
    have HD4 := Lib.hid D4
    clear M4 D4 HD3 HOl3 HOa
    have HALL : Hid (∀ W, Mods [] w4 W → OwnE ascE W w1.heap.size (.slice al nl cl) l ∧ OwnE entE W w2.heap.size (.slice aa na ca) ab ∧ IsDice W w.heap.size v L j4 ∧ Mods [] w W) := Lib.hid (fun W M => ⟨HOl4.out.mods0 M, HOa4.out.mods0 M, HD4.out.mods0 M, HM4.out.trans M⟩)
    go_wp2_with (refine wpList_store_row (cs := #[.int .u8 ((x.id.val : Nat) : Int), .int .u8 ((x.inst.val : Nat) : Int)]) rfl 23 (.tmp 6) (.tmp 29) rfl (heap_alloc_new w4 _) (by rfl) (by rfl) (by rfl) Try.sizeEnt (Ent.one x) ?_; intro w5 R5 M5; have HF5 := Lib.hid (freshA M5); have HB5 := Lib.hid (show EntBox w5 w4.heap.size x from R5); have b0 := HB5.out.c0; have b1 := HB5.out.c1; clear R5 M5)
    have hgx : w.heap.size < w4.heap.size := by have := HD4.out.lt; exact this
    generalize w4.heap.size = gx at HB5 b0 b1 hgx ⊢
    clear HOl4 HOa4 HD4 HM4 HM3 HM2
    refine (withinE_ok w5 l _ ((HALL.out _ HF5.out).1.rd ascOk) x).mono ?_
    rintro en w6 ⟨vi, rfl, hvi, M6⟩
    rw [wthR_ok HCK.out] at hvi
    rw [HCK.out]
    obtain ⟨IN, hIN⟩ : ∃ IN, IN = wthL l x := ⟨_, rfl⟩
    rw [← hIN] at hvi
    have HIN := Lib.hid hIN
    have HVI := Lib.hid hvi
    have HM6 := Lib.hid (HF5.out.trans M6)
    have HB6 := Lib.hid (HB5.out.mods0 M6)
    obtain ⟨ai, ci, rfl⟩ := hvi.len
    have hNI := hvi.bound
    obtain ⟨NI, hni⟩ : ∃ NI, NI = IN.length := ⟨_, rfl⟩
    have HNI := Lib.hid hni
    rw [← hni] at hNI HVI ⊢
    clear M6 hvi hIN hni b0 b1
    go_wp2_with fail
    refine heldStart (S := fun W => Mods [] w6 W) 6 rfl (by kernel_rfl) Mods.refl.drew (fun hHeld => ?_)
    refine takeD (i := 0) (d := 38) (v := ?_) rfl rfl (by kernel_rfl) (by kernel_rfl) (by kernel_rfl) (fun _ _ _ h => h) (Or.inl ⟨by rfl, ?_⟩) hHeld ?_
    rotate_left 1
    · (intro w hSw; (try dsimp only at hSw); go_simp; (try with_reducible rfl))
    simp only [List.setIfInBounds_toArray, List.set_cons_zero, List.set_cons_succ]
    refine takeD (i := 2) (d := 40) (v := .agg #[.int .u8 ((x.id.val : Nat) : Int), .int .u8 ((x.inst.val : Nat) : Int)]) rfl rfl (by kernel_rfl) (by kernel_rfl) (by kernel_rfl) (fun _ _ _ h => h) (yieldsIf_load_row rfl 23 (.tmp 6) rfl gx rfl 23 #[.int .u8 ((x.id.val : Nat) : Int), .int .u8 ((x.inst.val : Nat) : Int)] (0, 0) _ (fun _ h=>HB6.out.mods0 h) Try.underlying23 rfl Try.sizeEnt) hHeld ?_
    simp only [List.setIfInBounds_toArray, List.set_cons_zero, List.set_cons_succ]
    refine appLitE (E := entE) entOk (iC := 1) (iA := 3) (dC := 39) (dA := 41) (T := 23) (z := x.cells.toArray) (vA := fun g => .slice (some ⟨g, 0, none⟩) 1 1) (X := ab) rfl rfl rfl rfl rfl rfl (by decide) (by decide) rfl (by rfl) (fun _ => by rfl) (by rfl) (fun _ => by rfl) (((HALL.out _ HM6.out.drew).2.1.rd entOk)) (by have := HLA.out; omega) (fun _ => ?_) (fun _ _ => ?_) (by kernel_rfl) (by kernel_rfl) (by kernel_rfl) (fun W M => (show Mods [] w6 w6.drew from Mods.refl.drew).trans M) (fun u g W7 O7 M7 hg7 => ?_)
    · first | rfl | (go_simp; done) | (go_simp; rfl)
    · first | rfl | (go_simp; done) | (go_simp; rfl)
    simp only [List.setIfInBounds_toArray, List.set_cons_zero, List.set_cons_succ]
    have HM7 := Lib.hid (hHeld.trans M7)
    have HO7 := Lib.hid O7
    have hz67 : w6.heap.size ≤ W7.heap.size := M7.size
    clear O7 M7 hHeld
    replace hHeld := HM7.out
    refine wpAnyH_ready (rs := [4]) (by kernel_rfl) (by simp) ?_
    refine AllReadyH.cons rfl (fun K hK => ?_) AllReadyH.nil
    refine step_appE entOk (by rfl) 42 rfl (.tmp 39) (.tmp 41) rfl (by rfl) HO7.out (by rfl) (RdE.one (a := x) hg7 rfl) (by have := HLA.out; simp; omega) hz67 (fun VB WB OB MB => ?_)
    have HMB := Lib.hid (HM7.out.comp MB (fun k hk => .inr (show w6.heap.size ≤ k from HO7.out.back hk)))
    have HOB := Lib.hid OB
    refine hK.out _ _ HMB.out (fun hHeld => ?_)
    clear hK K OB MB
    simp only [List.setIfInBounds_toArray, List.set_cons_zero, List.set_cons_succ]
    refine takeD (i := 5) (d := 9) (v := ?_) rfl rfl (by kernel_rfl) (by kernel_rfl) (by kernel_rfl) (fun _ _ _ h => h) (Or.inl ⟨by rfl, ?_⟩) hHeld ?_
    rotate_left 1
    · (intro w hSw; (try dsimp only at hSw); go_simp; (try with_reducible rfl))
    simp only [List.setIfInBounds_toArray, List.set_cons_zero, List.set_cons_succ]
    refine wpAnyH_done (by kernel_rfl) ?_ _
    have HRB := Lib.hid (HOB.out.rd entOk)
    obtain ⟨ab2, cb2, hVB⟩ := HRB.out.len
    obtain ⟨nb, hnb⟩ : ∃ nb, nb = (ab ++ [x]).length := ⟨_, rfl⟩
    rw [← hnb] at hVB
    subst hVB
    have HM4B := Lib.hid (HM6.out.trans HMB.out)
    have HVB := Lib.hid (HVI.out.mods0 entOk HMB.out)
    clear HMB HM7 HO7 hg7 hHeld HOB hnb
    go_wp2_with fail
    go_loopw [10] (fun i wr => ∃ k : Nat, k ≤ NI ∧ i = .int .i64 k ∧ Mods [] WB wr) (fun i _ => NI - (intOf i).toNat)
    case atStart => exact ⟨0, Nat.zero_le _, rfl, Mods.refl⟩
    case round =>
      obtain ⟨k, hk, rfl, hM⟩ := hrel
      have i0 : (0 : Int) ≤ (k : Int) := by omega
      have HM := Lib.hid hM
      have HMA := Lib.hid (HM4B.out.trans hM)
      by_cases hlt : k < NI
      · have i1 : (k : Int) < (NI : Int) := by omega
        have hR := HVB.out.mods0 entOk hM
        obtain ⟨bi, oi, ci', hv2, _, _, hc⟩ := hR.ent (by rw [← HNI.out]; omega)
        injection hv2 with hv3 hv5 hv4
        subst hv3 hv4
        clear hv5
        obtain ⟨y0, y1⟩ := hc k (by rw [← HNI.out]; exact hlt)
        have HZ := Lib.hid (show presB l (ab ++ [x]) (IN.getD k default) = false from abs_in (by rw [← HIN.out]; exact getD_mem (by rw [← HNI.out]; exact hlt)))
        generalize IN.getD k default = z at y0 y1 HZ
        have HPR := Lib.hid (presentE_ok wr l _ ((HALL.out _ HMA.out).1.rd ascOk) _ (ab ++ [x]) (HRB.out.mods0 entOk HM.out) z)
        clear hc hR hM
        go_wp2_with fail
        refine HPR.out.mono ?_
        rintro en w9 ⟨rfl, M9⟩
        rw [presR_ok HCK.out, HZ.out, HCK.out]
        have HM9 := Lib.hid (HM.out.trans M9)
        clear M9 HPR
        go_wp2_with fail
        go_roundw
        case rel => exact ⟨k + 1, by omega, by go_num, HM9.out⟩
        case measure => simp [intOf]; omega
      · have i1 : ¬ (k : Int) < (NI : Int) := by omega
        have HD := Lib.hid (HALL.out _ HMA.out).2.2.1
        have hbw : w.heap.size < wr.heap.size := HD.out.lt
        clear hM
        go_wp2_with fail
        refine (entity_ok wr w.heap.size v L j4 HD.out).mono ?_
        rintro e w9 ⟨x1, y1, j5, rfl, hx1, hy1, D9, M9⟩
        obtain ⟨y, hye⟩ : ∃ y : Ent, y = ⟨⟨x1, hx1⟩, ⟨y1, hy1⟩⟩ := ⟨_, rfl⟩
        have hx2 : (x1 : Int) = ((y.id.val : Nat) : Int) := by rw [hye]
        have hy2 : (y1 : Int) = ((y.inst.val : Nat) : Int) := by rw [hye]
        rw [hx2, hy2]
        have HL9 := Lib.hid ((HALL.out _ HMA.out).1.mods M9 (fun k hk hm => by simp at hm; subst hm; have := ((HALL.out _ HMA.out).1.lt _ hk).1; omega))
        have HA9 := Lib.hid ((HALL.out _ HMA.out).2.1.mods M9 (fun k hk hm => by simp at hm; subst hm; have := ((HALL.out _ HMA.out).2.1.lt _ hk).1; omega))
        have HW9 := Lib.hid ((HALL.out _ HMA.out).2.2.2.comp M9 (fun q hq => by simp at hq; subst hq; exact .inr (Nat.le_refl _)))
        have HR9 := Lib.hid ((HRB.out.mods0 entOk HM.out).dice HD.out M9)
        have HI9 := Lib.hid ((HVB.out.mods0 entOk HM.out).dice HD.out M9)
        clear hx2 hy2 hye hx1 hy1 D9 M9 HD
        go_wp2_with (refine wpList_store_row (cs := #[.int .u8 ((y.id.val : Nat) : Int), .int .u8 ((y.inst.val : Nat) : Int)]) rfl 23 (.tmp 13) (.tmp 65) rfl (heap_alloc_new w9 _) (by rfl) (by rfl) (by rfl) Try.sizeEnt (Ent.one y) ?_; intro w10 R10 M10; have HF10 := Lib.hid (freshA M10); have HB10 := Lib.hid (show EntBox w10 w9.heap.size y from R10); have b0 := HB10.out.c0; have b1 := HB10.out.c1; clear R10 M10)
        generalize w9.heap.size = gy at HB10 b0 b1 ⊢
        refine (presentE_ok w10 l _ ((HL9.out.mods0 HF10.out).rd ascOk) _ ab ((HA9.out.mods0 HF10.out).rd entOk) y).mono ?_
        rintro en w11 ⟨rfl, M11⟩
        have HM11 := Lib.hid (HF10.out.trans M11)
        have HB11 := Lib.hid (HB10.out.mods0 M11)
        have c0 := HB11.out.c0
        have c1 := HB11.out.c1
        rw [presR_ok HCK.out, HCK.out]
        have HMORE := Lib.hid (abs_more l ab x y)
        rw [← HIN.out] at HMORE
        obtain ⟨r, hr⟩ : ∃ r, r = presB l ab y := ⟨_, rfl⟩
        rw [← hr] at HMORE ⊢
        clear M11 b0 b1 hr
        go_wp2_with fail
        refine (presentE_ok w11 l _ ((HL9.out.mods0 HM11.out).rd ascOk) _ (ab ++ [x]) (HR9.out.mods0 entOk HM11.out) y).mono ?_
        rintro en w12 ⟨rfl, M12⟩
        rw [presR_ok HCK.out, HCK.out, HMORE.out]
        have HM12 := Lib.hid (HM11.out.trans M12)
        have HB12 := Lib.hid (HB11.out.mods0 M12)
        have d0 := HB12.out.c0
        have d1 := HB12.out.c1
        have HHAS := Lib.hid (lawHas_ok w12 IN y _ (HI9.out.mods0 entOk HM12.out))
        generalize decide (y ∈ IN) = q at HHAS ⊢
        clear M12 c0 c1
        cases r with
        | false =>
          go_wp2_with fail
          refine (awake15_ok w12).mono ?_
          rintro en w13 ⟨rfl, M13⟩
          have HM13 := Lib.hid (HW9.out.trans (HM12.out.trans M13))
          clear M13
          go_wp2_with fail
          go_ret
          exact ⟨rfl, HM13.out⟩
        | true =>
          go_wp2_with fail
          refine HHAS.out.mono ?_
          rintro en w13 ⟨rfl, M13⟩
          have HM13 := Lib.hid (HW9.out.trans (HM12.out.trans M13))
          clear M13
          cases q
          all_goals
            go_wp2_with fail
            refine (awake15_ok w13).mono ?_
            rintro en w14 ⟨rfl, M14⟩
            have HM14 := Lib.hid (HM13.out.trans M14)
            clear M14
            go_wp2_with fail
            go_ret
            exact ⟨rfl, HM14.out⟩
  · have HLL := Lib.hid (decide_eq_false hl)
    go_enter Try.func7, Try.ntmps7
    go_wp2_with fail
    refine HL.out.mono ?_
    rw [HLL.out]
    rintro e w' ⟨rfl, rfl⟩
    go_wp2_with fail
    refine (awake15_ok _).mono ?_
    rintro e w1 ⟨rfl, M1⟩
    go_wp2
    go_ret
    exact ⟨rfl, M1⟩
end Go.Proofs.Ytijjkonephjodaa
