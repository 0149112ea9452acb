/- EntityTrees: the walk. -/
import Derived.Test.YtijjkonephjodaaEntT
import Derived.Deep.DeepCutAuto
namespace Go.Proofs.Ytijjkonephjodaa
open Go.RowKit

/-- The way up from z in a block of its own, and whether x was met. -/
structure TrRel (w : World) (l : List Asc) (z x : Ent) (g : Nat) (t : Value) (wr : World) (k : Nat) : Prop where
  isS : (up l z k).isSome = true
  box : EntBox wr g ((up l z k).getD default)
  t : t = .bool (rch l z x k)
  M : Mods [g] w wr
set_option maxRecDepth 100000 in
set_option maxHeartbeats 16000000 in
theorem entityTrees_walk (w : World) (v : Value) (L : List Int) (hv : Rd w v (i64s L)) (hb : ∀ i, -9223372036854775808 ≤ L.getD i 0 ∧ L.getD i 0 ≤ 9223372036854775807) (ea eb : Ent) :
    Calls Try.prog 5 #[v, .agg ea.cells.toArray, .agg eb.cells.toArray] w fun e w' => e = .returned (.bool true) ∧ Mods [] w w' := by
  have MA := (Mods.refl (S := []) (w := w)).alloc (.cells ea.cells.toArray 23)
  have MB := (Mods.refl (S := []) (w := w.alloc (.cells ea.cells.toArray 23))).alloc (.cells eb.cells.toArray 23)
  have BA := EntBox.mods0 (EntBox.new w ea) MB
  have BB := EntBox.new (w.alloc (.cells ea.cells.toArray 23)) eb
  rw [World.size_alloc] at BB
  have HM0 := Lib.hid (MA.trans MB)
  have HL := Lib.hid (light_ok _ v L (hv.mods0 (MA.trans MB)))
  have HV := Lib.hid (hv.mods0 (MA.trans MB))
  have HB := Lib.hid hb
  clear hv hb MA MB
  by_cases hl : L.length ≤ 600
  · have HLL := Lib.hid (decide_eq_true hl)
    go_enter Try.func5, Try.ntmps5
    go_wp2_with fail
    generalize (w.alloc (.cells ea.cells.toArray 23)).alloc (.cells eb.cells.toArray 23) = w0 at BA BB HM0 HL HV ⊢
    refine HL.out.mono ?_
    rw [HLL.out]
    rintro e w' ⟨rfl, rfl⟩
    go_wp2_with fail
    refine (roll_ok w0 v L HV.out (by omega) HB.out).mono ?_
    rintro e w1 ⟨rfl, D1, M1, z1⟩
    go_wp2_with fail
    refine (ascs_ok w1 w0.heap.size v L 0 D1 9 (by omega)).mono ?_
    rintro e w2 ⟨vl, l, j2, rfl, Ol, hl9, hck, D2, M2⟩
    have HM2 := Lib.hid (show Mods [] w0 w2 from M1.comp M2 (fun q hq => by simp at hq; subst hq; exact .inr (Nat.le_refl _)))
    have HOl := Lib.hid Ol
    have HCK := Lib.hid hck
    have hz2 := M2.size
    have HD2 := Lib.hid D2
    obtain ⟨al, cl, rfl⟩ := (Ol.rd ascOk).len
    clear D1 M1 M2 Ol hck D2
    generalize hnl : l.length = nl at HOl ⊢
    have HNL := Lib.hid hnl
    rw [hnl] at hl9
    clear hnl
    go_wp2_with fail
    refine (entity_ok w2 w0.heap.size v L j2 HD2.out).mono ?_
    rintro e w3 ⟨x0, y0, j3, rfl, hx, hy, D4, M4⟩
    obtain ⟨x, hxe⟩ : ∃ x : Ent, x = ⟨⟨x0, hx⟩, ⟨y0, hy⟩⟩ := ⟨_, rfl⟩
    have hx0 : (x0 : Int) = ((x.id.val : Nat) : Int) := by rw [hxe]
    have hy0 : (y0 : Int) = ((x.inst.val : Nat) : Int) := by rw [hxe]
    rw [hx0, hy0]
    clear hx0 hy0 hxe hx hy
    have HM3 := Lib.hid (HM2.out.comp M4 (fun q hq => by simp at hq; subst hq; exact .inr (Nat.le_refl _)))
    have HOl3 := Lib.hid (HOl.out.mods M4 (fun k hk hm => by simp at hm; subst hm; have := (HOl.out.lt _ hk).1; omega))
    have HD3 := Lib.hid D4
    clear M4 D4
    go_wp2_with fail
    refine (entity_ok w3 w0.heap.size v L j3 HD3.out).mono ?_
    rintro e w4 ⟨x0, y0, j4, rfl, hx, hy, D4, M4⟩
    obtain ⟨y, hxe⟩ : ∃ x : Ent, x = ⟨⟨x0, hx⟩, ⟨y0, hy⟩⟩ := ⟨_, rfl⟩
    have hx0 : (x0 : Int) = ((y.id.val : Nat) : Int) := by rw [hxe]
    have hy0 : (y0 : Int) = ((y.inst.val : Nat) : Int) := by rw [hxe]
    rw [hx0, hy0]
    clear hx0 hy0 hxe hx hy
    have HM4 := Lib.hid (HM3.out.comp M4 (fun q hq => by simp at hq; subst hq; exact .inr (Nat.le_refl _)))
    have HOl4 := Lib.hid (HOl3.out.mods M4 (fun k hk hm => by simp at hm; subst hm; have := (HOl3.out.lt _ hk).1; omega))
    have HD4 := Lib.hid D4
    clear M4 D4
    clear HD2 HD3 HM2 HM3 HOl HOl3
    have hz4 : w0.heap.size < w4.heap.size := HD4.out.lt
    have BX := EntBox.mods0 (EntBox.new w4 x) ((Mods.refl (S := [])).alloc (.cells y.cells.toArray 23))
    have BY := EntBox.new (w4.alloc (.cells x.cells.toArray 23)) y
    rw [World.size_alloc] at BY
    have MX := ((Mods.refl (S := []) (w := w4)).alloc (.cells x.cells.toArray 23)).alloc (.cells y.cells.toArray 23)
    have HXY : Hid (EntBox ((w4.alloc (.cells #[.int .u8 ((x.id.val : Nat) : Int), .int .u8 ((x.inst.val : Nat) : Int)] 23)).alloc (.cells #[.int .u8 ((y.id.val : Nat) : Int), .int .u8 ((y.inst.val : Nat) : Int)] 23)) w4.heap.size x ∧ EntBox ((w4.alloc (.cells #[.int .u8 ((x.id.val : Nat) : Int), .int .u8 ((x.inst.val : Nat) : Int)] 23)).alloc (.cells #[.int .u8 ((y.id.val : Nat) : Int), .int .u8 ((y.inst.val : Nat) : Int)] 23)) (w4.heap.size + 1) y ∧ Mods [] w4 ((w4.alloc (.cells #[.int .u8 ((x.id.val : Nat) : Int), .int .u8 ((x.inst.val : Nat) : Int)] 23)).alloc (.cells #[.int .u8 ((y.id.val : Nat) : Int), .int .u8 ((y.inst.val : Nat) : Int)] 23))) := Lib.hid ⟨BX, BY, MX⟩
    clear BX BY MX
    go_upto_if 37 with (fail)
    generalize ((w4.alloc (.cells #[.int .u8 ((x.id.val : Nat) : Int), .int .u8 ((x.inst.val : Nat) : Int)] 23)).alloc (.cells #[.int .u8 ((y.id.val : Nat) : Int), .int .u8 ((y.inst.val : Nat) : Int)] 23)) = w5 at HXY ⊢
    have hgx : w4.heap.size < w4.heap.size + 1 := Nat.lt_succ_self _
    generalize w4.heap.size + 1 = gy at HXY hgx ⊢
    have hgx2 : w4.heap.size ≤ w4.heap.size := Nat.le_refl _
    refine (bool_ok w5 w0.heap.size v L j4 (HD4.out.mods0 HXY.out.2.2) 4 (by omega) (by omega)).mono ?_
    rintro e w6 ⟨r, j5, rfl, D6, M6⟩
    have HX6 := Lib.hid (HXY.out.1.mods M6 (by simp; omega))
    have HY6 := Lib.hid (HXY.out.2.1.mods M6 (by simp; omega))
    have HA6 := Lib.hid ((BA.mods0 (HM4.out.trans HXY.out.2.2)).mods M6 (by simp; have := BA.lt; omega))
    have HB6 := Lib.hid ((BB.mods0 (HM4.out.trans HXY.out.2.2)).mods M6 (by simp; have := BB.lt; omega))
    have HO6 := Lib.hid ((HOl4.out.mods0 HXY.out.2.2).mods M6 (fun k hk hm => by simp at hm; subst hm; have := (HOl4.out.lt _ hk).1; omega))
    have HM6 := Lib.hid ((HM4.out.trans HXY.out.2.2).comp M6 (fun q hq => by simp at hq; subst hq; exact .inr (Nat.le_refl _)))
    have hz6 : w4.heap.size ≤ w6.heap.size := Nat.le_trans HXY.out.2.2.size M6.size
    have HLT := Lib.hid (fun k hk => (HOl4.out.lt k hk).2)
    clear D6 M6 HXY HD4 HM4 HOl4 hgx2
    generalize w4.heap.size = gx at HX6 HY6 hgx hz4 hz6 HLT ⊢
    go_upto_if 37 with (fail)
    go_cut [] (fun wx => ∃ X Y : Ent, EntBox wx gx X ∧ EntBox wx gy Y ∧ Mods [gx, gy] w6 wx)
    case first =>
      cases r with
      | false =>
        go_wp2_with fail
        go_meet
        exact ⟨x, y, HX6.out, HY6.out, Mods.refl⟩
      | true =>
        go_wp2_with fail
        refine heldStart (S := fun W => EntBox W w.heap.size ea ∧ EntBox W (w.heap.size + 1) eb) 4 rfl (by kernel_rfl) ⟨HA6.out, HB6.out⟩ (fun hHeld => ?_)
        refine takeD (i := 0) (d := 38) (v := .agg #[.int .u8 ((ea.id.val : Nat) : Int), .int .u8 ((ea.inst.val : Nat) : Int)]) rfl rfl (by kernel_rfl) (by kernel_rfl) (by kernel_rfl) (fun _ _ _ h => h) (yieldsIf_load_row rfl 23 (.tmp 4) rfl w.heap.size rfl 23 #[.int .u8 ((ea.id.val : Nat) : Int), .int .u8 ((ea.inst.val : Nat) : Int)] (0, 0) _ (fun _ h=>h.1) Try.underlying23 rfl Try.sizeEnt) hHeld ?_
        simp only [List.setIfInBounds_toArray, List.set_cons_zero, List.set_cons_succ]
        refine takeD (i := 1) (d := 39) (v := .agg #[.int .u8 ((eb.id.val : Nat) : Int), .int .u8 ((eb.inst.val : Nat) : Int)]) rfl rfl (by kernel_rfl) (by kernel_rfl) (by kernel_rfl) (fun _ _ _ h => h) (yieldsIf_load_row rfl 23 (.tmp 5) rfl (w.heap.size + 1) rfl 23 #[.int .u8 ((eb.id.val : Nat) : Int), .int .u8 ((eb.inst.val : Nat) : Int)] (0, 0) _ (fun _ h=>h.2) Try.underlying23 rfl Try.sizeEnt) hHeld ?_
        simp only [List.setIfInBounds_toArray, List.set_cons_zero, List.set_cons_succ]
        have hw0 : w.heap.size + 1 < w0.heap.size := BB.lt
        refine wpAnyH_ready (rs := [2]) (by kernel_rfl) (by simp) ?_
        refine AllReadyH.cons rfl (fun K hK => ?_) AllReadyH.nil
        refine exec_store (T := 23) (cs := #[.int .u8 ((ea.id.val : Nat) : Int), .int .u8 ((ea.inst.val : Nat) : Int)]) rfl rfl rfl (show w6.drew.heap[gx]? = _ from HX6.out) (by rfl) (by rfl) (by rfl) Try.sizeEnt (Ent.one ea) (fun W7 R7 M7 => ?_)
        refine hK.out _ _ ⟨EntBox.mods hHeld.1 M7 (by simp; omega), EntBox.mods hHeld.2 M7 (by simp; omega)⟩ (fun hHeld => ?_)
        clear hK K
        have hy7 : W7.heap[gy]? = _ := M7.heap (show w6.drew.heap[gy]? = _ from HY6.out) (by simp; omega)
        refine wpAnyH_ready (rs := [3]) (by kernel_rfl) (by simp) ?_
        refine AllReadyH.cons rfl (fun K hK => ?_) AllReadyH.nil
        refine exec_store (T := 23) (cs := #[.int .u8 ((eb.id.val : Nat) : Int), .int .u8 ((eb.inst.val : Nat) : Int)]) rfl rfl rfl hy7 (by rfl) (by rfl) (by rfl) Try.sizeEnt (Ent.one eb) (fun W8 R8 M8 => ?_)
        refine hK.out _ _ ⟨EntBox.mods hHeld.1 M8 (by simp; omega), EntBox.mods hHeld.2 M8 (by simp; omega)⟩ (fun hHeld => ?_)
        clear hK K
        have HFIN := Lib.hid (show EntBox W8 gx ea ∧ EntBox W8 gy eb ∧ Mods [gx, gy] w6 W8 from ⟨M8.heap R7 (by simp; omega), R8, ((Mods.refl.drew (S := [gx, gy])).comp M7 (fun q hq => .inl (by simp at hq; simp [hq]))).comp M8 (fun q hq => .inl (by simp at hq; simp [hq]))⟩)
        refine wpAnyH_done (by kernel_rfl) ?_ _
        go_wp2_with fail
        go_meet
        exact ⟨ea, eb, HFIN.out⟩
    case rest =>
      obtain ⟨X, Y, hX, hY, hM⟩ := hcut
      have HX := Lib.hid hX
      have HY := Lib.hid hY
      have HO := Lib.hid (HO6.out.mods hM (fun k hk hm => by
        have := HLT.out k hk
        simp at hm
        omega))
      have HM := Lib.hid (HM0.out.trans (HM6.out.comp hM (fun q hq => .inr (by simp at hq; omega))))
      have c0 := hX.c0
      have c1 := hX.c1
      clear hX hY hM HX6 HY6 HA6 HB6 HO6 HM6 HL
      generalize wc = w7 at HX HY HO HM c0 c1 ⊢
      have hzr : w.heap.size ≤ w7.heap.size := HM.out.size
      go_wp2_with fail
      refine (withinE_ok w7 l _ (HO.out.rd ascOk) X).mono ?_
      rintro en w8 ⟨vp, rfl, hvp, M8⟩
      rw [wthR_ok HCK.out] at hvp
      rw [HCK.out]
      obtain ⟨P, hP⟩ : ∃ P, P = wthL l X := ⟨_, rfl⟩
      rw [← hP] at hvp
      have HP := Lib.hid hP
      have HVP := Lib.hid hvp
      have HM8 := Lib.hid M8
      have d0 := (HY.out.mods0 M8).c0
      have d1 := (HY.out.mods0 M8).c1
      obtain ⟨ap, cp, rfl⟩ := hvp.len
      obtain ⟨NP, hnp⟩ : ∃ NP, NP = P.length := ⟨_, rfl⟩
      have HNP := Lib.hid hnp
      have hNP : NP ≤ 10 := by rw [hnp, hP]; have := wthL_length l X; have := HNL.out; omega
      have hNP1 : 1 ≤ NP := by rw [hnp, hP]; exact List.length_pos_of_mem (mem_wth.2 (.inl rfl))
      rw [← hnp] at HVP ⊢
      clear M8 hvp hP hnp c0 c1
      go_wp2_with fail
      refine (withinE_ok w8 l _ ((HO.out.mods0 HM8.out).rd ascOk) Y).mono ?_
      rintro en w9 ⟨vq, rfl, hvq, M9⟩
      rw [wthR_ok HCK.out] at hvq
      rw [HCK.out]
      obtain ⟨Z, hZ⟩ : ∃ Z, Z = wthL l Y := ⟨_, rfl⟩
      rw [← hZ] at hvq
      have HZ := Lib.hid hZ
      have HM9 := Lib.hid (HM8.out.trans M9)
      have HVP9 := Lib.hid (HVP.out.mods0 entOk M9)
      have HVQ9 := Lib.hid hvq
      obtain ⟨aq, cq, rfl⟩ := hvq.len
      clear M9 hvq hZ d0 d1 HVP HM8
      obtain ⟨NQ, hnq⟩ : ∃ NQ, NQ = Z.length := ⟨_, rfl⟩
      rw [← hnq] at HVQ9 ⊢
      clear hnq
      have HX9 := Lib.hid (HX.out.mods0 HM9.out)
      have HY9 := Lib.hid (HY.out.mods0 HM9.out)
      have HO9 := Lib.hid (HO.out.mods0 HM9.out)
      have HMW := Lib.hid (HM.out.trans HM9.out)
      clear HX HY HO HM HM9
      go_wp2_with fail
      go_loopw [15] (fun i wr => ∃ k : Nat, k ≤ NP ∧ 1 ≤ k ∧ i = .int .i64 k ∧ Mods [] w9 wr) (fun i _ => NP - (intOf i).toNat)
      case atStart => exact ⟨1, hNP1, by omega, rfl, Mods.refl⟩
      case round =>
        obtain ⟨k, hk, hk1, rfl, hM⟩ := hrel
        have i0 : (0 : Int) ≤ (k : Int) := by omega
        have HM := Lib.hid hM
        by_cases hlt : k < NP
        · have i1 : (k : Int) < (NP : Int) := by omega
          obtain ⟨m, rfl⟩ : ∃ m, k = m + 1 := ⟨k - 1, by omega⟩
          have hR := HVP9.out.mods0 entOk hM
          obtain ⟨bi, oi, ci', hv2, _, _, hc⟩ := hR.ent (by rw [← HNP.out]; omega)
          injection hv2 with hv3 hv5 hv4
          subst hv3 hv4
          clear hv5
          obtain ⟨y0, y1⟩ := hc m (by rw [← HNP.out]; omega)
          obtain ⟨z0, z1⟩ := hc (m + 1) (by rw [← HNP.out]; exact hlt)
          have HLTE := Lib.hid (show ltE (P.getD m default) (P.getD (m + 1) default) from by
            rw [HP.out]
            exact wth_strict HCK.out X (by rw [← HP.out, ← HNP.out]; exact hlt))
          generalize P.getD m default = p1 at y0 y1 HLTE
          generalize P.getD (m + 1) default = p2 at z0 z1 HLTE
          clear hc hR hM
          obtain ⟨⟨a1, ha1⟩, ⟨b1, hb1⟩⟩ := p1
          obtain ⟨⟨a2, ha2⟩, ⟨b2, hb2⟩⟩ := p2
          have hlte := HLTE.out
          unfold ltE at hlte
          simp only at hlte y0 y1 z0 z1
          clear HLTE
          have e1 : IntKind.i64.wrap (((m + 1 : Nat) : Int) - 1) = (m : Int) := by
            rw [show ((m + 1 : Nat) : Int) - 1 = (m : Int) by omega]
            exact IntWalk.i64_in _ (by omega)
          by_cases hid : a1 < a2
          · have t1 : decide ((a1 : Int) < (a2 : Int)) = true := decide_eq_true (by omega)
            clear hlte
            go_wp2_with fail
            go_quiet (fail)
            go_wp2_with fail
            go_roundw
            case rel => exact ⟨m + 2, by omega, by omega, by go_num, HM.out.drewN nq⟩
            case measure => simp [intOf]; omega
          · have hae : a1 = a2 := by omega
            have hbl : b1 < b2 := by omega
            subst hae
            have t1 : decide ((a1 : Int) < (a1 : Int)) = false := decide_eq_false (by omega)
            have t3 : decide ((b1 : Int) < (b2 : Int)) = true := decide_eq_true (by omega)
            clear hlte hid
            go_wp2_with fail
            go_quiet (fail)
            go_wp2_with fail
            go_roundw
            case rel => exact ⟨m + 2, by omega, by omega, by go_num, HM.out.drewN nq⟩
            case measure => simp [intOf]; omega
        · have i1 : ¬ (k : Int) < (NP : Int) := by omega
          have HMV := Lib.hid (HMW.out.trans hM)
          have HVPa := Lib.hid (HVP9.out.mods0 entOk hM)
          have HVQa := Lib.hid (HVQ9.out.mods0 entOk hM)
          have HXa := Lib.hid (HX9.out.mods0 hM)
          have HYa := Lib.hid (HY9.out.mods0 hM)
          have HOa := Lib.hid (HO9.out.mods0 hM)
          clear hM HM HVP9 HVQ9 HX9 HY9 HO9 HMW
          go_wp2_with fail
          clear i1 hlt hk1 hk i0
          generalize wr = wa at HMV HVPa HVQa HXa HYa HOa ⊢
          go_loopw [16] (fun i wr => ∃ k : Nat, k ≤ nl + 1 ∧ i = .int .i64 k ∧ Mods [] wa wr) (fun i _ => nl + 1 - (intOf i).toNat)
          case atStart => exact ⟨0, by omega, rfl, Mods.refl⟩
          case round =>
            obtain ⟨k, hk, rfl, hM⟩ := hrel
            have i0 : (0 : Int) ≤ (k : Int) := by omega
            have HM := Lib.hid hM
            have hYr := HYa.out.mods0 hM
            have c0 := hYr.c0
            have c1 := hYr.c1
            have hyl : gy < wr.heap.size := hYr.lt
            by_cases hlt : k < nl + 1
            · have i1 : (k : Int) < (nl : Int) + 1 := by omega
              have hLr := (HOa.out.mods0 hM).rd ascOk
              by_cases hkl : k < nl
              · have i2 : (k : Int) < (nl : Int) := by omega
                obtain ⟨bi, oi, ci', hv2, _, _, hc⟩ := hLr.asc (by have := HNL.out; omega)
                injection hv2 with hv3 hv5 hv4
                subst hv3 hv4
                clear hv5
                obtain ⟨-, -, y2, y3⟩ := hc k (by have := HNL.out; omega)
                have hbb : bi < wr.heap.size := World.block_lt_of_cell? wr _ y2
                obtain ⟨z, hz⟩ : ∃ z, z = (l.getD k default).inn := ⟨_, rfl⟩
                rw [← hz] at y2 y3
                clear hc hz hLr hM hYr
                have HZZ : Hid (EntBox ((wr.alloc (.cells #[.int .u8 ((z.id.val : Nat) : Int), .int .u8 ((z.inst.val : Nat) : Int)] 23)).alloc (.cells #[.int .u8 ((z.id.val : Nat) : Int), .int .u8 ((z.inst.val : Nat) : Int)] 23)) wr.heap.size z ∧ EntBox ((wr.alloc (.cells #[.int .u8 ((z.id.val : Nat) : Int), .int .u8 ((z.inst.val : Nat) : Int)] 23)).alloc (.cells #[.int .u8 ((z.id.val : Nat) : Int), .int .u8 ((z.inst.val : Nat) : Int)] 23)) (wr.heap.size + 1) z ∧ Mods [] wr ((wr.alloc (.cells #[.int .u8 ((z.id.val : Nat) : Int), .int .u8 ((z.inst.val : Nat) : Int)] 23)).alloc (.cells #[.int .u8 ((z.id.val : Nat) : Int), .int .u8 ((z.inst.val : Nat) : Int)] 23))) := Lib.hid (by
                  have BY := EntBox.new (wr.alloc (.cells z.cells.toArray 23)) z
                  rw [World.size_alloc] at BY
                  exact ⟨EntBox.mods0 (EntBox.new wr z) ((Mods.refl (S := [])).alloc (.cells z.cells.toArray 23)), BY, ((Mods.refl (S := []) (w := wr)).alloc (.cells z.cells.toArray 23)).alloc (.cells z.cells.toArray 23)⟩)
                go_wp2_with fail
                generalize ((wr.alloc (.cells #[.int .u8 ((z.id.val : Nat) : Int), .int .u8 ((z.inst.val : Nat) : Int)] 23)).alloc (.cells #[.int .u8 ((z.id.val : Nat) : Int), .int .u8 ((z.inst.val : Nat) : Int)] 23)) = wb at HZZ ⊢
                have hg12 : wr.heap.size < wr.heap.size + 1 := Nat.lt_succ_self _
                have HSZ := Lib.hid (show ∀ q, q = wr.heap.size + 1 → wr.heap.size ≤ q from fun q h => by omega)
                have HST := Lib.hid (show TrRel wb l z X (wr.heap.size + 1) (.bool false) wb 0 from ⟨rfl, HZZ.out.2.1, rfl, Mods.refl⟩)
                have HXb := Lib.hid (HXa.out.mods0 (HM.out.trans HZZ.out.2.2))
                have hxg : gx ≠ wr.heap.size + 1 := by omega
                generalize wr.heap.size + 1 = g2 at HZZ HST HSZ hg12 hxg ⊢
                have HCO : Hid (∀ W, Mods [g2] wb W → Mods [] wr W) := Lib.hid (fun W MW => HZZ.out.2.2.comp MW (fun q hq => by simp at hq; exact .inr (HSZ.out q hq)))
                generalize wr.heap.size = g1 at HZZ hg12 ⊢
                go_loopw [19, 20] (fun t i wx => ∃ j : Nat, j ≤ nl + 1 ∧ i = .int .i64 j ∧ TrRel wb l z X g2 t wx j) (fun _ i _ => nl + 1 - (intOf i).toNat)
                case atStart => exact ⟨0, by omega, rfl, HST.out⟩
                clear HST
                case round =>
                  obtain ⟨j, hj, rfl, hS⟩ := hrel
                  have j0 : (0 : Int) ≤ (j : Int) := by omega
                  obtain ⟨u, hu⟩ := Option.isSome_iff_exists.1 hS.isS
                  have hB := hS.box
                  rw [hu] at hB
                  have hB : EntBox wr g2 u := hB
                  have HB := Lib.hid hB
                  have HU := Lib.hid hu
                  obtain ⟨-, -, ht, hT⟩ := hS
                  have HT := Lib.hid hT
                  have HNV := Lib.hid (rch_succ (x := X) hu)
                  obtain ⟨q, hq⟩ : ∃ q, q = rch l z X j := ⟨_, rfl⟩
                  rw [← hq] at ht HNV
                  have HQ := Lib.hid hq
                  subst ht
                  have HZ1 := Lib.hid (HZZ.out.1.mods hT (by simp; omega))
                  have HXr := Lib.hid (HXb.out.mods hT (by simpa using hxg))
                  have HMr := Lib.hid (HCO.out _ hT)
                  by_cases hjl : j ≤ nl
                  · have j1 : (j : Int) ≤ (nl : Int) := by omega
                    have u0 := hB.c0
                    have u1 := hB.c1
                    have x0 := HXr.out.c0
                    have x1 := HXr.out.c1
                    cases q with
                    | true =>
                      have HRB := Lib.hid (show rch l z X (j + 1) = true by rw [HNV.out]; rfl)
                      clear hB hq hu hT
                      go_wp2_with fail
                      refine (parent_ok wr l u _ ((HOa.out.mods0 (HM.out.trans HMr.out)).rd ascOk)).mono ?_
                      rintro en w2 ⟨rfl, M2⟩
                      obtain ⟨p, hp⟩ : ∃ p, p = parV l u := ⟨_, rfl⟩
                      obtain ⟨ok, hok⟩ : ∃ ok, ok = (par l u).isSome := ⟨_, rfl⟩
                      rw [← hp, ← hok]
                      have HPP := Lib.hid (show par l u = if ok = true then some p else none by
                        rw [hok, hp]
                        unfold parV
                        cases par l u <;> simp)
                      have HT2 := Lib.hid (HT.out.comp0 M2)
                      have HB2 := Lib.hid (HB.out.mods0 M2)
                      have HM2 := Lib.hid (HM.out.trans (HMr.out.trans M2))
                      have HZ2 := Lib.hid (HZ1.out.mods0 M2)
                      have hg22 : g2 < w2.heap.size := HB2.out.lt
                      clear hp hok M2 u0 u1 x0 x1
                      cases ok with
                      | false =>
                        have HBE := Lib.hid (show true = decide (z ∈ P) by
                          rw [← HRB.out, HP.out]
                          refine rch_stop (by have := HNL.out; omega) ?_
                          have h1 : up l z (j + 1) = (up l z j).bind (par l) := rfl
                          rw [h1, HU.out]
                          exact HPP.out)
                        have HPa := Lib.hid (fun W (h : Mods [] wa W) => lawHas_ok W P z _ (HVPa.out.mods0 entOk h))
                        rw [← HBE.out] at HPa
                        go_wp2_with (refine wpList_store_row (cs := p.cells.toArray) rfl 23 (.tmp 21) (.tmp 139) rfl (heap_alloc_new w2 _) (by rfl) (by rfl) (by rfl) Try.sizeEnt (Ent.one p) ?_; intro w3 R3 M3; have HM3 := Lib.hid (HM2.out.trans (freshA M3)); have HZ3 := Lib.hid (HZ2.out.mods0 (freshA M3)); have z0 := HZ3.out.c0; have z1 := HZ3.out.c1; clear R3 M3)
                        refine (HPa.out _ HM3.out).mono ?_
                        rintro en wh ⟨rfl, Mh⟩
                        have HMH := Lib.hid (HM3.out.trans Mh)
                        clear Mh
                        go_wp2_with fail
                        go_roundw
                        case rel => exact ⟨k + 1, by omega, by go_num, HMH.out⟩
                        case measure => simp [intOf]; omega
                      | true =>
                        have HP1 := Lib.hid (show up l z (j + 1) = some p by
                          have h1 : up l z (j + 1) = (up l z j).bind (par l) := rfl
                          rw [h1, HU.out]
                          exact HPP.out)
                        go_wp2_with (first
                          | (refine wpList_store_row (cs := p.cells.toArray) rfl 23 (.tmp 21) (.tmp 139) rfl (heap_alloc_new w2 _) (by rfl) (by rfl) (by rfl) Try.sizeEnt (Ent.one p) ?_; intro w3 R3 M3; have HT3 := Lib.hid (HT2.out.comp0 (freshA M3)); have HB3 := Lib.hid (HB2.out.mods0 (freshA M3)); have b0 := (show EntBox w3 w2.heap.size p from R3).c0; have b1 := (show EntBox w3 w2.heap.size p from R3).c1; clear R3 M3)
                          | (refine wpList_store_row (cs := #[.int .u8 ((p.id.val : Nat) : Int), .int .u8 ((p.inst.val : Nat) : Int)]) rfl 23 (.tmp 18) (.tmp 143) rfl HB3.out (by rfl) (by rfl) (by rfl) Try.sizeEnt (Ent.one p) ?_; intro w4 R4 M4; have HST := Lib.hid (show TrRel wb l z X g2 (.bool true) w4 (j + 1) from ⟨by rw [HP1.out]; rfl, by rw [HP1.out]; exact R4, by rw [HRB.out], HT3.out.trans M4⟩); clear R4 M4))
                        go_roundw
                        case rel => exact ⟨j + 1, by omega, by go_num, HST.out⟩
                        case measure => simp [intOf]; omega
                    | false =>
                      have hE := fun w => ent_eq' u X w
                      obtain ⟨r, hr⟩ : ∃ r, r = decide (u = X) := ⟨_, rfl⟩
                      rw [← hr] at hE HNV
                      have HRB := Lib.hid (show rch l z X (j + 1) = r by rw [HNV.out]; rfl)
                      clear hB hq hu hT hr
                      go_wp2_with fail
                      refine (parent_ok wr l u _ ((HOa.out.mods0 (HM.out.trans HMr.out)).rd ascOk)).mono ?_
                      rintro en w2 ⟨rfl, M2⟩
                      obtain ⟨p, hp⟩ : ∃ p, p = parV l u := ⟨_, rfl⟩
                      obtain ⟨ok, hok⟩ : ∃ ok, ok = (par l u).isSome := ⟨_, rfl⟩
                      rw [← hp, ← hok]
                      have HPP := Lib.hid (show par l u = if ok = true then some p else none by
                        rw [hok, hp]
                        unfold parV
                        cases par l u <;> simp)
                      have HT2 := Lib.hid (HT.out.comp0 M2)
                      have HB2 := Lib.hid (HB.out.mods0 M2)
                      have HM2 := Lib.hid (HM.out.trans (HMr.out.trans M2))
                      have HZ2 := Lib.hid (HZ1.out.mods0 M2)
                      have hg22 : g2 < w2.heap.size := HB2.out.lt
                      clear hp hok M2 u0 u1 x0 x1
                      cases ok with
                      | false =>
                        have HBE := Lib.hid (show r = decide (z ∈ P) by
                          rw [← HRB.out, HP.out]
                          refine rch_stop (by have := HNL.out; omega) ?_
                          have h1 : up l z (j + 1) = (up l z j).bind (par l) := rfl
                          rw [h1, HU.out]
                          exact HPP.out)
                        have HPa := Lib.hid (fun W (h : Mods [] wa W) => lawHas_ok W P z _ (HVPa.out.mods0 entOk h))
                        rw [← HBE.out] at HPa
                        go_wp2_with (refine wpList_store_row (cs := p.cells.toArray) rfl 23 (.tmp 21) (.tmp 139) rfl (heap_alloc_new w2 _) (by rfl) (by rfl) (by rfl) Try.sizeEnt (Ent.one p) ?_; intro w3 R3 M3; have HM3 := Lib.hid (HM2.out.trans (freshA M3)); have HZ3 := Lib.hid (HZ2.out.mods0 (freshA M3)); have z0 := HZ3.out.c0; have z1 := HZ3.out.c1; clear R3 M3)
                        refine (HPa.out _ HM3.out).mono ?_
                        rintro en wh ⟨rfl, Mh⟩
                        have HMH := Lib.hid (HM3.out.trans Mh)
                        clear Mh
                        go_wp2_with fail
                        go_roundw
                        case rel => exact ⟨k + 1, by omega, by go_num, HMH.out⟩
                        case measure => simp [intOf]; omega
                      | true =>
                        have HP1 := Lib.hid (show up l z (j + 1) = some p by
                          have h1 : up l z (j + 1) = (up l z j).bind (par l) := rfl
                          rw [h1, HU.out]
                          exact HPP.out)
                        go_wp2_with (first
                          | (refine wpList_store_row (cs := p.cells.toArray) rfl 23 (.tmp 21) (.tmp 139) rfl (heap_alloc_new w2 _) (by rfl) (by rfl) (by rfl) Try.sizeEnt (Ent.one p) ?_; intro w3 R3 M3; have HT3 := Lib.hid (HT2.out.comp0 (freshA M3)); have HB3 := Lib.hid (HB2.out.mods0 (freshA M3)); have b0 := (show EntBox w3 w2.heap.size p from R3).c0; have b1 := (show EntBox w3 w2.heap.size p from R3).c1; clear R3 M3)
                          | (refine wpList_store_row (cs := #[.int .u8 ((p.id.val : Nat) : Int), .int .u8 ((p.inst.val : Nat) : Int)]) rfl 23 (.tmp 18) (.tmp 143) rfl HB3.out (by rfl) (by rfl) (by rfl) Try.sizeEnt (Ent.one p) ?_; intro w4 R4 M4; have HST := Lib.hid (show TrRel wb l z X g2 (.bool r) w4 (j + 1) from ⟨by rw [HP1.out]; rfl, by rw [HP1.out]; exact R4, by rw [HRB.out], HT3.out.trans M4⟩); clear R4 M4))
                        go_roundw
                        case rel => exact ⟨j + 1, by omega, by go_num, HST.out⟩
                        case measure => simp [intOf]; omega
                  · have j1 : ¬ (j : Int) ≤ (nl : Int) := by omega
                    have hjn : j = nl + 1 := by omega
                    have HBE := Lib.hid (show q = decide (z ∈ P) by rw [HQ.out, hjn, ← HNL.out, rch_all, HP.out])
                    have HPa := Lib.hid (lawHas_ok wr P z _ (HVPa.out.mods0 entOk (HM.out.trans HMr.out)))
                    rw [← HBE.out] at HPa
                    have z0 := HZ1.out.c0
                    have z1 := HZ1.out.c1
                    clear hB hq hu hT hjn
                    go_wp2_with fail
                    refine HPa.out.mono ?_
                    rintro en wh ⟨rfl, Mh⟩
                    have HMH := Lib.hid (HM.out.trans (HMr.out.trans Mh))
                    clear Mh
                    go_wp2_with fail
                    go_roundw
                    case rel => exact ⟨k + 1, by omega, by go_num, HMH.out⟩
                    case measure => simp [intOf]; omega
              · have i2 : ¬ (k : Int) < (nl : Int) := by omega
                obtain ⟨z, hz⟩ : ∃ z, z = Y := ⟨_, rfl⟩
                subst hz
                clear hLr hM hYr
                have HZZ : Hid (EntBox ((wr.alloc (.cells #[.int .u8 ((z.id.val : Nat) : Int), .int .u8 ((z.inst.val : Nat) : Int)] 23)).alloc (.cells #[.int .u8 ((z.id.val : Nat) : Int), .int .u8 ((z.inst.val : Nat) : Int)] 23)) wr.heap.size z ∧ EntBox ((wr.alloc (.cells #[.int .u8 ((z.id.val : Nat) : Int), .int .u8 ((z.inst.val : Nat) : Int)] 23)).alloc (.cells #[.int .u8 ((z.id.val : Nat) : Int), .int .u8 ((z.inst.val : Nat) : Int)] 23)) (wr.heap.size + 1) z ∧ Mods [] wr ((wr.alloc (.cells #[.int .u8 ((z.id.val : Nat) : Int), .int .u8 ((z.inst.val : Nat) : Int)] 23)).alloc (.cells #[.int .u8 ((z.id.val : Nat) : Int), .int .u8 ((z.inst.val : Nat) : Int)] 23))) := Lib.hid (by
                  have BY := EntBox.new (wr.alloc (.cells z.cells.toArray 23)) z
                  rw [World.size_alloc] at BY
                  exact ⟨EntBox.mods0 (EntBox.new wr z) ((Mods.refl (S := [])).alloc (.cells z.cells.toArray 23)), BY, ((Mods.refl (S := []) (w := wr)).alloc (.cells z.cells.toArray 23)).alloc (.cells z.cells.toArray 23)⟩)
                go_wp2_with fail
                generalize ((wr.alloc (.cells #[.int .u8 ((z.id.val : Nat) : Int), .int .u8 ((z.inst.val : Nat) : Int)] 23)).alloc (.cells #[.int .u8 ((z.id.val : Nat) : Int), .int .u8 ((z.inst.val : Nat) : Int)] 23)) = wb at HZZ ⊢
                have hg12 : wr.heap.size < wr.heap.size + 1 := Nat.lt_succ_self _
                have HSZ := Lib.hid (show ∀ q, q = wr.heap.size + 1 → wr.heap.size ≤ q from fun q h => by omega)
                have HST := Lib.hid (show TrRel wb l z X (wr.heap.size + 1) (.bool false) wb 0 from ⟨rfl, HZZ.out.2.1, rfl, Mods.refl⟩)
                have HXb := Lib.hid (HXa.out.mods0 (HM.out.trans HZZ.out.2.2))
                have hxg : gx ≠ wr.heap.size + 1 := by omega
                generalize wr.heap.size + 1 = g2 at HZZ HST HSZ hg12 hxg ⊢
                have HCO : Hid (∀ W, Mods [g2] wb W → Mods [] wr W) := Lib.hid (fun W MW => HZZ.out.2.2.comp MW (fun q hq => by simp at hq; exact .inr (HSZ.out q hq)))
                generalize wr.heap.size = g1 at HZZ hg12 ⊢
                go_loopw [19, 20] (fun t i wx => ∃ j : Nat, j ≤ nl + 1 ∧ i = .int .i64 j ∧ TrRel wb l z X g2 t wx j) (fun _ i _ => nl + 1 - (intOf i).toNat)
                case atStart => exact ⟨0, by omega, rfl, HST.out⟩
                clear HST
                case round =>
                  obtain ⟨j, hj, rfl, hS⟩ := hrel
                  have j0 : (0 : Int) ≤ (j : Int) := by omega
                  obtain ⟨u, hu⟩ := Option.isSome_iff_exists.1 hS.isS
                  have hB := hS.box
                  rw [hu] at hB
                  have hB : EntBox wr g2 u := hB
                  have HB := Lib.hid hB
                  have HU := Lib.hid hu
                  obtain ⟨-, -, ht, hT⟩ := hS
                  have HT := Lib.hid hT
                  have HNV := Lib.hid (rch_succ (x := X) hu)
                  obtain ⟨q, hq⟩ : ∃ q, q = rch l z X j := ⟨_, rfl⟩
                  rw [← hq] at ht HNV
                  have HQ := Lib.hid hq
                  subst ht
                  have HZ1 := Lib.hid (HZZ.out.1.mods hT (by simp; omega))
                  have HXr := Lib.hid (HXb.out.mods hT (by simpa using hxg))
                  have HMr := Lib.hid (HCO.out _ hT)
                  by_cases hjl : j ≤ nl
                  · have j1 : (j : Int) ≤ (nl : Int) := by omega
                    have u0 := hB.c0
                    have u1 := hB.c1
                    have x0 := HXr.out.c0
                    have x1 := HXr.out.c1
                    cases q with
                    | true =>
                      have HRB := Lib.hid (show rch l z X (j + 1) = true by rw [HNV.out]; rfl)
                      clear hB hq hu hT
                      go_wp2_with fail
                      refine (parent_ok wr l u _ ((HOa.out.mods0 (HM.out.trans HMr.out)).rd ascOk)).mono ?_
                      rintro en w2 ⟨rfl, M2⟩
                      obtain ⟨p, hp⟩ : ∃ p, p = parV l u := ⟨_, rfl⟩
                      obtain ⟨ok, hok⟩ : ∃ ok, ok = (par l u).isSome := ⟨_, rfl⟩
                      rw [← hp, ← hok]
                      have HPP := Lib.hid (show par l u = if ok = true then some p else none by
                        rw [hok, hp]
                        unfold parV
                        cases par l u <;> simp)
                      have HT2 := Lib.hid (HT.out.comp0 M2)
                      have HB2 := Lib.hid (HB.out.mods0 M2)
                      have HM2 := Lib.hid (HM.out.trans (HMr.out.trans M2))
                      have HZ2 := Lib.hid (HZ1.out.mods0 M2)
                      have hg22 : g2 < w2.heap.size := HB2.out.lt
                      clear hp hok M2 u0 u1 x0 x1
                      cases ok with
                      | false =>
                        have HBE := Lib.hid (show true = decide (z ∈ P) by
                          rw [← HRB.out, HP.out]
                          refine rch_stop (by have := HNL.out; omega) ?_
                          have h1 : up l z (j + 1) = (up l z j).bind (par l) := rfl
                          rw [h1, HU.out]
                          exact HPP.out)
                        have HPa := Lib.hid (fun W (h : Mods [] wa W) => lawHas_ok W P z _ (HVPa.out.mods0 entOk h))
                        rw [← HBE.out] at HPa
                        go_wp2_with (refine wpList_store_row (cs := p.cells.toArray) rfl 23 (.tmp 21) (.tmp 139) rfl (heap_alloc_new w2 _) (by rfl) (by rfl) (by rfl) Try.sizeEnt (Ent.one p) ?_; intro w3 R3 M3; have HM3 := Lib.hid (HM2.out.trans (freshA M3)); have HZ3 := Lib.hid (HZ2.out.mods0 (freshA M3)); have z0 := HZ3.out.c0; have z1 := HZ3.out.c1; clear R3 M3)
                        refine (HPa.out _ HM3.out).mono ?_
                        rintro en wh ⟨rfl, Mh⟩
                        have HMH := Lib.hid (HM3.out.trans Mh)
                        clear Mh
                        go_wp2_with fail
                        go_roundw
                        case rel => exact ⟨k + 1, by omega, by go_num, HMH.out⟩
                        case measure => simp [intOf]; omega
                      | true =>
                        have HP1 := Lib.hid (show up l z (j + 1) = some p by
                          have h1 : up l z (j + 1) = (up l z j).bind (par l) := rfl
                          rw [h1, HU.out]
                          exact HPP.out)
                        go_wp2_with (first
                          | (refine wpList_store_row (cs := p.cells.toArray) rfl 23 (.tmp 21) (.tmp 139) rfl (heap_alloc_new w2 _) (by rfl) (by rfl) (by rfl) Try.sizeEnt (Ent.one p) ?_; intro w3 R3 M3; have HT3 := Lib.hid (HT2.out.comp0 (freshA M3)); have HB3 := Lib.hid (HB2.out.mods0 (freshA M3)); have b0 := (show EntBox w3 w2.heap.size p from R3).c0; have b1 := (show EntBox w3 w2.heap.size p from R3).c1; clear R3 M3)
                          | (refine wpList_store_row (cs := #[.int .u8 ((p.id.val : Nat) : Int), .int .u8 ((p.inst.val : Nat) : Int)]) rfl 23 (.tmp 18) (.tmp 143) rfl HB3.out (by rfl) (by rfl) (by rfl) Try.sizeEnt (Ent.one p) ?_; intro w4 R4 M4; have HST := Lib.hid (show TrRel wb l z X g2 (.bool true) w4 (j + 1) from ⟨by rw [HP1.out]; rfl, by rw [HP1.out]; exact R4, by rw [HRB.out], HT3.out.trans M4⟩); clear R4 M4))
                        go_roundw
                        case rel => exact ⟨j + 1, by omega, by go_num, HST.out⟩
                        case measure => simp [intOf]; omega
                    | false =>
                      have hE := fun w => ent_eq' u X w
                      obtain ⟨r, hr⟩ : ∃ r, r = decide (u = X) := ⟨_, rfl⟩
                      rw [← hr] at hE HNV
                      have HRB := Lib.hid (show rch l z X (j + 1) = r by rw [HNV.out]; rfl)
                      clear hB hq hu hT hr
                      go_wp2_with fail
                      refine (parent_ok wr l u _ ((HOa.out.mods0 (HM.out.trans HMr.out)).rd ascOk)).mono ?_
                      rintro en w2 ⟨rfl, M2⟩
                      obtain ⟨p, hp⟩ : ∃ p, p = parV l u := ⟨_, rfl⟩
                      obtain ⟨ok, hok⟩ : ∃ ok, ok = (par l u).isSome := ⟨_, rfl⟩
                      rw [← hp, ← hok]
                      have HPP := Lib.hid (show par l u = if ok = true then some p else none by
                        rw [hok, hp]
                        unfold parV
                        cases par l u <;> simp)
                      have HT2 := Lib.hid (HT.out.comp0 M2)
                      have HB2 := Lib.hid (HB.out.mods0 M2)
                      have HM2 := Lib.hid (HM.out.trans (HMr.out.trans M2))
                      have HZ2 := Lib.hid (HZ1.out.mods0 M2)
                      have hg22 : g2 < w2.heap.size := HB2.out.lt
                      clear hp hok M2 u0 u1 x0 x1
                      cases ok with
                      | false =>
                        have HBE := Lib.hid (show r = decide (z ∈ P) by
                          rw [← HRB.out, HP.out]
                          refine rch_stop (by have := HNL.out; omega) ?_
                          have h1 : up l z (j + 1) = (up l z j).bind (par l) := rfl
                          rw [h1, HU.out]
                          exact HPP.out)
                        have HPa := Lib.hid (fun W (h : Mods [] wa W) => lawHas_ok W P z _ (HVPa.out.mods0 entOk h))
                        rw [← HBE.out] at HPa
                        go_wp2_with (refine wpList_store_row (cs := p.cells.toArray) rfl 23 (.tmp 21) (.tmp 139) rfl (heap_alloc_new w2 _) (by rfl) (by rfl) (by rfl) Try.sizeEnt (Ent.one p) ?_; intro w3 R3 M3; have HM3 := Lib.hid (HM2.out.trans (freshA M3)); have HZ3 := Lib.hid (HZ2.out.mods0 (freshA M3)); have z0 := HZ3.out.c0; have z1 := HZ3.out.c1; clear R3 M3)
                        refine (HPa.out _ HM3.out).mono ?_
                        rintro en wh ⟨rfl, Mh⟩
                        have HMH := Lib.hid (HM3.out.trans Mh)
                        clear Mh
                        go_wp2_with fail
                        go_roundw
                        case rel => exact ⟨k + 1, by omega, by go_num, HMH.out⟩
                        case measure => simp [intOf]; omega
                      | true =>
                        have HP1 := Lib.hid (show up l z (j + 1) = some p by
                          have h1 : up l z (j + 1) = (up l z j).bind (par l) := rfl
                          rw [h1, HU.out]
                          exact HPP.out)
                        go_wp2_with (first
                          | (refine wpList_store_row (cs := p.cells.toArray) rfl 23 (.tmp 21) (.tmp 139) rfl (heap_alloc_new w2 _) (by rfl) (by rfl) (by rfl) Try.sizeEnt (Ent.one p) ?_; intro w3 R3 M3; have HT3 := Lib.hid (HT2.out.comp0 (freshA M3)); have HB3 := Lib.hid (HB2.out.mods0 (freshA M3)); have b0 := (show EntBox w3 w2.heap.size p from R3).c0; have b1 := (show EntBox w3 w2.heap.size p from R3).c1; clear R3 M3)
                          | (refine wpList_store_row (cs := #[.int .u8 ((p.id.val : Nat) : Int), .int .u8 ((p.inst.val : Nat) : Int)]) rfl 23 (.tmp 18) (.tmp 143) rfl HB3.out (by rfl) (by rfl) (by rfl) Try.sizeEnt (Ent.one p) ?_; intro w4 R4 M4; have HST := Lib.hid (show TrRel wb l z X g2 (.bool r) w4 (j + 1) from ⟨by rw [HP1.out]; rfl, by rw [HP1.out]; exact R4, by rw [HRB.out], HT3.out.trans M4⟩); clear R4 M4))
                        go_roundw
                        case rel => exact ⟨j + 1, by omega, by go_num, HST.out⟩
                        case measure => simp [intOf]; omega
                  · have j1 : ¬ (j : Int) ≤ (nl : Int) := by omega
                    have hjn : j = nl + 1 := by omega
                    have HBE := Lib.hid (show q = decide (z ∈ P) by rw [HQ.out, hjn, ← HNL.out, rch_all, HP.out])
                    have HPa := Lib.hid (lawHas_ok wr P z _ (HVPa.out.mods0 entOk (HM.out.trans HMr.out)))
                    rw [← HBE.out] at HPa
                    have z0 := HZ1.out.c0
                    have z1 := HZ1.out.c1
                    clear hB hq hu hT hjn
                    go_wp2_with fail
                    refine HPa.out.mono ?_
                    rintro en wh ⟨rfl, Mh⟩
                    have HMH := Lib.hid (HM.out.trans (HMr.out.trans Mh))
                    clear Mh
                    go_wp2_with fail
                    go_roundw
                    case rel => exact ⟨k + 1, by omega, by go_num, HMH.out⟩
                    case measure => simp [intOf]; omega
            · have i1 : ¬ (k : Int) < (nl : Int) + 1 := by omega
              have HXP := Lib.hid (show decide (X ∈ P) = true from decide_eq_true (by rw [HP.out]; exact mem_wth.2 (.inl rfl)))
              have HH1 := Lib.hid (lawHas_ok wr P Y _ (HVPa.out.mods0 entOk HM.out))
              obtain ⟨q1, hq1⟩ : ∃ q, q = decide (Y ∈ P) := ⟨_, rfl⟩
              rw [← hq1] at HH1
              have HQ1 := Lib.hid hq1
              clear hq1 hM hYr
              go_wp2_with fail
              refine HH1.out.mono ?_
              rintro en wh ⟨rfl, Mh⟩
              have HMH := Lib.hid (HM.out.trans Mh)
              have x0 := (HXa.out.mods0 HMH.out).c0
              have x1 := (HXa.out.mods0 HMH.out).c1
              clear Mh c0 c1 HH1
              cases q1 with
              | true =>
                have HFH := Lib.hid (lawHas_ok wh P X _ (HVPa.out.mods0 entOk HMH.out))
                rw [HXP.out] at HFH
                go_wp2_with fail
                refine HFH.out.mono ?_
                rintro en wf ⟨rfl, Mf⟩
                have HMf := Lib.hid (HMV.out.trans (HMH.out.trans Mf))
                clear Mf
                go_wp2_with fail
                refine (awake15_ok wf).mono ?_
                rintro en wg ⟨rfl, Mg⟩
                have HMg := Lib.hid (HMf.out.trans Mg)
                clear Mg
                go_wp2_with fail
                go_ret
                exact ⟨rfl, HMg.out⟩
              | false =>
                have HH2 := Lib.hid (lawHas_ok wh Z X _ (HVQa.out.mods0 entOk HMH.out))
                obtain ⟨q2, hq2⟩ : ∃ q, q = decide (X ∈ Z) := ⟨_, rfl⟩
                rw [← hq2] at HH2
                have HQ2 := Lib.hid hq2
                clear hq2
                go_wp2_with fail
                refine HH2.out.mono ?_
                rintro en wi ⟨rfl, Mi⟩
                have HMI := Lib.hid (HMH.out.trans Mi)
                have x2 := (HXa.out.mods0 HMI.out).c0
                have x3 := (HXa.out.mods0 HMI.out).c1
                clear Mi x0 x1 HH2
                cases q2 with
                | true =>
                  have HFH := Lib.hid (lawHas_ok wi P X _ (HVPa.out.mods0 entOk HMI.out))
                  rw [HXP.out] at HFH
                  go_wp2_with fail
                  refine HFH.out.mono ?_
                  rintro en wf ⟨rfl, Mf⟩
                  have HMf := Lib.hid (HMV.out.trans (HMI.out.trans Mf))
                  clear Mf
                  go_wp2_with fail
                  refine (awake15_ok wf).mono ?_
                  rintro en wg ⟨rfl, Mg⟩
                  have HMg := Lib.hid (HMf.out.trans Mg)
                  clear Mg
                  go_wp2_with fail
                  go_ret
                  exact ⟨rfl, HMg.out⟩
                | false =>
                  have HNS := Lib.hid (show ∀ e, e ∈ P → decide (e ∈ Z) = false from fun e he => decide_eq_false (by
                    have h1 := of_decide_eq_false HQ1.out.symm
                    have h2 := of_decide_eq_false HQ2.out.symm
                    rw [HP.out] at h1 he
                    rw [HZ.out] at h2 ⊢
                    exact share_none h1 h2 he))
                  go_wp2_with fail
                  clear x2 x3
                  go_loopw [23] (fun i wr => ∃ k : Nat, k ≤ NP ∧ i = .int .i64 k ∧ Mods [] wa wr) (fun i _ => NP - (intOf i).toNat)
                  case atStart => exact ⟨0, by omega, rfl, HMI.out⟩
                  clear i1 hlt i0 hk
                  case round =>
                    obtain ⟨m, hm, rfl, hM⟩ := hrel
                    have i0 : (0 : Int) ≤ (m : Int) := by omega
                    have HMM := Lib.hid hM
                    have x0 := (HXa.out.mods0 hM).c0
                    have x1 := (HXa.out.mods0 hM).c1
                    by_cases hlt : m < NP
                    · have i1 : (m : Int) < (NP : Int) := by omega
                      obtain ⟨bi, oi, ci', hv2, _, _, hc⟩ := (HVPa.out.mods0 entOk hM).ent (by rw [← HNP.out]; omega)
                      injection hv2 with hv3 hv5 hv4
                      subst hv3 hv4
                      clear hv5
                      obtain ⟨y0, y1⟩ := hc m (by rw [← HNP.out]; exact hlt)
                      have HNZ := Lib.hid (HNS.out _ (getD_mem (d := default) (show m < P.length by rw [← HNP.out]; exact hlt)))
                      generalize P.getD m default = e at y0 y1 HNZ
                      have HLH := Lib.hid (lawHas_ok wr Z e _ (HVQa.out.mods0 entOk HMM.out))
                      rw [HNZ.out] at HLH
                      clear hc hM
                      go_wp2_with fail
                      refine HLH.out.mono ?_
                      rintro en wj ⟨rfl, Mj⟩
                      have HMJ := Lib.hid (HMM.out.trans Mj)
                      clear Mj
                      go_wp2_with fail
                      go_roundw
                      case rel => exact ⟨m + 1, by omega, by go_num, HMJ.out⟩
                      case measure => simp [intOf]; omega
                    · have i1 : ¬ (m : Int) < (NP : Int) := by omega
                      clear hM
                      have HFH := Lib.hid (lawHas_ok wr P X _ (HVPa.out.mods0 entOk HMM.out))
                      rw [HXP.out] at HFH
                      go_wp2_with fail
                      refine HFH.out.mono ?_
                      rintro en wf ⟨rfl, Mf⟩
                      have HMf := Lib.hid (HMV.out.trans (HMM.out.trans Mf))
                      clear Mf
                      go_wp2_with fail
                      refine (awake15_ok wf).mono ?_
                      rintro en wg ⟨rfl, Mg⟩
                      have HMg := Lib.hid (HMf.out.trans Mg)
                      clear Mg
                      go_wp2_with fail
                      go_ret
                      exact ⟨rfl, HMg.out⟩
  · have HLL := Lib.hid (decide_eq_false hl)
    go_enter Try.func5, Try.ntmps5
    go_wp2_with fail
    generalize (w.alloc (.cells ea.cells.toArray 23)).alloc (.cells eb.cells.toArray 23) = w0 at BA BB HM0 HL HV ⊢
    refine HL.out.mono ?_
    rw [HLL.out]
    rintro e w' ⟨rfl, rfl⟩
    go_wp2_with fail
    refine (awake15_ok _).mono ?_
    rintro e w1 ⟨rfl, M1⟩
    go_wp2
    go_ret
    exact ⟨rfl, HM0.out.trans M1⟩
end Go.Proofs.Ytijjkonephjodaa
