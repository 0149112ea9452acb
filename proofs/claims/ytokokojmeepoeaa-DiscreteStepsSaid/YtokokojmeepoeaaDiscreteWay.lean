/- DiscreteWay: the walk. -/
import Derived.Test.YtokokojmeepoeaaChgApp
import Derived.Test.YtokokojmeepoeaaAwakeD
import Derived.Test.YtokokojmeepoeaaMadeDig
import Derived.Test.YtokokojmeepoeaaReady
import Derived.BigQuiet
namespace Go.Proofs.Ytokokojmeepoeaa
open Go.RowKit

theorem masked {x y s : Nat} (hs : s < 65536) : ((x &&& s) ||| (y &&& s)) &&& (65535 - s) = 0 :=
  or_mask (by rw [Nat.and_comm x s]; exact sub_mask s x hs) (by rw [Nat.and_comm y s]; exact sub_mask s y hs)
theorem dstep_of {S : Sen} {P : List Pt} (h : digB S P = true) (u t : Nat) (hx : (u ||| t) &&& (65535 - S.states) = 0) : dstepN S P u t = (t, chL u t 15, 0) := by
  rw [dstepN, if_pos h, if_pos hx]
set_option maxRecDepth 100000 in
set_option maxHeartbeats 4000000 in
theorem discreteWay_walk (w : World) (v : Value) (L : List Int) (hv : Rd w v (i64s L)) (hb : ∀ i, -9223372036854775808 ≤ L.getD i 0 ∧ L.getD i 0 ≤ 9223372036854775807)
    (a : Int) (ha : 0 ≤ a ∧ a ≤ 65535) (b : Int) (hbb : 0 ≤ b ∧ b ≤ 65535) (c : Int) (hcc : 0 ≤ c ∧ c ≤ 65535) :
    Calls Try.prog 5 #[v, .int .u16 a, .int .u16 b, .int .u16 c] w fun e w' => e = .returned (.bool true) ∧ Mods [] w w' := by
  obtain ⟨a0, a1⟩ := ha
  obtain ⟨b0, b1⟩ := hbb
  obtain ⟨c0, c1⟩ := hcc
  obtain ⟨ra, rfl⟩ := Int.eq_ofNat_of_zero_le a0
  obtain ⟨rb, rfl⟩ := Int.eq_ofNat_of_zero_le b0
  obtain ⟨rc, rfl⟩ := Int.eq_ofNat_of_zero_le c0
  have hra : ra < 65536 := by omega
  have hrb : rb < 65536 := by omega
  have hrc : rc < 65536 := by omega
  clear a0 a1 b0 b1 c0 c1
  have HL := Lib.hid (light_ok w v L hv)
  have HV := Lib.hid hv
  have HB := Lib.hid hb
  clear hv hb
  by_cases hl : L.length ≤ 600
  · skip
    have HLL := Lib.hid (decide_eq_true hl)
    go_enter Try.func5, Try.ntmps5
    go_wp2_with fail
    refine HL.out.mono ?_
    rw [HLL.out]
    rintro e w' ⟨rfl, rfl⟩
    go_wp2_with fail
    refine (roll_ok w v L HV.out (by omega) HB.out).mono ?_
    rintro e w1 ⟨rfl, D1, M1, z1⟩
    go_wp2_with fail
    refine (digital_ok w1 w.heap.size v L 0 D1 1 (by omega)).mono ?_
    rintro e w2 ⟨S, n2, rfl, IS, VS, DS, HSL, OP, SN, D2, M2⟩
    have M2 : Mods [] w w2 := M1.comp M2 (fun q hq => by simp at hq; subst hq; exact .inr (Nat.le_refl _))
    have hone := Lib.hid IS.conv.rd.one
    have HDB := Lib.hid (show digB S [] = true by rw [digB, DS, VS]; rfl)
    have HGW := Lib.hid M2.size
    have HA : Hid (∀ W, W.heap[w2.heap.size]? = some (.cells S.cells 32 (0, 0)) → Mods [w2.heap.size] (w2.alloc (.cells zS.cells 32)) W → Sn W w.heap.size w2.heap.size S [] ∧ IsDice W w.heap.size v L n2 ∧ Mods [] w W) := Lib.hid (fun W R M => by
      have ⟨x, y, z⟩ := Sn.made D1.lt IS OP D2 R M
      exact ⟨x, y, M2.trans z⟩)
    clear D1 D2 M1 VS DS OP SN IS
    go_wp2_with (first | (refine wpList_load_sen rfl (.tmp 9) rfl HB4.out (by rfl) ?_) | (refine wpList_store_row (cs := S.cells) rfl 32 (.tmp 9) (.tmp 34) rfl (heap_alloc_new w2 _) (by rfl) (by rfl) (by rfl) (Sen.infoS _) (Sen.one _ hone.out) ?_; intro w4 R4 M4; have HA4 := Lib.hid (HA.out w4 R4 M4); have HB4 := Lib.hid HA4.out.1.box; have c23:w4.cell? ⟨w2.heap.size,23,none⟩=some (.int .u16 S.states):=HB4.out.rest.2.2.1; clear M4 R4))
    clear HA M2
    have hst := HSL
    have e1 : bits .and .u16 (ra : Int) (S.states : Int) = ((ra &&& S.states : Nat) : Int) := u16_and_nat _ _ hra (by omega)
    have e2 : bits .and .u16 (rb : Int) (S.states : Int) = ((rb &&& S.states : Nat) : Int) := u16_and_nat _ _ hrb (by omega)
    have e3 : bits .and .u16 (rc : Int) (S.states : Int) = ((rc &&& S.states : Nat) : Int) := u16_and_nat _ _ hrc (by omega)
    have hx : ra &&& S.states < 32768 := Nat.lt_of_le_of_lt Nat.and_le_right hst
    have hy : rb &&& S.states < 32768 := Nat.lt_of_le_of_lt Nat.and_le_right hst
    have hz : rc &&& S.states < 32768 := Nat.lt_of_le_of_lt Nat.and_le_right hst
    have Hxy := Lib.hid (dstep_of HDB.out _ _ (masked (x := ra) (y := rb) (show S.states < 65536 by omega)))
    have Hyx := Lib.hid (dstep_of HDB.out _ _ (masked (x := rb) (y := ra) (show S.states < 65536 by omega)))
    have Hxz := Lib.hid (dstep_of HDB.out _ _ (masked (x := ra) (y := rc) (show S.states < 65536 by omega)))
    have Hzy := Lib.hid (dstep_of HDB.out _ _ (masked (x := rc) (y := rb) (show S.states < 65536 by omega)))
    generalize w2.heap.size = g at HA4 HB4 c23 HGW ⊢
    generalize ra &&& S.states = x at e1 hx Hxy Hyx Hxz
    generalize rb &&& S.states = y at e2 hy Hxy Hyx Hzy
    generalize rc &&& S.states = z at e3 hz Hxz Hzy
    go_quiet (fail)
    have HS := Lib.hid (HA4.out.1.mods0 (Mods.refl.drewN nq))
    have HM := Lib.hid (HA4.out.2.2.drewN nq)
    generalize w4.drewN nq = w5 at HS HM ⊢
    clear HA4 HB4 c23 e1 e2 e3 HSL hst HDB hone
    go_wp2_with (refine wpList_load_sen rfl (.tmp 9) rfl HS.out.box (by rfl) ?_)
    refine (dstep_ok _ S [] HS.out.sen x y (by omega) (by omega)).mono ?_
    rw [Hxy.out]
    rintro e w6 ⟨v6, rfl, O6, M6⟩
    have HS := Lib.hid (HS.out.mods0 M6)
    have HM := Lib.hid (HM.out.trans M6)
    have HO6 := Lib.hid O6
    clear O6 M6
    go_wp2_with (refine wpList_load_sen rfl (.tmp 9) rfl HS.out.box (by rfl) ?_)
    refine (dstep_ok _ S [] HS.out.sen y x (by omega) (by omega)).mono ?_
    rw [Hyx.out]
    rintro e w7 ⟨v7, rfl, O7, M7⟩
    have HS := Lib.hid (HS.out.mods0 M7)
    have HM := Lib.hid (HM.out.trans M7)
    have HO6 := Lib.hid (HO6.out.mods0 M7)
    have HO7 := Lib.hid O7
    clear O7 M7
    go_wp2_with (refine wpList_load_sen rfl (.tmp 9) rfl HS.out.box (by rfl) ?_)
    refine (dstep_ok _ S [] HS.out.sen x z (by omega) (by omega)).mono ?_
    rw [Hxz.out]
    rintro e w8 ⟨v8, rfl, O8, M8⟩
    have HS := Lib.hid (HS.out.mods0 M8)
    have HM := Lib.hid (HM.out.trans M8)
    have HO6 := Lib.hid (HO6.out.mods0 M8)
    have HO7 := Lib.hid (HO7.out.mods0 M8)
    have HO8 := Lib.hid O8
    clear O8 M8
    go_wp2_with (refine wpList_load_sen rfl (.tmp 9) rfl HS.out.box (by rfl) ?_)
    refine (dstep_ok _ S [] HS.out.sen z y (by omega) (by omega)).mono ?_
    rw [Hzy.out]
    rintro e w9 ⟨v9, rfl, O9, M9⟩
    have HS := Lib.hid (HS.out.mods0 M9)
    have HM := Lib.hid (HM.out.trans M9)
    have HO6 := Lib.hid (HO6.out.mods0 M9)
    have HO7 := Lib.hid (HO7.out.mods0 M9)
    have HO8 := Lib.hid (HO8.out.mods0 M9)
    have HO9 := Lib.hid O9
    clear O9 M9 Hxy Hyx Hxz Hzy HS
    obtain ⟨ad6, cap6, rfl, h61, h62, _⟩ := HO6.out.rd
    obtain ⟨ad7, cap7, rfl, h71, h72, _⟩ := HO7.out.rd
    obtain ⟨ad8, cap8, rfl, h81, h82, _⟩ := HO8.out.rd
    obtain ⟨ad9, cap9, rfl, h91, h92, _⟩ := HO9.out.rd
    have h63 : cap6 ≤ 9223372036854775807 := h62
    have h73 : cap7 ≤ 9223372036854775807 := h72
    clear h62 h72 h82 h92
    have hl6 := chL_length x y 15
    have hl7 := chL_length y x 15
    have hl8 := chL_length x z 15
    have hl9 := chL_length z y 15
    have hle : (((chL x y 15).length : Int) != ((chL y x 15).length : Int)) = false := by rw [chL_back_len x y]; simp
    have HR6 := Lib.hid HO6.out.rd
    have HR7 := Lib.hid HO7.out.rd
    go_wp2_with fail
    clear hle
    go_loopw [25] (fun i wr => ∃ k : Nat, k ≤ (chL x y 15).length ∧ i = .int .i64 k ∧ Mods [] w9 wr) (fun i _ => 15 - (intOf i).toNat)
    case atStart => exact ⟨0, Nat.zero_le _, rfl, Mods.refl⟩
    case round =>
      obtain ⟨k, hk, rfl, M10⟩ := hrel
      by_cases hlt : k < (chL x y 15).length
      · obtain ⟨_, _, he, _, _, hc⟩ := HR6.out.mods0 M10
        obtain ⟨bb, off, rfl, x0, x1⟩ := hc k hlt
        injection he with he1 he2 he3
        subst he1 he3
        clear hc he2
        have hlt2 : k < (chL y x 15).length := by rw [chL_back_len x y]; exact hlt
        obtain ⟨_, _, he, _, _, hc⟩ := HR7.out.mods0 M10
        obtain ⟨bb2, off2, rfl, y0, y1⟩ := hc k hlt2
        injection he with he1 he2 he3
        subst he1 he3
        clear hc he2
        obtain ⟨f1, f2⟩ := chL_back x y 15 k hlt
        rw [f1] at y0
        rw [f2] at y1
        generalize ((chL x y 15).getD k default).idx = ix at x0 y0
        generalize ((chL x y 15).getD k default).on = tb1 at x1 y1
        have i1 : (0 : Int) ≤ (k : Int) := by omega
        have i2 : (k : Int) < ((chL x y 15).length : Int) := by omega
        have i3 : (k : Int) < ((chL y x 15).length : Int) := by omega
        have d1 : (ix != ix) = false := by simp
        have d2 : (tb1 == !tb1) = false := by cases tb1 <;> rfl
        clear f1 f2
        have HM10 := Lib.hid M10
        go_wp2_with fail
        go_quiet (fail)
        go_wp2
        exact ⟨⟨k + 1, by omega, by go_num, HM10.out.drewN _⟩, by simp only [intOf]; omega⟩
      · have hk2 : k = (chL x y 15).length := by omega
        have HM := Lib.hid (HM.out.trans M10)
        have HO8 := Lib.hid (HO8.out.mods0 M10)
        have HO9 := Lib.hid (HO9.out.mods0 M10)
        clear HR6 HR7 HO6 HO7 M10
        have HAP := Lib.hid (show applyN x (chL x z 15 ++ chL z y 15) = (y, 0) by
          have h1 := apply_step (Nat.le_refl 15) hx hz (chL z y 15)
          have h2 := apply_step (Nat.le_refl 15) hz hy []
          rw [List.append_nil] at h2
          rw [h1, h2]; rfl)
        have HCO := Lib.hid (ChgOk.of (l := chL x z 15 ++ chL z y 15) fun c hc => by
          rcases List.mem_append.1 hc with h | h
          · exact chL_ok x z 15 (Nat.le_refl _) c h
          · exact chL_ok z y 15 (Nat.le_refl _) c h)
        go_wp2_with (first
          | (at_builtin; refine wpList_appC rfl (.tmp 133) (.tmp 134) rfl wr.heap.size _ (chL x z 15) (by rfl) O11.out _ _ (chL z y 15) (by rfl) (HO9.out.mods0 M11.out) (by omega) M11.out.size ?_; intro v12 w12 O12 M12; have M12 := Lib.hid (M11.out.then_from M12 (Nat.le_refl _)); have O12 := Lib.hid O12)
          | (at_builtin; refine wpList_appC rfl (.const (.slice none 0 0)) (.tmp 132) rfl wr.heap.size (.slice none 0 0) [] (by rfl) (OwnChg.nil _ _) _ _ (chL x z 15) (by rfl) HO8.out (by simp; omega) (Nat.le_refl _) ?_; intro v11 w11 O11 M11; have M11 := Lib.hid ((Mods.refl (S := []) (w := wr)).then_from M11 (Nat.le_refl _)); have O11 : Hid (OwnChg w11 wr.heap.size v11 (chL x z 15)) := Lib.hid O11))
        refine (apply_ok _ x (by omega) v12 (chL x z 15 ++ chL z y 15) O12.out.rd HCO.out (by simp; omega)).mono ?_
        rw [HAP.out]
        rintro e w13 ⟨rfl, M13⟩
        have HM := Lib.hid ((HM.out.trans M12.out).trans M13)
        obtain ⟨t1, t2⟩ := chL_tri x y z 15
        clear M13 M12 O12 M11 O11 HO8 HO9 HAP HCO
        generalize (chL x y 15).length = n1 at hl6 t1 t2 ⊢
        generalize (chL x z 15).length = n2' at hl8 t1 t2 ⊢
        generalize (chL z y 15).length = n3 at hl9 t1 t2 ⊢
        have q1 : decide ((n1 : Int) ≤ (n2' : Int) + (n3 : Int)) = true := decide_eq_true (by omega)
        have q2 : (((n2' : Int) + (n3 : Int) - (n1 : Int)).tmod 2 == 0) = true := by
          rw [show ((n2' : Int) + (n3 : Int) - (n1 : Int)) = ((n2' + n3 - n1 : Nat) : Int) by omega, show ((n2' + n3 - n1 : Nat) : Int).tmod 2 = (((n2' + n3 - n1) % 2 : Nat) : Int) from (Int.ofNat_tmod _ 2).symm, t2]; rfl
        have q3 : ((n2' : Int) + (n3 : Int) - (n1 : Int)) % 2 = 0 := by omega
        go_wp2_with fail
        refine (awakeD_ok _).mono ?_
        rintro e w14 ⟨rfl, M14⟩
        go_wp2
        go_ret
        exact ⟨rfl, HM.out.trans M14⟩
  · skip
    have HLL := Lib.hid (decide_eq_false hl)
    go_enter Try.func5, Try.ntmps5
    go_wp2_with fail
    refine HL.out.mono ?_
    rw [HLL.out]
    rintro e w' ⟨rfl, rfl⟩
    go_wp2_with fail
    refine (awakeD_ok _).mono ?_
    rintro e w1 ⟨rfl, M1⟩
    go_wp2
    go_ret
    exact ⟨rfl, M1⟩
end Go.Proofs.Ytokokojmeepoeaa
