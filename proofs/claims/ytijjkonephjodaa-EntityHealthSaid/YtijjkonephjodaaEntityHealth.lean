/- EntityHealth: the walk. -/
import Derived.Test.YtijjkonephjodaaEnH
import Derived.Test.YtijjkonephjodaaEntV
import Derived.Deep.DeepCutAuto
namespace Go.Proofs.Ytijjkonephjodaa
open Go.RowKit

set_option maxRecDepth 100000 in
set_option maxHeartbeats 8000000 in
theorem entityHealth_walk (w : World) (v : Value) (L : List Int) (hv : Rd w v (i64s L)) (hb : ∀ i, -9223372036854775808 ≤ L.getD i 0 ∧ L.getD i 0 ≤ 9223372036854775807) (sv : Int) (hsv : I64 sv) :
    Calls Try.prog 8 #[v, .int .i64 sv] w fun e w' => e = .returned (.bool true) ∧ Mods [] w w' := by
  have HL := Lib.hid (light_ok w v L hv)
  have HV := Lib.hid hv
  have HB := Lib.hid hb
  clear hv hb
  by_cases hl : L.length ≤ 600
  · have HLL := Lib.hid (decide_eq_true hl)
    go_enter Try.func8, Try.ntmps8
    go_wp2_with fail
    refine HL.out.mono ?_
    rw [HLL.out]
    rintro e w' ⟨rfl, rfl⟩
    go_wp2_with fail
    refine (roll_ok w v L HV.out (by omega) HB.out).mono ?_
    rintro e w1 ⟨rfl, D1, M1, z1⟩
    go_wp2_with fail
    refine (ascs_ok w1 w.heap.size v L 0 D1 9 (by omega)).mono ?_
    rintro e w2 ⟨vl, l, j2, rfl, Ol, hl9, hck, D2, M2⟩
    have HM2 := Lib.hid (show Mods [] w w2 from M1.comp M2 (fun q hq => by simp at hq; subst hq; exact .inr (Nat.le_refl _)))
    have HOl := Lib.hid Ol
    have HCK := Lib.hid hck
    have HL9 := Lib.hid hl9
    have hz2 := M2.size
    have HD2 := Lib.hid D2
    obtain ⟨al, cl, rfl⟩ := (Ol.rd ascOk).len
    clear D1 M1 M2 Ol hck hl9 D2
    generalize hnl : l.length = nl at HOl ⊢
    have HNL := Lib.hid hnl
    clear hnl
    go_wp2_with fail
    refine (entities_ok w2 w.heap.size v L j2 HD2.out 2 (by omega)).mono ?_
    rintro e w3 ⟨va, ab, j3, rfl, Oa, hla, D3, M3⟩
    have HM3 := Lib.hid (HM2.out.comp M3 (fun q hq => by simp at hq; subst hq; exact .inr (Nat.le_refl _)))
    have HOa := Lib.hid Oa
    have HLA := Lib.hid hla
    have HOl3 := Lib.hid (HOl.out.mods M3 (fun k hk hm => by simp at hm; subst hm; have := (HOl.out.lt _ hk).1; omega))
    have hz3 := M3.size
    have HD3 := Lib.hid D3
    obtain ⟨aa, ca, rfl⟩ := (Oa.rd entOk).len
    clear M3 Oa hla D3 HOl HD2
    generalize hna : ab.length = na at HOa ⊢
    have HNA := Lib.hid hna
    clear hna
    go_wp2_with fail
    refine (entity_ok w3 w.heap.size v L j3 HD3.out).mono ?_
    rintro e w4 ⟨x0, y0, j4, rfl, hx, hy, D4, M4⟩
    obtain ⟨x, hxe⟩ : ∃ x : Ent, x = ⟨⟨x0, hx⟩, ⟨y0, hy⟩⟩ := ⟨_, rfl⟩
    have hx0 : (x0 : Int) = ((x.id.val : Nat) : Int) := by rw [hxe]
    have hy0 : (y0 : Int) = ((x.inst.val : Nat) : Int) := by rw [hxe]
    rw [hx0, hy0]
    clear hx0 hy0 hxe hx hy
    have HM4 := Lib.hid (HM3.out.comp M4 (fun q hq => by simp at hq; subst hq; exact .inr (Nat.le_refl _)))
    have HOl4 := Lib.hid (HOl3.out.mods M4 (fun k hk hm => by simp at hm; subst hm; have := (HOl3.out.lt _ hk).1; omega))
    have HOa4 := Lib.hid (HOa.out.mods M4 (fun k hk hm => by simp at hm; subst hm; have := (HOa.out.lt _ hk).1; omega))
    have hz4 := M4.size
    have HD4 := Lib.hid D4
    clear M4 D4 HD3 HOl3 HOa
    have HALL : Hid (∀ W, Mods [] w4 W → OwnE ascE W w1.heap.size (.slice al nl cl) l ∧ OwnE entE W w2.heap.size (.slice aa na ca) ab ∧ IsDice W w.heap.size v L j4 ∧ Mods [] w W) := Lib.hid (fun W M => ⟨HOl4.out.mods0 M, HOa4.out.mods0 M, HD4.out.mods0 M, HM4.out.trans M⟩)
    go_wp2_with (refine wpList_store_row (cs := #[.int .u8 ((x.id.val : Nat) : Int), .int .u8 ((x.inst.val : Nat) : Int)]) rfl 23 (.tmp 8) (.tmp 39) rfl (heap_alloc_new w4 _) (by rfl) (by rfl) (by rfl) Try.sizeEnt (Ent.one x) ?_; intro w5 R5 M5; have HF5 := Lib.hid (freshA M5); have HB5 := Lib.hid (show EntBox w5 w4.heap.size x from R5); have b0 := HB5.out.c0; have b1 := HB5.out.c1; clear R5 M5)
    have hgx : w.heap.size < w4.heap.size := by have := HD4.out.lt; exact this
    generalize w4.heap.size = gx at HB5 b0 b1 hgx ⊢
    clear HOl4 HOa4 HD4 HM4 HM3 HM2
    refine (next_ok w5 w.heap.size v L j4 (HALL.out _ HF5.out).2.2.1 8 (by omega) (by omega)).mono ?_
    rintro e w6 ⟨r, j5, rfl, r1, r2, D6, M6⟩
    obtain ⟨r, rfl⟩ := Int.eq_ofNat_of_zero_le r1
    have HST := Lib.hid (show HcRel w5 w.heap.size v L (.slice none 0 0) r w6 from ⟨[], j5, OwnE.nil _ _ _, by simp; omega, rfl, D6, M6⟩)
    clear D6 M6 r2 r1 b0 b1
    have hg5 : gx < w5.heap.size := HB5.out.lt
    go_wp2_with fail
    go_loopw [9, 10] (fun u i wx => ∃ k : Nat, i = .int .i64 k ∧ HcRel w5 w.heap.size v L u k wx) (fun _ i _ => (intOf i).toNat)
    case atStart => exact ⟨r, rfl, HST.out⟩
    clear HST
    case round =>
      obtain ⟨k, rfl, A, jj, hO, hlen, hall, hD, hM⟩ := hrel
      obtain ⟨au, cu, rfl⟩ := (hO.rd cndOk).len
      have HO := Lib.hid hO
      have HD := Lib.hid hD
      have HM := Lib.hid hM
      have HA := Lib.hid hall
      clear hO hD hM hall
      by_cases hk : 0 < k
      · have d1 : decide ((k : Int) > 0) = true := decide_eq_true (by omega)
        have i0 : (1 : Int) ≤ (k : Int) := by omega
        have i1 : (k : Int) ≤ 1000 := by omega
        obtain ⟨m, rfl⟩ : ∃ m, k = m + 1 := ⟨k - 1, by omega⟩
        go_wp2_with fail
        refine (entity_ok wr w.heap.size v L jj HD.out).mono ?_
        rintro e w7 ⟨x1, y1, j6, rfl, hx1, hy1, D7, M7⟩
        have HO7 := Lib.hid (HO.out.mods M7 (fun k hk hm => by simp at hm; subst hm; have := (HO.out.lt _ hk).1; omega))
        have HM7 := Lib.hid (HM.out.trans M7)
        have HD7 := Lib.hid D7
        clear D7 M7 HO HM HD
        go_wp2_with fail
        refine (next_ok w7 w.heap.size v L j6 HD7.out 4 (by omega) (by omega)).mono ?_
        rintro e w8 ⟨s, j7, rfl, s1, s2, D8, M8⟩
        have HO8 := Lib.hid (HO7.out.mods M8 (fun k hk hm => by simp at hm; subst hm; have := (HO7.out.lt _ hk).1; omega))
        have HM8 := Lib.hid (HM7.out.trans M8)
        have hz8 : w5.heap.size ≤ w8.heap.size := HM8.out.size
        obtain ⟨C, hC⟩ : ∃ C : Cnd, C = ⟨⟨⟨x1, hx1⟩, ⟨y1, hy1⟩⟩, s⟩ := ⟨_, rfl⟩
        have HSC := Lib.hid (show (A ++ [C]).all sevOk = true from by rw [all_more _ _ HA.out, sevOk_iff, hC]; exact ⟨s1, by show s ≤ 3; omega⟩)
        have MA := (Mods.refl (S := []) (w := w8)).alloc (.cells #[.int .u8 (x1 : Int), .int .u8 (y1 : Int), .int .i64 s] 83)
        have HP := Lib.hid (show OwnE cndE (w8.alloc (.cells #[.int .u8 (x1 : Int), .int .u8 (y1 : Int), .int .i64 s] 83)) w5.heap.size _ A ∧ RdE cndE (w8.alloc (.cells #[.int .u8 (x1 : Int), .int .u8 (y1 : Int), .int .i64 s] 83)) (.slice (some ⟨w8.heap.size, 0, none⟩) 1 1) [C] ∧ Mods [w.heap.size] w5 (w8.alloc (.cells #[.int .u8 (x1 : Int), .int .u8 (y1 : Int), .int .i64 s] 83)) ∧ IsDice (w8.alloc (.cells #[.int .u8 (x1 : Int), .int .u8 (y1 : Int), .int .i64 s] 83)) w.heap.size v L j7 ∧ w5.heap.size ≤ (w8.alloc (.cells #[.int .u8 (x1 : Int), .int .u8 (y1 : Int), .int .i64 s] 83)).heap.size from ⟨HO8.out.mods0 MA, RdE.one (a := C) (heap_alloc_new w8 _) (by rw [hC]; rfl), HM8.out.comp0 MA, D8.mods0 MA, by rw [World.size_alloc]; omega⟩)
        have HVB := Lib.hid D8.old
        clear MA hC D8 M8 HO7 HM7 HD7
        go_wp2_with (at_builtin; refine wpList_appE cndOk (by rfl) (.tmp 46) (.tmp 52) rfl (by rfl) HP.out.1 (by rfl) HP.out.2.1 (by simp; omega) HP.out.2.2.2.2 ?_; intro VB WB OB MB; have HST := Lib.hid (show HcRel w5 w.heap.size v L VB m WB from ⟨A ++ [C], j7, OB, by simp; omega, HSC.out, HP.out.2.2.2.1.mods MB (fun hm => by have := HP.out.1.back hm; omega) (fun hl k hk hm => by have := HP.out.1.back hm; have := (HALL.out _ HF5.out).2.2.1.old hl k hk; omega), HP.out.2.2.1.comp MB (fun q hq => .inr (HP.out.1.back hq))⟩); clear OB MB)
        go_roundw
        case rel => exact ⟨m, by go_num, HST.out⟩
        case measure => simp [intOf]
      · have hk0 : k = 0 := by omega
        subst hk0
        generalize wr = wq at HO HD HM ⊢
        have HEND : Hid (∀ W, Mods [] wq W → RdE ascE W (.slice al nl cl) l ∧ RdE entE W (.slice aa na ca) ab ∧ RdE cndE W (.slice au A.length cu) A ∧ EntBox W gx x ∧ IsDice W w.heap.size v L jj ∧ Mods [] w W) := Lib.hid (fun W M => by
          obtain ⟨f1, f2, f3, f4⟩ := HALL.out _ HF5.out
          have hM := HM.out
          exact ⟨((f1.mods hM (fun k hk hm => by simp at hm; subst hm; have := (f1.lt _ hk).1; omega)).mods0 M).rd ascOk, ((f2.mods hM (fun k hk hm => by simp at hm; subst hm; have := (f2.lt _ hk).1; omega)).mods0 M).rd entOk, (HO.out.mods0 M).rd cndOk, (HB5.out.mods hM (by simp; omega)).mods0 M, HD.out.mods0 M, (f4.comp hM (fun q hq => by simp at hq; exact .inr (by omega))).trans M⟩)
        have HENB : Hid (∀ W, Mods [w.heap.size] wq W → RdE ascE W (.slice al nl cl) l ∧ RdE entE W (.slice aa na ca) ab ∧ RdE cndE W (.slice au A.length cu) A ∧ EntBox W gx x ∧ Mods [] w W) := Lib.hid (fun W M => by
          obtain ⟨f1, f2, f3, f4⟩ := HALL.out _ HF5.out
          have hM := HM.out
          have g1 := f1.mods hM (fun k hk hm => by simp at hm; subst hm; have := (f1.lt _ hk).1; omega)
          have g2 := f2.mods hM (fun k hk hm => by simp at hm; subst hm; have := (f2.lt _ hk).1; omega)
          exact ⟨(g1.mods M (fun k hk hm => by simp at hm; subst hm; have := (f1.lt _ hk).1; omega)).rd ascOk, (g2.mods M (fun k hk hm => by simp at hm; subst hm; have := (f2.lt _ hk).1; omega)).rd entOk, (HO.out.mods M (fun k hk hm => by simp at hm; subst hm; have := (HO.out.lt _ hk).1; omega)).rd cndOk, (HB5.out.mods hM (by simp; omega)).mods M (by simp; omega), (f4.comp hM (fun q hq => by simp at hq; exact .inr (by omega))).comp M (fun q hq => by simp at hq; exact .inr (by omega))⟩)
        obtain ⟨e1, e2, e3, e4, e5, e6⟩ := HEND.out wq Mods.refl
        have b0 := e4.c0
        have b1 := e4.c1
        have HH1 := Lib.hid (healthE_ok wq l _ e1 _ ab e2 _ A e3 x)
        clear e1 e2 e3 e4 e5 e6 HALL HF5 HB5 HO HM HD
        go_wp2_with fail
        refine HH1.out.mono ?_
        rintro en w7 ⟨rfl, M7⟩
        have HM7 := Lib.hid M7
        have HX7 := Lib.hid ((HEND.out _ M7).2.2.2.1)
        rw [hlthR_ok HCK.out HA.out]
        obtain ⟨a, ha⟩ : ∃ a, a = hlthF l ab x A := ⟨_, rfl⟩
        rw [← ha]
        have HAF := Lib.hid ha
        have ⟨a0, a3⟩ : 0 ≤ a ∧ a ≤ 3 := by rw [ha]; exact hlth_rng HA.out (by omega) (by omega)
        clear ha
        have b0 := HX7.out.c0
        have b1 := HX7.out.c1
        clear M7 HH1
        go_wp2_with fail
        refine (withinE_ok w7 l _ (HEND.out _ HM7.out).1 x).mono ?_
        rintro en w8 ⟨vi, rfl, hvi, M8⟩
        rw [wthR_ok HCK.out] at hvi
        rw [HCK.out]
        obtain ⟨IN, hIN⟩ : ∃ IN, IN = wthL l x := ⟨_, rfl⟩
        rw [← hIN] at hvi
        have HIN := Lib.hid hIN
        have HVI := Lib.hid hvi
        have HM8 := Lib.hid (HM7.out.trans M8)
        obtain ⟨ai, ci, rfl⟩ := hvi.len
        have hNI := hvi.bound
        obtain ⟨NI, hni⟩ : ∃ NI, NI = IN.length := ⟨_, rfl⟩
        have HNI := Lib.hid hni
        rw [← hni] at hNI HVI ⊢
        clear M8 hvi hIN hni b0 b1 HX7 HM7
        have b0 := (HEND.out _ HM8.out).2.2.2.1.c0
        have b1 := (HEND.out _ HM8.out).2.2.2.1.c1
        go_wp2_with fail
        refine (healthE_ok w8 l _ (HEND.out _ HM8.out).1 _ ab (HEND.out _ HM8.out).2.1 _ [] (RdE.nil cndE w8) x).mono ?_
        rintro en w9 ⟨rfl, M9⟩
        rw [hlthR_ok HCK.out rfl, hlthF_nil]
        have HM9 := Lib.hid (HM8.out.trans M9)
        have HV9 := Lib.hid (HVI.out.mods0 entOk M9)
        clear M9 b0 b1 HVI HM8
        have d2 : decide (a < 0) = false := decide_eq_false (by omega)
        have d3 : decide (a > 3) = false := decide_eq_false (by omega)
        go_wp2_with fail
        go_loopw [17] (fun i wx => ∃ k : Nat, k ≤ NI ∧ i = .int .i64 k ∧ Mods [] w9 wx) (fun i _ => NI - (intOf i).toNat)
        case atStart => exact ⟨0, Nat.zero_le _, rfl, Mods.refl⟩
        case round =>
          obtain ⟨k, hk, rfl, hM⟩ := hrel
          have i0 : (0 : Int) ≤ (k : Int) := by omega
          have HM := Lib.hid hM
          have HMA := Lib.hid (HM9.out.trans hM)
          by_cases hlt : k < NI
          · have i1 : (k : Int) < (NI : Int) := by omega
            have hR := HV9.out.mods0 entOk hM
            obtain ⟨bi, oi, ci', hv2, _, _, hc⟩ := hR.ent (by rw [← HNI.out]; omega)
            injection hv2 with hv3 hv5 hv4
            subst hv3 hv4
            clear hv5
            obtain ⟨y0, y1⟩ := hc k (by rw [← HNI.out]; exact hlt)
            have HZL := Lib.hid (show hlthF l ab (IN.getD k default) A ≤ a from by
              rw [HAF.out]
              refine hlth_mono (fun y hy => ?_) A 0 0 (Int.le_refl 0)
              refine wth_trans ?_ hy
              rw [← HIN.out]
              exact getD_mem (by rw [← HNI.out]; exact hlt))
            generalize IN.getD k default = z at y0 y1 HZL
            clear hc hR hM
            go_wp2_with fail
            refine (healthE_ok wr l _ (HEND.out _ HMA.out).1 _ ab (HEND.out _ HMA.out).2.1 _ A (HEND.out _ HMA.out).2.2.1 z).mono ?_
            rintro en wt ⟨rfl, Mt⟩
            rw [hlthR_ok HCK.out HA.out]
            have HMt := Lib.hid (HM.out.trans Mt)
            clear Mt y0 y1
            have hbz := HZL.out
            generalize hlthF l ab z A = bz at hbz
            have d4 : decide (bz > a) = false := decide_eq_false (by omega)
            clear hbz HZL
            go_wp2_with fail
            go_roundw
            case rel => exact ⟨k + 1, by omega, by go_num, HMt.out⟩
            case measure => simp [intOf]; omega
          · have i1 : ¬ (k : Int) < (NI : Int) := by omega
            have HVa := Lib.hid (HV9.out.mods0 entOk hM)
            clear hM HM HV9 HM9
            go_wp2_with fail
            clear i1 hlt hk i0 d2 d3
            generalize wr = wa at HMA HVa ⊢
            refine (entity_ok wa w.heap.size v L jj (HEND.out _ HMA.out).2.2.2.2.1).mono ?_
            rintro e wb ⟨x0, y0, j8, rfl, hx, hy, D8, M8⟩
            obtain ⟨y, hye⟩ : ∃ x : Ent, x = ⟨⟨x0, hx⟩, ⟨y0, hy⟩⟩ := ⟨_, rfl⟩
            have hx0 : (x0 : Int) = ((y.id.val : Nat) : Int) := by rw [hye]
            have hy0 : (y0 : Int) = ((y.inst.val : Nat) : Int) := by rw [hye]
            rw [hx0, hy0]
            clear hx0 hy0 hye hx hy
            have HE2 : Hid (∀ W, Mods [] wb W → RdE ascE W (.slice al nl cl) l ∧ RdE entE W (.slice aa na ca) ab ∧ RdE cndE W (.slice au A.length cu) A ∧ EntBox W gx x ∧ Mods [] w W ∧ RdE entE W (.slice ai NI ci) IN) := Lib.hid (fun W M => by
              have ⟨e1, e2, e3, e4, e5⟩ := HENB.out W (((show Mods [w.heap.size] wq wa from HMA.out.nil).trans M8).comp0 M)
              exact ⟨e1, e2, e3, e4, e5, (HVa.out.dice (HEND.out _ HMA.out).2.2.2.2.1 M8).mods0 entOk M⟩)
            clear D8 M8 HEND HENB HMA HVa
            go_wp2_with fail
            refine (mod_ok sv 4 _ hsv (by decide) (by decide)).mono ?_
            rintro e w' ⟨rfl, rfl⟩
            have c0 : 0 ≤ sv % 4 := Int.emod_nonneg sv (by decide)
            have c3 : sv % 4 ≤ 3 := by have := Int.emod_lt_of_pos sv (show (0 : Int) < 4 by decide); omega
            generalize sv % 4 = c at c0 c3 ⊢
            go_wp2_with (refine wpList_store_row (cs := #[.int .u8 ((y.id.val : Nat) : Int), .int .u8 ((y.inst.val : Nat) : Int), .int .i64 c]) rfl 83 (.tmp 20) (.tmp 125) rfl (heap_alloc_new wb _) (by rfl) (by rfl) (by rfl) Try.sizeCnd (Cnd.one ⟨y, c⟩) ?_; intro w11 R11 M11; have HF11 := Lib.hid (freshA M11); have HC11 := Lib.hid R11; have b0 := (cell_blk R11 0).trans (show _ = some (Value.int .u8 ((y.id.val : Nat) : Int)) from rfl); have b1 := (cell_blk R11 1).trans (show _ = some (Value.int .u8 ((y.inst.val : Nat) : Int)) from rfl); clear R11 M11)
            have HC11 : Hid (w11.heap[wb.heap.size]? = some (.cells #[.int .u8 ((y.id.val : Nat) : Int), .int .u8 ((y.inst.val : Nat) : Int), .int .i64 c] 83 (0, 0))) := HC11
            have hgb : gx < wb.heap.size := (HE2.out _ Mods.refl).2.2.2.1.lt
            have hgc : wb.heap.size < w11.heap.size := lt_of_block HC11.out
            generalize hgg : wb.heap.size = gc at HC11 hgb hgc b0 b1 ⊢
            have HGC := Lib.hid (Nat.le_of_eq hgg)
            clear hgg
            refine (presentE_ok w11 l _ (HE2.out _ HF11.out).1 _ ab (HE2.out _ HF11.out).2.1 y).mono ?_
            rintro en w12 ⟨rfl, M12⟩
            rw [presR_ok HCK.out, HCK.out]
            obtain ⟨p, hp⟩ : ∃ p, p = presB l ab y := ⟨_, rfl⟩
            rw [← hp]
            have HP := Lib.hid hp
            have HF12 := Lib.hid (HF11.out.trans M12)
            have HC12 := Lib.hid (M12.heap HC11.out (by simp))
            have hgc : gc < w12.heap.size := lt_of_block HC12.out
            clear hp M12 b0 b1 HF11 HC11
            have HLW := Lib.hid (show hlthR l ab (A ++ [(⟨y, c⟩ : Cnd)]) x = (hlthF l ab x (A ++ [⟨y, c⟩]), 0) from hlthR_ok HCK.out (show (A ++ [(⟨y, c⟩ : Cnd)]).all sevOk = true by rw [all_more _ _ HA.out, sevOk_iff]; exact ⟨c0, c3⟩) ab x)
            have HBW : Hid (hlthF l ab x (A ++ [⟨y, c⟩]) = if (p && decide (y ∈ IN)) = true then max a c else a) := Lib.hid (by rw [hlthF_more l ab x A ⟨y, c⟩, HP.out, HIN.out, HAF.out])
            generalize hlthF l ab x (A ++ [⟨y, c⟩]) = b at HBW HLW
            go_wp2_with fail
            refine heldStart (S := fun W => Mods [] w12 W) 14 rfl (by kernel_rfl) Mods.refl.drew (fun hHeld => ?_)
            refine takeD (i := 0) (d := 135) (v := ?_) rfl rfl (by kernel_rfl) (by kernel_rfl) (by kernel_rfl) (fun _ _ _ h => h) (Or.inl ⟨by rfl, ?_⟩) hHeld ?_
            rotate_left 1
            · (intro w hSw; (try dsimp only at hSw); go_simp; (try with_reducible rfl))
            simp only [List.setIfInBounds_toArray, List.set_cons_zero, List.set_cons_succ]
            refine takeD (i := 1) (d := 136) (v := ?_) rfl rfl (by kernel_rfl) (by kernel_rfl) (by kernel_rfl) (fun _ _ _ h => h) (Or.inl ⟨by rfl, ?_⟩) hHeld ?_
            rotate_left 1
            · (intro w hSw; (try dsimp only at hSw); go_simp; (try with_reducible rfl))
            simp only [List.setIfInBounds_toArray, List.set_cons_zero, List.set_cons_succ]
            refine takeD (i := 2) (d := 137) (v := ?_) rfl rfl (by kernel_rfl) (by kernel_rfl) (by kernel_rfl) (fun _ _ _ h => h) (Or.inl ⟨by rfl, ?_⟩) hHeld ?_
            rotate_left 1
            · (intro w hSw; (try dsimp only at hSw); go_simp; (try with_reducible rfl))
            simp only [List.setIfInBounds_toArray, List.set_cons_zero, List.set_cons_succ]
            refine takeD (i := 4) (d := 139) (v := .agg #[.int .u8 ((y.id.val : Nat) : Int), .int .u8 ((y.inst.val : Nat) : Int), .int .i64 c]) rfl rfl (by kernel_rfl) (by kernel_rfl) (by kernel_rfl) (fun _ _ _ h => h) (yieldsIf_load_row rfl 83 (.tmp 20) rfl gc rfl 83 #[.int .u8 ((y.id.val : Nat) : Int), .int .u8 ((y.inst.val : Nat) : Int), .int .i64 c] (0, 0) _ (fun _ h => h.heap HC12.out (by simp)) Try.underlying83 rfl Try.sizeCnd) hHeld ?_
            simp only [List.setIfInBounds_toArray, List.set_cons_zero, List.set_cons_succ]
            refine takeD (i := 7) (d := 142) (v := .agg #[.int .u8 ((x.id.val : Nat) : Int), .int .u8 ((x.inst.val : Nat) : Int)]) rfl rfl (by kernel_rfl) (by kernel_rfl) (by kernel_rfl) (fun _ _ _ h => h) (yieldsIf_load_row rfl 23 (.tmp 8) rfl gx rfl 23 #[.int .u8 ((x.id.val : Nat) : Int), .int .u8 ((x.inst.val : Nat) : Int)] (0, 0) _ (fun _ h=>(HE2.out _ (HF12.out.trans h)).2.2.2.1) Try.underlying23 rfl Try.sizeEnt) hHeld ?_
            simp only [List.setIfInBounds_toArray, List.set_cons_zero, List.set_cons_succ]
            refine appLitE (E := cndE) cndOk (iC := 3) (iA := 5) (dC := 138) (dA := 140) (T := 83) (z := #[.int .u8 ((y.id.val : Nat) : Int), .int .u8 ((y.inst.val : Nat) : Int), .int .i64 c]) (vA := fun g => .slice (some ⟨g, 0, none⟩) 1 1) (X := A) rfl rfl rfl rfl rfl rfl (by decide) (by decide) rfl (by rfl) (fun _ => by rfl) (by rfl) (fun _ => by rfl) (HE2.out _ HF12.out.drew).2.2.1 (by omega) (fun _ => ?_) (fun _ _ => ?_) (by kernel_rfl) (by kernel_rfl) (by kernel_rfl) (fun W M => (show Mods [] w12 w12.drew from Mods.refl.drew).trans M) (fun u g W7 O7 M7 hg7 => ?_)
            · first | rfl | (go_simp; done) | (go_simp; rfl)
            · first | rfl | (go_simp; done) | (go_simp; rfl)
            simp only [List.setIfInBounds_toArray, List.set_cons_zero, List.set_cons_succ]
            have HM7 := Lib.hid (hHeld.trans M7)
            have HO7 := Lib.hid O7
            have hz67 : w12.heap.size ≤ W7.heap.size := M7.size
            clear O7 M7 hHeld
            replace hHeld := HM7.out
            refine wpAnyH_ready (rs := [6]) (by kernel_rfl) (by simp) ?_
            refine AllReadyH.cons rfl (fun K hK => ?_) AllReadyH.nil
            refine step_appE cndOk (by rfl) 141 rfl (.tmp 138) (.tmp 140) rfl (by rfl) HO7.out (by rfl) (RdE.one (a := (⟨y, c⟩ : Cnd)) hg7 rfl) (by simp; omega) hz67 (fun VB WB OB MB => ?_)
            have HMB := Lib.hid (HM7.out.comp MB (fun k hk => .inr (show w12.heap.size ≤ k from HO7.out.back hk)))
            have HOB := Lib.hid OB
            refine hK.out _ _ HMB.out (fun hHeld => ?_)
            clear hK K OB MB
            simp only [List.setIfInBounds_toArray, List.set_cons_zero, List.set_cons_succ]
            have HFB := Lib.hid (HF12.out.trans HMB.out)
            obtain ⟨ab2, cb2, rfl⟩ := (HOB.out.rd cndOk).len
            have HHC := Lib.hid (healthE_ok WB l _ (HE2.out _ HFB.out).1 _ ab (HE2.out _ HFB.out).2.1 _ (A ++ [⟨y, c⟩]) (HOB.out.rd cndOk) x)
            unfold HealthE at HHC
            rw [HLW.out, show (A ++ [(⟨y, c⟩ : Cnd)]).length = A.length + 1 by simp] at HHC
            dsimp only at HHC
            clear HOB HFB HO7 HM7 hz67 hg7
            refine wpAnyH_ready (rs := [8]) (by kernel_rfl) (by simp) ?_
            refine AllReadyH.cons rfl (fun K hK => ?_) AllReadyH.nil
            go_simp
            go_wp2_with (go_at_call 41; refine HHC.out.mono ?_; rintro e WH ⟨rfl, MH⟩)
            refine hK.out _ _ ?_ (fun hHeld => ?_)
            · exact hHeld.trans MH
            clear hK K
            refine takeD (i := 9) (d := 134) (v := ?_) rfl rfl (by kernel_rfl) (by kernel_rfl) (by kernel_rfl) (fun _ _ _ h => h) (Or.inl ⟨by rfl, ?_⟩) hHeld ?_
            rotate_left 1
            · (intro w hSw; (try dsimp only at hSw); go_simp; (try with_reducible rfl))
            simp only [List.setIfInBounds_toArray, List.set_cons_zero, List.set_cons_succ]
            refine takeD (i := 10) (d := 144) (v := ?_) rfl rfl (by kernel_rfl) (by kernel_rfl) (by kernel_rfl) (fun _ _ _ h => h) (Or.inl ⟨by rfl, ?_⟩) hHeld ?_
            rotate_left 1
            · (intro w hSw; (try dsimp only at hSw); go_simp; (try with_reducible rfl))
            simp only [List.setIfInBounds_toArray, List.set_cons_zero, List.set_cons_succ]
            refine takeD (i := 11) (d := 145) (v := ?_) rfl rfl (by kernel_rfl) (by kernel_rfl) (by kernel_rfl) (fun _ _ _ h => h) (Or.inl ⟨by rfl, ?_⟩) hHeld ?_
            rotate_left 1
            · (intro w hSw; (try dsimp only at hSw); go_simp; (try with_reducible rfl))
            simp only [List.setIfInBounds_toArray, List.set_cons_zero, List.set_cons_succ]
            refine takeD (i := 12) (d := 23) (v := ?_) rfl rfl (by kernel_rfl) (by kernel_rfl) (by kernel_rfl) (fun _ _ _ h => h) (Or.inl ⟨by rfl, ?_⟩) hHeld ?_
            rotate_left 1
            · (intro w hSw; (try dsimp only at hSw); go_simp; (try with_reducible rfl))
            simp only [List.setIfInBounds_toArray, List.set_cons_zero, List.set_cons_succ]
            refine takeD (i := 13) (d := 24) (v := ?_) rfl rfl (by kernel_rfl) (by kernel_rfl) (by kernel_rfl) (fun _ _ _ h => h) (Or.inl ⟨by rfl, ?_⟩) hHeld ?_
            rotate_left 1
            · (intro w hSw; (try dsimp only at hSw); go_simp; (try with_reducible rfl))
            simp only [List.setIfInBounds_toArray, List.set_cons_zero, List.set_cons_succ]
            refine wpAnyH_done (by kernel_rfl) ?_ _
            have HMH := Lib.hid (HMB.out.trans MH)
            have HCH := Lib.hid (HMH.out.heap HC12.out (by simp))
            clear MH hHeld HHC HMB HLW
            obtain ⟨q, hq⟩ : ∃ q, q = decide (y ∈ IN) := ⟨_, rfl⟩
            rw [← hq] at HBW
            have HQ := Lib.hid hq
            clear hq
            go_upto_region 26 with (fail)
            go_cut [153] (fun u wx => u = .bool (p && q) ∧ Mods [] WH wx)
            case first =>
              have b0 := (cell_blk HCH.out 0).trans (show _ = some (Value.int .u8 ((y.id.val : Nat) : Int)) from rfl)
              have b1 := (cell_blk HCH.out 1).trans (show _ = some (Value.int .u8 ((y.inst.val : Nat) : Int)) from rfl)
              cases p with
              | false =>
                go_wp2_with fail
                go_meet
                exact ⟨rfl, Mods.refl⟩
              | true =>
                have HHS := Lib.hid (lawHas_ok WH IN y _ (HE2.out _ (HF12.out.trans HMH.out)).2.2.2.2.2)
                rw [← HQ.out] at HHS
                go_wp2_with fail
                refine HHS.out.mono ?_
                rintro en WI ⟨rfl, MI⟩
                go_wp2_with fail
                go_meet
                exact ⟨by simp, MI⟩
            case rest =>
              obtain ⟨rfl, hM⟩ := hcut
              have HMW := Lib.hid (HMH.out.trans hM)
              have HCW := Lib.hid (hM.heap HCH.out (by simp))
              have c2 := (cell_blk HCW.out 2).trans (show _ = some (Value.int .i64 c) from rfl)
              clear hM HMH HCH
              generalize (p && q) = pq at HBW ⊢
              generalize wc = wd at HMW HCW c2 ⊢
              go_upto_if 153 with (fail)
              go_cut [25] (fun u wx => u = .int .i64 b ∧ Mods [] wd wx)
              case first =>
                cases pq with
                | false =>
                  go_wp2_with fail
                  go_meet
                  exact ⟨by rw [HBW.out]; rfl, Mods.refl⟩
                | true =>
                  go_wp2_with fail
                  go_meet
                  refine ⟨?_, Mods.refl⟩
                  rw [HBW.out, if_pos trivial]
              case rest =>
                obtain ⟨rfl, hM⟩ := hcut
                have HMX := Lib.hid (HMW.out.trans hM)
                have RX := hM.heap HCW.out (by simp)
                clear hM HCW HMW c2
                have c2 := (cell_blk RX 2).trans (show _ = some (Value.int .i64 c) from rfl)
                have ff := fun i => froz_blk RX i
                have HFX := Lib.hid (HF12.out.trans HMX.out)
                obtain ⟨m, hm⟩ : ∃ m, m = sv % 9 := ⟨_, rfl⟩
                have m0 : 0 ≤ m := by rw [hm]; exact Int.emod_nonneg sv (by decide)
                have m8 : m ≤ 8 := by rw [hm]; have := Int.emod_lt_of_pos sv (show (0 : Int) < 9 by decide); omega
                have HMOD := Lib.hid (mod_ok sv 9 wc hsv (by decide) (by decide))
                rw [← hm] at HMOD
                clear hm
                have hws : IntKind.i64.wrap (4 + m) = 4 + m := IntWalk.i64_in _ (by omega)
                have HSET : Hid ((wc.setCell ⟨gc, 2, none⟩ (.int .i64 (4 + m))).heap[gc]? = some (.cells #[.int .u8 ((y.id.val : Nat) : Int), .int .u8 ((y.inst.val : Nat) : Int), .int .i64 (4 + m)] 83 (0, 0)) ∧ Mods [gc] wc (wc.setCell ⟨gc, 2, none⟩ (.int .i64 (4 + m)))) := Lib.hid ⟨by rw [heap_setCell RX]; rfl, Mods.refl.setCell (.inl (by simp)) _⟩
                have HF28 := Lib.hid (HFX.out.comp HSET.out.2 (fun q hq => .inr (by have := HGC.out; simp at hq; omega)))
                have HC28 := Lib.hid HSET.out.1
                clear RX HMX HFX
                go_wp2_with fail
                refine HMOD.out.mono ?_
                rintro e w' ⟨rfl, rfl⟩
                go_wp2_with fail
                clear HMOD HF12 HC12 c2 ff
                generalize wc.setCell ⟨gc, 2, none⟩ (.int .i64 (4 + m)) = w28 at HSET HF28 HC28 ⊢
                clear HSET
                have HLW := Lib.hid (show hlthR l ab (A ++ [(⟨y, 4 + m⟩ : Cnd)]) x = (0, 2) from hlthR_bad HCK.out (show (A ++ [(⟨y, 4 + m⟩ : Cnd)]).all sevOk = false by rw [all_more _ _ HA.out]; cases hs : sevOk ⟨y, 4 + m⟩ with | false => rfl | true => exact absurd (sevOk_iff _ |>.1 hs).2 (by show ¬ (4 + m ≤ 3); omega)) ab x)
                refine heldStart (S := fun W => Mods [] w28 W) 14 rfl (by kernel_rfl) Mods.refl.drew (fun hHeld => ?_)
                refine takeD (i := 0) (d := 163) (v := ?_) rfl rfl (by kernel_rfl) (by kernel_rfl) (by kernel_rfl) (fun _ _ _ h => h) (Or.inl ⟨by rfl, ?_⟩) hHeld ?_
                rotate_left 1
                · (intro w hSw; (try dsimp only at hSw); go_simp; (try with_reducible rfl))
                simp only [List.setIfInBounds_toArray, List.set_cons_zero, List.set_cons_succ]
                refine takeD (i := 1) (d := 164) (v := ?_) rfl rfl (by kernel_rfl) (by kernel_rfl) (by kernel_rfl) (fun _ _ _ h => h) (Or.inl ⟨by rfl, ?_⟩) hHeld ?_
                rotate_left 1
                · (intro w hSw; (try dsimp only at hSw); go_simp; (try with_reducible rfl))
                simp only [List.setIfInBounds_toArray, List.set_cons_zero, List.set_cons_succ]
                refine takeD (i := 2) (d := 165) (v := ?_) rfl rfl (by kernel_rfl) (by kernel_rfl) (by kernel_rfl) (fun _ _ _ h => h) (Or.inl ⟨by rfl, ?_⟩) hHeld ?_
                rotate_left 1
                · (intro w hSw; (try dsimp only at hSw); go_simp; (try with_reducible rfl))
                simp only [List.setIfInBounds_toArray, List.set_cons_zero, List.set_cons_succ]
                refine takeD (i := 4) (d := 167) (v := .agg #[.int .u8 ((y.id.val : Nat) : Int), .int .u8 ((y.inst.val : Nat) : Int), .int .i64 (4 + m)]) rfl rfl (by kernel_rfl) (by kernel_rfl) (by kernel_rfl) (fun _ _ _ h => h) (yieldsIf_load_row rfl 83 (.tmp 20) rfl gc rfl 83 #[.int .u8 ((y.id.val : Nat) : Int), .int .u8 ((y.inst.val : Nat) : Int), .int .i64 (4 + m)] (0, 0) _ (fun _ h => h.heap HC28.out (by simp)) Try.underlying83 rfl Try.sizeCnd) hHeld ?_
                simp only [List.setIfInBounds_toArray, List.set_cons_zero, List.set_cons_succ]
                refine takeD (i := 7) (d := 170) (v := .agg #[.int .u8 ((x.id.val : Nat) : Int), .int .u8 ((x.inst.val : Nat) : Int)]) rfl rfl (by kernel_rfl) (by kernel_rfl) (by kernel_rfl) (fun _ _ _ h => h) (yieldsIf_load_row rfl 23 (.tmp 8) rfl gx rfl 23 #[.int .u8 ((x.id.val : Nat) : Int), .int .u8 ((x.inst.val : Nat) : Int)] (0, 0) _ (fun _ h=>(HE2.out _ (HF28.out.trans h)).2.2.2.1) Try.underlying23 rfl Try.sizeEnt) hHeld ?_
                simp only [List.setIfInBounds_toArray, List.set_cons_zero, List.set_cons_succ]
                refine appLitE (E := cndE) cndOk (iC := 3) (iA := 5) (dC := 166) (dA := 168) (T := 83) (z := #[.int .u8 ((y.id.val : Nat) : Int), .int .u8 ((y.inst.val : Nat) : Int), .int .i64 (4 + m)]) (vA := fun g => .slice (some ⟨g, 0, none⟩) 1 1) (X := A) rfl rfl rfl rfl rfl rfl (by decide) (by decide) rfl (by rfl) (fun _ => by rfl) (by rfl) (fun _ => by rfl) (HE2.out _ HF28.out.drew).2.2.1 (by omega) (fun _ => ?_) (fun _ _ => ?_) (by kernel_rfl) (by kernel_rfl) (by kernel_rfl) (fun W M => (show Mods [] w28 w28.drew from Mods.refl.drew).trans M) (fun u g W7 O7 M7 hg7 => ?_)
                · first | rfl | (go_simp; done) | (go_simp; rfl)
                · first | rfl | (go_simp; done) | (go_simp; rfl)
                simp only [List.setIfInBounds_toArray, List.set_cons_zero, List.set_cons_succ]
                have HM7 := Lib.hid (hHeld.trans M7)
                have HO7 := Lib.hid O7
                have hz67 : w28.heap.size ≤ W7.heap.size := M7.size
                clear O7 M7 hHeld
                replace hHeld := HM7.out
                refine wpAnyH_ready (rs := [6]) (by kernel_rfl) (by simp) ?_
                refine AllReadyH.cons rfl (fun K hK => ?_) AllReadyH.nil
                refine step_appE cndOk (by rfl) 169 rfl (.tmp 166) (.tmp 168) rfl (by rfl) HO7.out (by rfl) (RdE.one (a := (⟨y, (4 + m)⟩ : Cnd)) hg7 rfl) (by simp; omega) hz67 (fun VB WB OB MB => ?_)
                have HMB := Lib.hid (HM7.out.comp MB (fun k hk => .inr (show w28.heap.size ≤ k from HO7.out.back hk)))
                have HOB := Lib.hid OB
                refine hK.out _ _ HMB.out (fun hHeld => ?_)
                clear hK K OB MB
                simp only [List.setIfInBounds_toArray, List.set_cons_zero, List.set_cons_succ]
                have HFB := Lib.hid (HF28.out.trans HMB.out)
                obtain ⟨ab2, cb2, rfl⟩ := (HOB.out.rd cndOk).len
                have HHC := Lib.hid (healthE_ok WB l _ (HE2.out _ HFB.out).1 _ ab (HE2.out _ HFB.out).2.1 _ (A ++ [⟨y, (4 + m)⟩]) (HOB.out.rd cndOk) x)
                unfold HealthE at HHC
                rw [HLW.out, show (A ++ [(⟨y, (4 + m)⟩ : Cnd)]).length = A.length + 1 by simp] at HHC
                dsimp only at HHC
                clear HOB HFB HO7 HM7 hz67 hg7
                refine wpAnyH_ready (rs := [8]) (by kernel_rfl) (by simp) ?_
                refine AllReadyH.cons rfl (fun K hK => ?_) AllReadyH.nil
                go_simp
                go_wp2_with (go_at_call 41; refine HHC.out.mono ?_; rintro e WH ⟨rfl, MH⟩)
                refine hK.out _ _ ?_ (fun hHeld => ?_)
                · exact hHeld.trans MH
                clear hK K
                refine takeD (i := 9) (d := 162) (v := ?_) rfl rfl (by kernel_rfl) (by kernel_rfl) (by kernel_rfl) (fun _ _ _ h => h) (Or.inl ⟨by rfl, ?_⟩) hHeld ?_
                rotate_left 1
                · (intro w hSw; (try dsimp only at hSw); go_simp; (try with_reducible rfl))
                simp only [List.setIfInBounds_toArray, List.set_cons_zero, List.set_cons_succ]
                refine takeD (i := 10) (d := 172) (v := ?_) rfl rfl (by kernel_rfl) (by kernel_rfl) (by kernel_rfl) (fun _ _ _ h => h) (Or.inl ⟨by rfl, ?_⟩) hHeld ?_
                rotate_left 1
                · (intro w hSw; (try dsimp only at hSw); go_simp; (try with_reducible rfl))
                simp only [List.setIfInBounds_toArray, List.set_cons_zero, List.set_cons_succ]
                refine takeD (i := 11) (d := 173) (v := ?_) rfl rfl (by kernel_rfl) (by kernel_rfl) (by kernel_rfl) (fun _ _ _ h => h) (Or.inl ⟨by rfl, ?_⟩) hHeld ?_
                rotate_left 1
                · (intro w hSw; (try dsimp only at hSw); go_simp; (try with_reducible rfl))
                simp only [List.setIfInBounds_toArray, List.set_cons_zero, List.set_cons_succ]
                refine takeD (i := 12) (d := 26) (v := ?_) rfl rfl (by kernel_rfl) (by kernel_rfl) (by kernel_rfl) (fun _ _ _ h => h) (Or.inl ⟨by rfl, ?_⟩) hHeld ?_
                rotate_left 1
                · (intro w hSw; (try dsimp only at hSw); go_simp; (try with_reducible rfl))
                simp only [List.setIfInBounds_toArray, List.set_cons_zero, List.set_cons_succ]
                refine takeD (i := 13) (d := 27) (v := ?_) rfl rfl (by kernel_rfl) (by kernel_rfl) (by kernel_rfl) (fun _ _ _ h => h) (Or.inl ⟨by rfl, ?_⟩) hHeld ?_
                rotate_left 1
                · (intro w hSw; (try dsimp only at hSw); go_simp; (try with_reducible rfl))
                simp only [List.setIfInBounds_toArray, List.set_cons_zero, List.set_cons_succ]
                refine wpAnyH_done (by kernel_rfl) ?_ _
                have HMH := Lib.hid (HMB.out.trans MH)
                have HCH := Lib.hid (HMH.out.heap HC28.out (by simp))
                clear MH hHeld HHC HMB HLW
                go_wp2_with fail
                refine (awake15_ok _).mono ?_
                rintro en wz ⟨rfl, Mz⟩
                have HZ := Lib.hid ((HE2.out _ (HF28.out.trans (HMH.out.trans Mz))).2.2.2.2.1)
                clear Mz
                go_wp2_with fail
                go_ret
                exact ⟨rfl, HZ.out⟩
  · have HLL := Lib.hid (decide_eq_false hl)
    go_enter Try.func8, Try.ntmps8
    go_wp2_with fail
    refine HL.out.mono ?_
    rw [HLL.out]
    rintro e w' ⟨rfl, rfl⟩
    go_wp2_with fail
    refine (awake15_ok _).mono ?_
    rintro e w1 ⟨rfl, M1⟩
    go_wp2
    go_ret
    exact ⟨rfl, M1⟩
end Go.Proofs.Ytijjkonephjodaa
