/- EntityRelations: the walk. -/
import Derived.Test.YtijjkonephjodaaEntU
import Derived.Deep.DeepCutAuto
namespace Go.Proofs.Ytijjkonephjodaa
open Go.RowKit

theorem RdE.two {w : World} {g : Nat} {a b : Ent} (h : RdE entE w (.slice (some ⟨g, 0, none⟩) 2 2) [a, b]) (j : Nat) (hj : j < 2) :
    w.cell? ⟨g, j * 2, none⟩ = some (.int .u8 ((([a, b].getD j default).id.val : Nat) : Int)) ∧ w.cell? ⟨g, j * 2 + 1, none⟩ = some (.int .u8 ((([a, b].getD j default).inst.val : Nat) : Int)) := by
  obtain ⟨bb, off, cap, hv, _, _, hc⟩ := h.ent (by simp)
  injection hv with h1 h2 h3
  injection h1 with h1
  injection h1 with h4 h5
  subst h4 h5
  have h6 := hc j hj
  rw [Nat.zero_add] at h6
  exact h6

set_option maxRecDepth 100000 in
set_option maxHeartbeats 16000000 in
theorem entityRelations_walk (w : World) (vl : Value) (l : List Asc) (hvl : RdE ascE w vl l) (v : Value) (L : List Int) (hv : Rd w v (i64s L)) (hb : ∀ i, -9223372036854775808 ≤ L.getD i 0 ∧ L.getD i 0 ≤ 9223372036854775807) (ea : Ent) :
    Calls Try.prog 6 #[vl, v, .agg ea.cells.toArray] w fun e w' => e = .returned (.bool true) ∧ Mods [] w w' := by
  have MA := (Mods.refl (S := []) (w := w)).alloc (.cells ea.cells.toArray 23)
  have BA := EntBox.new w ea
  have HM0 := Lib.hid MA
  have HL := Lib.hid (light_ok _ v L (hv.mods0 MA))
  have HV := Lib.hid (hv.mods0 MA)
  have HB := Lib.hid hb
  have HVL := Lib.hid (hvl.mods0 ascOk MA)
  have hcap := hvl.bound
  obtain ⟨al0, cl0, rfl⟩ := hvl.len
  clear hv hb MA hvl
  by_cases h60 : l.length ≤ 60
  · have d60 : decide ((l.length : Int) > 60) = false := decide_eq_false (by omega)
    by_cases hl : L.length ≤ 600
    · have HLL := Lib.hid (decide_eq_true hl)
      go_enter Try.func6, Try.ntmps6
      go_wp2_with fail
      generalize (w.alloc (.cells ea.cells.toArray 23)) = w0 at BA HM0 HL HV HVL ⊢
      refine HL.out.mono ?_
      rw [HLL.out]
      rintro e w' ⟨rfl, rfl⟩
      go_wp2_with fail
      refine (roll_ok w0 v L HV.out (by omega) HB.out).mono ?_
      rintro e w1 ⟨rfl, D1, M1, z1⟩
      go_wp2_with fail
      refine (ascs_ok w1 w0.heap.size v L 0 D1 9 (by omega)).mono ?_
      rintro e w2 ⟨vm, m, j2, rfl, Om, hm9, -, D2, M2⟩
      have HM2 := Lib.hid (show Mods [] w0 w2 from M1.comp M2 (fun q hq => by simp at hq; subst hq; exact .inr (Nat.le_refl _)))
      have HOm := Lib.hid Om
      have hz2 := M2.size
      have HD2 := Lib.hid D2
      have HM9 := Lib.hid hm9
      obtain ⟨am, cm, rfl⟩ := (Om.rd ascOk).len
      clear D1 M1 M2 Om D2 hm9
      go_wp2_with fail
      refine (entities_ok w2 w0.heap.size v L j2 HD2.out 3 (by omega)).mono ?_
      rintro e w3 ⟨va, ab, j3, rfl, Oa, -, D3, M3⟩
      have HM3 := Lib.hid (HM2.out.comp M3 (fun q hq => by simp at hq; subst hq; exact .inr (Nat.le_refl _)))
      have HOa := Lib.hid Oa
      have HOm3 := Lib.hid (HOm.out.mods M3 (fun k hk hm => by simp at hm; subst hm; have := (HOm.out.lt _ hk).1; omega))
      have hz3 := M3.size
      have HD3 := Lib.hid D3
      clear M3 Oa D3 HOm HD2
      go_wp2_with fail
      refine (conditions_ok w3 w0.heap.size v L j3 HD3.out).mono ?_
      rintro e w4 ⟨vc, own, j4, rfl, Oc, -, D4, M4⟩
      have HM4 := Lib.hid (HM3.out.comp M4 (fun q hq => by simp at hq; subst hq; exact .inr (Nat.le_refl _)))
      have HOc := Lib.hid Oc
      have HOm4 := Lib.hid (HOm3.out.mods M4 (fun k hk hm => by simp at hm; subst hm; have := (HOm3.out.lt _ hk).1; omega))
      have HOa4 := Lib.hid (HOa.out.mods M4 (fun k hk hm => by simp at hm; subst hm; have := (HOa.out.lt _ hk).1; omega))
      have hz4 := M4.size
      have HD4 := Lib.hid D4
      clear M4 Oc D4 HOm3 HOa HD3
      go_wp2_with fail
      refine (entity_ok w4 w0.heap.size v L j4 HD4.out).mono ?_
      rintro e w5 ⟨x0, y0, j5, rfl, hx, hy, D5, M5⟩
      obtain ⟨y, hye⟩ : ∃ x : Ent, x = ⟨⟨x0, hx⟩, ⟨y0, hy⟩⟩ := ⟨_, rfl⟩
      have hx0 : (x0 : Int) = ((y.id.val : Nat) : Int) := by rw [hye]
      have hy0 : (y0 : Int) = ((y.inst.val : Nat) : Int) := by rw [hye]
      rw [hx0, hy0]
      clear hx0 hy0 hye hx hy
      have HM5 := Lib.hid (HM4.out.comp M5 (fun q hq => by simp at hq; subst hq; exact .inr (Nat.le_refl _)))
      have HOm5 := Lib.hid (HOm4.out.mods M5 (fun k hk hm => by simp at hm; subst hm; have := (HOm4.out.lt _ hk).1; omega))
      have HOa5 := Lib.hid (HOa4.out.mods M5 (fun k hk hm => by simp at hm; subst hm; have := (HOa4.out.lt _ hk).1; omega))
      have HOc5 := Lib.hid (HOc.out.mods M5 (fun k hk hm => by simp at hm; subst hm; have := (HOc.out.lt _ hk).1; omega))
      have HD5 := Lib.hid D5
      have hz5 := M5.size
      clear M5 D5 HOm4 HOa4 HOc HD4 HM4 HM3 HM2
      have HY0 : Hid (EntBox (w5.alloc (.cells #[.int .u8 ((y.id.val : Nat) : Int), .int .u8 ((y.inst.val : Nat) : Int)] 23)) w5.heap.size y ∧ Mods [] w5 (w5.alloc (.cells #[.int .u8 ((y.id.val : Nat) : Int), .int .u8 ((y.inst.val : Nat) : Int)] 23))) := Lib.hid ⟨EntBox.new w5 y, Mods.refl.alloc _⟩
      have HLTS := Lib.hid (show (∀ k, (Value.slice am m.length cm).ownBlock = some k → k < w5.heap.size) ∧ (∀ k, va.ownBlock = some k → k < w5.heap.size) ∧ (∀ k, vc.ownBlock = some k → k < w5.heap.size) from ⟨fun k hk => (HOm5.out.lt k hk).2, fun k hk => (HOa5.out.lt k hk).2, fun k hk => (HOc5.out.lt k hk).2⟩)
      go_upto_region 6 with (fail)
      generalize w5.alloc (.cells #[.int .u8 ((y.id.val : Nat) : Int), .int .u8 ((y.inst.val : Nat) : Int)] 23) = w6 at HY0 ⊢
      have hgy : w0.heap.size < w5.heap.size := HD5.out.lt
      generalize w5.heap.size = gy at HY0 HLTS hgy hz5 ⊢
      have HM6 := Lib.hid (HM5.out.trans HY0.out.2)
      have HOm6 := Lib.hid (HOm5.out.mods0 HY0.out.2)
      have HOa6 := Lib.hid (HOa5.out.mods0 HY0.out.2)
      have HOc6 := Lib.hid (HOc5.out.mods0 HY0.out.2)
      have HD6 := Lib.hid (HD5.out.mods0 HY0.out.2)
      have hz6 : gy < w6.heap.size := HY0.out.1.lt
      clear HM5 HOm5 HOa5 HOc5 HD5
      go_wp2_with (at_builtin; refine wpList_appE ascOk (by rfl) _ (.tmp 48) rfl (v := .slice none 0 0) (by rfl) (OwnE.nil ascE w6 w6.heap.size) (by rfl) (HOm6.out.rd ascOk) (by have := HM9.out; simp; omega) (Nat.le_refl _) ?_; intro VA WA OA MA; have HOA := Lib.hid (show OwnE ascE WA w6.heap.size VA m from OA); have HMA := Lib.hid (show Mods [] w6 WA from MA); clear OA MA)
      refine (entity_ok WA w0.heap.size v L j5 (HD6.out.mods0 HMA.out)).mono ?_
      rintro e w7 ⟨x1, y1, j6, rfl, hx1, hy1, D7, M7⟩
      have HOA7 := Lib.hid (HOA.out.mods M7 (fun k hk hm => by simp at hm; subst hm; have := (HOA.out.lt _ hk).1; omega))
      have HM7 := Lib.hid ((show Mods [w0.heap.size] w6 WA from HMA.out.nil).trans M7)
      have HD7 := Lib.hid D7
      clear D7 M7
      go_wp2_with fail
      refine (entity_ok w7 w0.heap.size v L j6 HD7.out).mono ?_
      rintro e w8 ⟨x2, y2, j7, rfl, hx2, hy2, D8, M8⟩
      have HOA8 := Lib.hid (HOA7.out.mods M8 (fun k hk hm => by simp at hm; subst hm; have := (HOA7.out.lt _ hk).1; omega))
      have HM8 := Lib.hid (HM7.out.trans M8)
      have hz8 : w6.heap.size ≤ w8.heap.size := HM8.out.size
      obtain ⟨X, hX⟩ : ∃ X : Asc, X = ⟨⟨⟨x1, hx1⟩, ⟨y1, hy1⟩⟩, ⟨⟨x2, hx2⟩, ⟨y2, hy2⟩⟩⟩ := ⟨_, rfl⟩
      have MB := (Mods.refl (S := []) (w := w8)).alloc (.cells #[.int .u8 (x1 : Int), .int .u8 (y1 : Int), .int .u8 (x2 : Int), .int .u8 (y2 : Int)] 61)
      have HP := Lib.hid (show OwnE ascE (w8.alloc (.cells #[.int .u8 (x1 : Int), .int .u8 (y1 : Int), .int .u8 (x2 : Int), .int .u8 (y2 : Int)] 61)) w6.heap.size _ m ∧ RdE ascE (w8.alloc (.cells #[.int .u8 (x1 : Int), .int .u8 (y1 : Int), .int .u8 (x2 : Int), .int .u8 (y2 : Int)] 61)) (.slice (some ⟨w8.heap.size, 0, none⟩) 1 1) [X] ∧ Mods [w0.heap.size] w6 (w8.alloc (.cells #[.int .u8 (x1 : Int), .int .u8 (y1 : Int), .int .u8 (x2 : Int), .int .u8 (y2 : Int)] 61)) from ⟨HOA8.out.mods0 MB, RdE.one (a := X) (heap_alloc_new w8 _) (by rw [hX]; rfl), HM8.out.comp0 MB⟩)
      clear MB D8 M8 hX HOA HMA HOA7 HM7 HD7
      have HFIN : Hid (∀ W, Mods [w0.heap.size] w6 W → RdE ascE W (.slice am m.length cm) m ∧ RdE entE W va ab ∧ RdE cndE W vc own ∧ RdE ascE W (.slice al0 l.length cl0) l ∧ EntBox W gy y ∧ EntBox W w.heap.size ea ∧ Mods [] w W) := Lib.hid (fun W MW => by
        have hwz : w.heap.size < w0.heap.size := BA.lt
        refine ⟨(HOm6.out.rd ascOk).mods ascOk MW (fun _ k hk hm => ?_), (HOa6.out.rd entOk).mods entOk MW (fun _ k hk hm => ?_), (HOc6.out.rd cndOk).mods cndOk MW (fun _ k hk hm => ?_), (HVL.out.mods0 ascOk HM6.out).mods ascOk MW (fun hne k hk hm => ?_), HY0.out.1.mods MW (by simp; omega), (BA.mods0 HM6.out).mods MW (by simp; omega), HM0.out.trans (HM6.out.comp MW (fun q hq => by simp at hq; exact .inr (by omega)))⟩
        · simp at hm; subst hm; have := (HOm6.out.lt _ hk).1; omega
        · simp at hm; subst hm; have := (HOa6.out.lt _ hk).1; omega
        · simp at hm; subst hm; have := (HOc6.out.lt _ hk).1; omega
        · simp at hm; subst hm; have := HVL.out.block_lt ascOk hne _ hk; omega)
      go_upto_region 7 with (at_builtin; refine wpList_appE ascOk (by rfl) (.tmp 49) (.tmp 55) rfl (by rfl) HP.out.1 (by rfl) HP.out.2.1 (by have := HM9.out; simp; omega) (by simp; omega) ?_; intro VB WB OB MB; have HRB := Lib.hid (OB.rd ascOk); have HMB := Lib.hid (HP.out.2.2.comp MB (fun q hq => .inr (HP.out.1.back hq))); clear OB MB)
      obtain ⟨ab3, cb3, rfl⟩ := HRB.out.len
      obtain ⟨nb, hnb⟩ : ∃ nb, nb = (m ++ [X]).length := ⟨_, rfl⟩
      have HNB := Lib.hid hnb
      rw [← hnb] at HRB ⊢
      clear hnb HP HOA8 HM8 HOm6 HOa6 HOc6 HD6 HM6
      have HLS : Hid (∀ W W', W = WB.alloc (.cells #[.slice al0 l.length cl0, .slice am m.length cm, .slice ab3 nb cb3] 57) → Mods [] W W' → (∀ k, k < 3 → ∃ (u : Value) (l' : List Asc), W'.cell? ⟨WB.heap.size, k, none⟩ = some u ∧ RdE ascE W' u l') ∧ RdE entE W' va ab ∧ RdE cndE W' vc own ∧ EntBox W' gy y ∧ EntBox W' w.heap.size ea ∧ Mods [] w W') := Lib.hid (fun W W' hW M => by
        subst hW
        have MA := (Mods.refl (S := []) (w := WB)).alloc (.cells #[.slice al0 l.length cl0, .slice am m.length cm, .slice ab3 nb cb3] 57)
        have MM := HMB.out.comp0 (MA.trans M)
        have hG := M.heap (heap_alloc_new WB (.cells #[.slice al0 l.length cl0, .slice am m.length cm, .slice ab3 nb cb3] 57)) (by simp)
        obtain ⟨f1, f2, f3, f4, f5, f6, f7⟩ := HFIN.out _ MM
        refine ⟨fun k hk => ?_, f2, f3, f5, f6, f7⟩
        have hcell := cell_blk hG k
        match k, hk with
        | 0, _ => exact ⟨_, l, hcell, f4⟩
        | 1, _ => exact ⟨_, m, hcell, f1⟩
        | 2, _ => exact ⟨_, m ++ [X], hcell, by rw [HNB.out] at HRB ⊢; exact HRB.out.mods0 ascOk (MA.trans M)⟩)
      clear HFIN HRB HMB
      go_wp2_with fail
      have HLS := Lib.hid (fun W' => HLS.out _ W' rfl)
      generalize WB.alloc (.cells #[.slice al0 l.length cl0, .slice am m.length cm, .slice ab3 nb cb3] 57) = wA at HLS ⊢
      generalize WB.heap.size = g3 at HLS ⊢
      go_loopw [62] (fun i wr => ∃ k : Nat, k ≤ 3 ∧ i = .int .i64 k ∧ Mods [] wA wr) (fun i _ => 3 - (intOf i).toNat)
      case atStart => exact ⟨0, by omega, rfl, Mods.refl⟩
      case round =>
        obtain ⟨k, hk, rfl, hM⟩ := hrel
        have i0 : (0 : Int) ≤ (k : Int) := by omega
        have HM := Lib.hid hM
        have ⟨g1, g2, g4, g5, g6, g7⟩ := HLS.out _ hM
        by_cases hlt : k < 3
        · have i1 : (k : Int) < 3 := by omega
          obtain ⟨u, l', hcell, hR⟩ := g1 k hlt
          have a0 := g5.c0
          have a1 := g5.c1
          have a2 := g6.c0
          have a3 := g6.c1
          have HES : Hid (∀ W W', W = wr.alloc (.cells #[.int .u8 ((ea.id.val : Nat) : Int), .int .u8 ((ea.inst.val : Nat) : Int), .int .u8 ((y.id.val : Nat) : Int), .int .u8 ((y.inst.val : Nat) : Int)] 23) → Mods [] W W' → RdE entE W' (.slice (some ⟨wr.heap.size, 0, none⟩) 2 2) [ea, y] ∧ RdE ascE W' u l' ∧ RdE entE W' va ab ∧ RdE cndE W' vc own ∧ Mods [] wA W') := Lib.hid (fun W W' hW M => by
            subst hW
            have MA := (Mods.refl (S := []) (w := wr)).alloc (.cells #[.int .u8 ((ea.id.val : Nat) : Int), .int .u8 ((ea.inst.val : Nat) : Int), .int .u8 ((y.id.val : Nat) : Int), .int .u8 ((y.inst.val : Nat) : Int)] 23)
            exact ⟨RdE.blk entOk (n := 2) (M.heap (heap_alloc_new wr _) (by simp)) rfl rfl (by omega), hR.mods0 ascOk (MA.trans M), g2.mods0 entOk (MA.trans M), g4.mods0 cndOk (MA.trans M), hM.trans (MA.trans M)⟩)
          clear g1 g2 g4 g5 g6 g7 hM hR
          go_wp2_with fail
          have HES := Lib.hid (fun W' => HES.out _ W' rfl)
          generalize wr.alloc (.cells #[.int .u8 ((ea.id.val : Nat) : Int), .int .u8 ((ea.inst.val : Nat) : Int), .int .u8 ((y.id.val : Nat) : Int), .int .u8 ((y.inst.val : Nat) : Int)] 23) = wb at HES ⊢
          generalize wr.heap.size = g4 at HES ⊢
          clear HM a0 a1 a2 a3 hcell
          go_loopw [70] (fun i wx => ∃ j : Nat, j ≤ 2 ∧ i = .int .i64 j ∧ Mods [] wb wx) (fun i _ => 2 - (intOf i).toNat)
          case atStart => exact ⟨0, by omega, rfl, Mods.refl⟩
          case round =>
            obtain ⟨j, hj, rfl, hN⟩ := hrel
            have j0 : (0 : Int) ≤ (j : Int) := by omega
            have HN := Lib.hid hN
            by_cases hjl : j < 2
            · have j1 : (j : Int) < 2 := by omega
              obtain ⟨y0, y1⟩ := (HES.out _ hN).1.two j hjl
              generalize [ea, y].getD j default = z at y0 y1
              clear hN
              go_wp2_with (refine wpList_store_row (cs := z.cells.toArray) rfl 23 (.tmp 16) (.tmp 73) rfl (heap_alloc_new wr _) (by rfl) (by rfl) (by rfl) Try.sizeEnt (Ent.one z) ?_; intro w3 R3 M3; have HN3 := Lib.hid (HN.out.trans (freshA M3)); have HZ3 := Lib.hid (show EntBox w3 wr.heap.size z from R3); have b0 := HZ3.out.c0; have b1 := HZ3.out.c1; clear R3 M3)
              refine (withinE_ok w3 l' _ (HES.out _ HN3.out).2.1 z).mono ?_
              rintro en w4 ⟨r4, rfl, q4, N4⟩
              obtain ⟨ra4, rc4, rfl⟩ := q4.len
              have HQ4 := Lib.hid q4
              clear q4
              have HN4 := Lib.hid (HN3.out.trans N4)
              have HZ4 := Lib.hid (HZ3.out.mods0 N4)
              clear b0 b1 N4
              have b0 := HZ4.out.c0
              have b1 := HZ4.out.c1
              go_wp2_with fail
              refine (refWithinE_ok w4 l' _ (HES.out _ HN4.out).2.1 z).mono ?_
              rintro en w5 ⟨r5, rfl, q5, N5⟩
              obtain ⟨ra5, rc5, rfl⟩ := q5.len
              have HQ5 := Lib.hid q5
              clear q5
              have HN5 := Lib.hid (HN4.out.trans N5)
              have HZ5 := Lib.hid (HZ4.out.mods0 N5)
              have HQ4 := Lib.hid (HQ4.out.mods0 entOk N5)
              clear b0 b1 N5
              have b0 := HZ5.out.c0
              have b1 := HZ5.out.c1
              go_wp2_with fail
              refine (presentE_ok w5 l' _ (HES.out _ HN5.out).2.1 _ _ (HES.out _ HN5.out).2.2.1 z).mono ?_
              rintro en w6 ⟨rfl, N6⟩
              have HN6 := Lib.hid (HN5.out.trans N6)
              have HZ6 := Lib.hid (HZ5.out.mods0 N6)
              have HQ4 := Lib.hid (HQ4.out.mods0 entOk N6)
              have HQ5 := Lib.hid (HQ5.out.mods0 entOk N6)
              clear b0 b1 N6
              have b0 := HZ6.out.c0
              have b1 := HZ6.out.c1
              go_wp2_with fail
              refine (refPresentE_ok w6 l' _ (HES.out _ HN6.out).2.1 _ _ (HES.out _ HN6.out).2.2.1 z).mono ?_
              rintro en w7 ⟨rfl, N7⟩
              have HN7 := Lib.hid (HN6.out.trans N7)
              have HZ7 := Lib.hid (HZ6.out.mods0 N7)
              have HQ4 := Lib.hid (HQ4.out.mods0 entOk N7)
              have HQ5 := Lib.hid (HQ5.out.mods0 entOk N7)
              clear b0 b1 N7
              have b0 := HZ7.out.c0
              have b1 := HZ7.out.c1
              go_wp2_with fail
              refine (healthE_ok w7 l' _ (HES.out _ HN7.out).2.1 _ _ (HES.out _ HN7.out).2.2.1 _ _ (HES.out _ HN7.out).2.2.2.1 z).mono ?_
              rintro en w8 ⟨rfl, N8⟩
              have HN8 := Lib.hid (HN7.out.trans N8)
              have HZ8 := Lib.hid (HZ7.out.mods0 N8)
              have HQ4 := Lib.hid (HQ4.out.mods0 entOk N8)
              have HQ5 := Lib.hid (HQ5.out.mods0 entOk N8)
              clear b0 b1 N8
              have b0 := HZ8.out.c0
              have b1 := HZ8.out.c1
              go_wp2_with fail
              refine (refHealthE_ok w8 l' _ (HES.out _ HN8.out).2.1 _ _ (HES.out _ HN8.out).2.2.1 _ _ (HES.out _ HN8.out).2.2.2.1 z).mono ?_
              rintro en w9 ⟨rfl, N9⟩
              have HN9 := Lib.hid (HN8.out.trans N9)
              have HZ9 := Lib.hid (HZ8.out.mods0 N9)
              have HQ4 := Lib.hid (HQ4.out.mods0 entOk N9)
              have HQ5 := Lib.hid (HQ5.out.mods0 entOk N9)
              clear b0 b1 N9
              have HSM := Lib.hid (sameEnts_ok w9 _ _ _ _ HQ4.out HQ5.out)
              rw [decide_eq_true rfl] at HSM
              generalize chkE l' = c1
              generalize presR l' ab z = c2
              generalize hlthR l' ab own z = c3
              go_wp2_with fail
              refine HSM.out.mono ?_
              rintro en wt ⟨rfl, Nt⟩
              have HNt := Lib.hid (HN9.out.trans Nt)
              clear Nt
              go_wp2_with fail
              go_roundw
              case rel => exact ⟨j + 1, by omega, by go_num, HNt.out⟩
              case measure => simp [intOf]; omega
            · have j1 : ¬ (j : Int) < 2 := by omega
              have HE := Lib.hid (HES.out _ hN).2.2.2.2
              clear hN
              go_wp2_with fail
              go_roundw
              case rel => exact ⟨k + 1, by omega, by go_num, HE.out⟩
              case measure => simp [intOf]; omega
        · have i1 : ¬ (k : Int) < 3 := by omega
          have HE := Lib.hid g7
          clear g1 g2 g4 g5 g6 g7 hM
          go_wp2_with fail
          refine (awake15_ok _).mono ?_
          rintro en wt ⟨rfl, Mt⟩
          have HT := Lib.hid (HE.out.trans Mt)
          clear Mt
          go_wp2_with fail
          go_ret
          exact ⟨rfl, HT.out⟩
    · have HLL := Lib.hid (decide_eq_false hl)
      go_enter Try.func6, Try.ntmps6
      go_wp2_with fail
      generalize (w.alloc (.cells ea.cells.toArray 23)) = w0 at BA HM0 HL HV HVL ⊢
      refine HL.out.mono ?_
      rw [HLL.out]
      rintro e w' ⟨rfl, rfl⟩
      go_wp2_with fail
      refine (awake15_ok _).mono ?_
      rintro e w1 ⟨rfl, M1⟩
      go_wp2
      go_ret
      exact ⟨rfl, HM0.out.trans M1⟩
  · have d60 : decide ((l.length : Int) > 60) = true := decide_eq_true (by omega)
    go_enter Try.func6, Try.ntmps6
    go_wp2_with fail
    generalize (w.alloc (.cells ea.cells.toArray 23)) = w0 at BA HM0 HL HV HVL ⊢
    refine (awake15_ok _).mono ?_
    rintro e w1 ⟨rfl, M1⟩
    go_wp2
    go_ret
    exact ⟨rfl, HM0.out.trans M1⟩
end Go.Proofs.Ytijjkonephjodaa
