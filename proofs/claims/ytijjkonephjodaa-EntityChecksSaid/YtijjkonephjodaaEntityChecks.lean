/- EntityChecks: the walk. -/
import Derived.Test.YtijjkonephjodaaEntityRelations
namespace Go.Proofs.Ytijjkonephjodaa
open Go.RowKit

def longA (k : Nat) : Asc := ⟨⟨Fin.ofNat 256 (k + 1), 0⟩, ⟨Fin.ofNat 256 k, 0⟩⟩
def longL (k : Nat) : List Asc := (List.range k).map longA
theorem longL_succ (k : Nat) : longL (k + 1) = longL k ++ [longA k] := by unfold longL; rw [List.range_succ, List.map_append]; rfl
theorem longL_length (k : Nat) : (longL k).length = k := by unfold longL; simp
theorem longA_cells {k : Nat} (h : k ≤ 100) : [Value.int .u8 ((k : Int) + 1), .int .u8 0, .int .u8 (k : Int), .int .u8 0] = ascE.enc (longA k) := by
  have h1 : (k + 1) % 256 = k + 1 := Nat.mod_eq_of_lt (by omega)
  have h2 : k % 256 = k := Nat.mod_eq_of_lt (by omega)
  show _ = [Value.int .u8 ((((k + 1) % 256 : Nat)) : Int), .int .u8 ((0 : Nat) : Int), .int .u8 (((k % 256 : Nat)) : Int), .int .u8 ((0 : Nat) : Int)]
  rw [h1, h2]
  rfl

set_option maxRecDepth 100000 in
set_option maxHeartbeats 16000000 in
theorem entityChecks_walk (w : World) (vl : Value) (l : List Asc) (hvl : RdE ascE w vl l) (v : Value) (L : List Int) (hv : Rd w v (i64s L)) (hb : ∀ i, -9223372036854775808 ≤ L.getD i 0 ∧ L.getD i 0 ≤ 9223372036854775807) (ea : Ent) (mo : Int) (hmo : I64 mo) :
    Calls Try.prog 4 #[vl, v, .agg ea.cells.toArray, .int .i64 mo] w fun e w' => e = .returned (.bool true) ∧ Mods [] w w' := by
  have MA := (Mods.refl (S := []) (w := w)).alloc (.cells ea.cells.toArray 23)
  have BA := EntBox.new w ea
  have HM0 := Lib.hid MA
  have HL := Lib.hid (light_ok _ v L (hv.mods0 MA))
  have HV := Lib.hid (hv.mods0 MA)
  have HB := Lib.hid hb
  have HVL := Lib.hid (hvl.mods0 ascOk MA)
  have hcap := hvl.bound
  obtain ⟨al0, cl0, rfl⟩ := hvl.len
  clear hv hb MA hvl
  by_cases h100 : l.length ≤ 100
  · have d100 : decide ((l.length : Int) > 100) = false := decide_eq_false (by omega)
    by_cases hl : L.length ≤ 600
    · have HLL := Lib.hid (decide_eq_true hl)
      go_enter Try.func4, Try.ntmps4
      go_wp2_with fail
      generalize (w.alloc (.cells ea.cells.toArray 23)) = w0 at BA HM0 HL HV HVL ⊢
      refine HL.out.mono ?_
      rw [HLL.out]
      rintro e w' ⟨rfl, rfl⟩
      go_wp2_with fail
      refine (roll_ok w0 v L HV.out (by omega) HB.out).mono ?_
      rintro e w1 ⟨rfl, D1, M1, z1⟩
      go_wp2_with fail
      refine (ascs_ok w1 w0.heap.size v L 0 D1 9 (by omega)).mono ?_
      rintro e w2 ⟨vm, m, j2, rfl, Om, hm9, -, D2, M2⟩
      have HM2 := Lib.hid (show Mods [] w0 w2 from M1.comp M2 (fun q hq => by simp at hq; subst hq; exact .inr (Nat.le_refl _)))
      have HOm := Lib.hid Om
      have hz2 := M2.size
      have HD2 := Lib.hid D2
      have HM9 := Lib.hid hm9
      obtain ⟨am, cm, rfl⟩ := (Om.rd ascOk).len
      have hz1 := M2.size
      have HB1 := Lib.hid D1.lt
      have HVB := Lib.hid (show L ≠ [] → ∀ k, v.ownBlock = some k → k < w0.heap.size from fun hl k hk => HV.out.block_lt (fun e => hl (List.eq_nil_of_length_eq_zero (by rw [← i64s_length, e]; rfl))) k hk)
      clear D1 M1 M2 Om D2 hm9
      go_wp2_with fail
      refine (entity_ok w2 w0.heap.size v L j2 HD2.out).mono ?_
      rintro e w7 ⟨x1, y1, j6, rfl, hx1, hy1, D7, M7⟩
      have HOA7 := Lib.hid (HOm.out.mods M7 (fun k hk hm => by simp at hm; subst hm; have := (HOm.out.lt _ hk).1; omega))
      have HM7 := Lib.hid (HM2.out.comp M7 (fun q hq => by simp at hq; subst hq; exact .inr (Nat.le_refl _)))
      have HD7 := Lib.hid D7
      have HZ7 := Lib.hid M7.size
      clear D7 M7 HM2 HOm
      go_wp2_with fail
      refine (entity_ok w7 w0.heap.size v L j6 HD7.out).mono ?_
      rintro e w8 ⟨x2, y2, j7, rfl, hx2, hy2, D8, M8⟩
      have HOA8 := Lib.hid (HOA7.out.mods M8 (fun k hk hm => by simp at hm; subst hm; have := (HOA7.out.lt _ hk).1; omega))
      have HM8 := Lib.hid (HM7.out.comp M8 (fun q hq => by simp at hq; subst hq; exact .inr (Nat.le_refl _)))
      have HD8 := Lib.hid D8
      have hz7 := HD7.out.lt
      have hz8 : w2.heap.size ≤ w8.heap.size := Nat.le_trans HZ7.out M8.size
      obtain ⟨X, hX⟩ : ∃ X : Asc, X = ⟨⟨⟨x1, hx1⟩, ⟨y1, hy1⟩⟩, ⟨⟨x2, hx2⟩, ⟨y2, hy2⟩⟩⟩ := ⟨_, rfl⟩
      have MB := (Mods.refl (S := []) (w := w8)).alloc (.cells #[.int .u8 (x1 : Int), .int .u8 (y1 : Int), .int .u8 (x2 : Int), .int .u8 (y2 : Int)] 61)
      have HP := Lib.hid (show OwnE ascE (w8.alloc (.cells #[.int .u8 (x1 : Int), .int .u8 (y1 : Int), .int .u8 (x2 : Int), .int .u8 (y2 : Int)] 61)) w1.heap.size _ m ∧ RdE ascE (w8.alloc (.cells #[.int .u8 (x1 : Int), .int .u8 (y1 : Int), .int .u8 (x2 : Int), .int .u8 (y2 : Int)] 61)) (.slice (some ⟨w8.heap.size, 0, none⟩) 1 1) [X] ∧ Mods [] w0 (w8.alloc (.cells #[.int .u8 (x1 : Int), .int .u8 (y1 : Int), .int .u8 (x2 : Int), .int .u8 (y2 : Int)] 61)) ∧ IsDice (w8.alloc (.cells #[.int .u8 (x1 : Int), .int .u8 (y1 : Int), .int .u8 (x2 : Int), .int .u8 (y2 : Int)] 61)) w0.heap.size v L j7 ∧ w0.heap.size < w1.heap.size ∧ w1.heap.size ≤ (w8.alloc (.cells #[.int .u8 (x1 : Int), .int .u8 (y1 : Int), .int .u8 (x2 : Int), .int .u8 (y2 : Int)] 61)).heap.size from ⟨HOA8.out.mods0 MB, RdE.one (a := X) (heap_alloc_new w8 _) (by rw [hX]; rfl), HM8.out.trans MB, D8.mods0 MB, HB1.out, by rw [World.size_alloc]; omega⟩)
      clear MB D8 M8 hX HOA7 HM7 HD7 hx1 hy1 hx2 hy2
      go_upto_region 6 with (at_builtin; refine wpList_appE ascOk (by rfl) (.tmp 34) (.tmp 40) rfl (by rfl) HP.out.1 (by rfl) HP.out.2.1 (by have := HM9.out; simp; omega) HP.out.2.2.2.2.2 ?_; intro VB WB OB MB; have HOB := Lib.hid OB; have HMB := Lib.hid (HP.out.2.2.1.comp MB (fun q hq => .inr (Nat.le_trans (Nat.le_of_lt HP.out.2.2.2.2.1) (HP.out.1.back hq)))); have HDB := Lib.hid (HP.out.2.2.2.1.mods MB (fun hm => by have := HP.out.1.back hm; have := HP.out.2.2.2.2.1; omega) (fun hl k hk hm => by have := HP.out.1.back hm; have := HP.out.2.2.2.2.1; have := HVB.out hl k hk; omega)); clear OB MB)
      obtain ⟨m2, hm2⟩ : ∃ q, q = m ++ [X] := ⟨_, rfl⟩
      rw [← hm2] at HOB
      obtain ⟨ab3, cb3, rfl⟩ := (HOB.out.rd ascOk).len
      clear hm2 HP HOA8 HM8 HD8 HL HV HZ7 hz7 hz8 hz1 hz2 HM9 HD2
      obtain ⟨r, hr⟩ : ∃ r : Nat, mo % 4 = (r : Int) := ⟨(mo % 4).toNat, by omega⟩
      have hr4 : r < 4 := by omega
      have HMOD := Lib.hid (fun W => mod_ok mo 4 W hmo (by decide) (by decide))
      rw [hr] at HMOD
      clear hr
      have r0 : (0 : Int) ≤ (r : Int) := by omega
      have r1 : (r : Int) < 4 := by omega
      go_wp2_with fail
      go_loopw [11, 12] (fun u i wx => ∃ k : Nat, k ≤ 31 + r ∧ i = .int .i64 k ∧ OwnE ascE wx WB.heap.size u (longL k) ∧ Mods [] WB wx) (fun _ i _ => 31 + r - (intOf i).toNat)
      case atStart => exact ⟨0, by omega, rfl, OwnE.nil _ _ _, Mods.refl⟩
      case round =>
        obtain ⟨k, hk, rfl, hO, hM⟩ := hrel
        have i0 : (0 : Int) ≤ (k : Int) := by omega
        obtain ⟨au, cu, rfl⟩ := (hO.rd ascOk).len
        rw [longL_length] at hO ⊢
        have HO := Lib.hid hO
        have HM := Lib.hid hM
        have hzr : WB.heap.size ≤ wr.heap.size := hM.size
        clear hO hM
        by_cases hlt : k < 31 + r
        · have i1 : (k : Int) < 31 + (r : Int) := by omega
          have i2 : (k : Int) < 100 := by omega
          have HP := Lib.hid (show OwnE ascE (wr.alloc (.cells #[.int .u8 ((k : Int) + 1), .int .u8 0, .int .u8 (k : Int), .int .u8 0] 61)) WB.heap.size (.slice au k cu) (longL k) ∧ RdE ascE (wr.alloc (.cells #[.int .u8 ((k : Int) + 1), .int .u8 0, .int .u8 (k : Int), .int .u8 0] 61)) (.slice (some ⟨wr.heap.size, 0, none⟩) 1 1) [longA k] ∧ Mods [] WB (wr.alloc (.cells #[.int .u8 ((k : Int) + 1), .int .u8 0, .int .u8 (k : Int), .int .u8 0] 61)) ∧ WB.heap.size ≤ (wr.alloc (.cells #[.int .u8 ((k : Int) + 1), .int .u8 0, .int .u8 (k : Int), .int .u8 0] 61)).heap.size from ⟨HO.out.mods0 (Mods.refl.alloc _), RdE.one (heap_alloc_new wr _) (longA_cells (by omega)), HM.out.alloc _, by rw [World.size_alloc]; omega⟩)
          go_wp2_with (fail)
          refine (HMOD.out _).mono ?_
          rintro e w' ⟨rfl, rfl⟩
          go_wp2_with (at_builtin; refine wpList_appE ascOk (by rfl) (.tmp 49) (.tmp 58) rfl (by rfl) HP.out.1 (by rfl) HP.out.2.1 (by rw [longL_length]; simp; omega) HP.out.2.2.2 ?_; intro VC WC OC MC; have HST := Lib.hid (show OwnE ascE WC WB.heap.size VC (longL (k + 1)) ∧ Mods [] WB WC from ⟨by rw [longL_succ]; exact OC, HP.out.2.2.1.comp MC (fun q hq => .inr (HP.out.1.back hq))⟩); clear OC MC)
          go_roundw
          case rel => exact ⟨k + 1, by omega, by go_num, HST.out⟩
          case measure => simp [intOf]; omega
        · have i1 : ¬ (k : Int) < 31 + (r : Int) := by omega
          have HLS : Hid (∀ W, W = wr.alloc (.cells #[.slice al0 l.length cl0, .slice ab3 m2.length cb3, .slice au k cu] 57) → (∀ k, k < 3 → ∃ (u : Value) (l' : List Asc), ∀ W', Mods [w0.heap.size] W W' → W'.cell? ⟨wr.heap.size, k, none⟩ = some u ∧ RdE ascE W' u l') ∧ ∀ W', Mods [w0.heap.size] W W' → EntBox W' w.heap.size ea ∧ Mods [] w W') := Lib.hid (fun W hW => by
            subst hW
            have MA := (Mods.refl (S := []) (w := wr)).alloc (.cells #[.slice al0 l.length cl0, .slice ab3 m2.length cb3, .slice au k cu] 57)
            have hbz : w0.heap.size < WB.heap.size := HDB.out.lt
            have hG := fun W' (M : Mods [w0.heap.size] (wr.alloc (.cells #[.slice al0 l.length cl0, .slice ab3 m2.length cb3, .slice au k cu] 57)) W') => M.heap (heap_alloc_new wr (.cells #[.slice al0 l.length cl0, .slice ab3 m2.length cb3, .slice au k cu] 57)) (by simp; omega)
            have M0 := HMB.out.trans (HM.out.trans MA)
            have hww : w.heap.size < w0.heap.size := BA.lt
            refine ⟨fun k' hk' => ?_, fun W' M => ⟨(BA.mods0 M0).mods M (by simp; omega), HM0.out.trans (M0.comp M (fun q hq => by simp at hq; exact .inr (by omega)))⟩⟩
            match k', hk' with
            | 0, _ => exact ⟨_, l, fun W' M => ⟨cell_blk (hG W' M) 0, (HVL.out.mods0 ascOk M0).mods ascOk M (fun hne k hk hm => by simp at hm; subst hm; have := HVL.out.block_lt ascOk hne _ hk; omega)⟩⟩
            | 1, _ => exact ⟨_, m2, fun W' M => ⟨cell_blk (hG W' M) 1, ((HOB.out.mods0 (HM.out.trans MA)).rd ascOk).mods ascOk M (fun _ k hk hm => by simp at hm; subst hm; have := (HOB.out.lt _ hk).1; omega)⟩⟩
            | 2, _ => exact ⟨_, longL k, fun W' M => ⟨cell_blk (hG W' M) 2, ((HO.out.mods0 MA).rd ascOk).mods ascOk M (fun _ k hk hm => by simp at hm; subst hm; have := (HO.out.lt _ hk).1; omega)⟩⟩)
          have HDI := Lib.hid (HDB.out.mods0 (HM.out.alloc (.cells #[.slice al0 l.length cl0, .slice ab3 m2.length cb3, .slice au k cu] 57)))
          clear HO HM HOB HMB HDB HVL
          go_wp2_with (fail)
          refine (HMOD.out _).mono ?_
          rintro e w' ⟨rfl, rfl⟩
          go_wp2_with fail
          have HLS := HLS.out _ rfl
          have HL1 := Lib.hid HLS.1
          have HL2 := Lib.hid HLS.2
          clear HLS i1 hlt hk i0 HMOD
          generalize wr.alloc (.cells #[.slice al0 l.length cl0, .slice ab3 m2.length cb3, .slice au k cu] 57) = wA at HL1 HL2 HDI ⊢
          generalize wr.heap.size = g3 at HL1 hzr ⊢
          go_loopw [65] (fun i wx => ∃ q : Nat, q ≤ 3 ∧ i = .int .i64 q ∧ (∃ j, IsDice wx w0.heap.size v L j) ∧ Mods [w0.heap.size] wA wx) (fun i _ => 3 - (intOf i).toNat)
          case atStart => exact ⟨0, by omega, rfl, ⟨_, HDI.out⟩, Mods.refl⟩
          case round =>
            obtain ⟨q, hq, rfl, ⟨jd, hD⟩, hM⟩ := hrel
            have q0 : (0 : Int) ≤ (q : Int) := by omega
            have g5 := HL2.out _ hM
            have HM := Lib.hid hM
            have HD := Lib.hid hD
            have hww : w.heap.size < w0.heap.size := BA.lt
            by_cases hlt : q < 3
            · have q1 : (q : Int) < 3 := by omega
              obtain ⟨u, l', hR⟩ := HL1.out q hlt
              have hcell := (hR _ hM).1
              have HR := Lib.hid hR
              have HE0 := Lib.hid g5.1
              clear hR hM g5 hD
              go_upto_region 14 with (fail)
              clear hcell
              refine heldStart (S := fun W => EntBox W w.heap.size ea) 6 rfl (by kernel_rfl) HE0.out (fun hHeld => ?_)
              refine takeD (i := 0) (d := 69) (v := .agg #[.int .u8 ((ea.id.val : Nat) : Int), .int .u8 ((ea.inst.val : Nat) : Int)]) rfl rfl (by kernel_rfl) (by kernel_rfl) (by kernel_rfl) (fun _ _ _ h => h) (yieldsIf_load_row rfl 23 (.tmp 6) rfl w.heap.size rfl 23 #[.int .u8 ((ea.id.val : Nat) : Int), .int .u8 ((ea.inst.val : Nat) : Int)] (0, 0) _ (fun _ h=>h) Try.underlying23 rfl Try.sizeEnt) hHeld ?_
              simp only [List.setIfInBounds_toArray, List.set_cons_zero, List.set_cons_succ]
              refine takeD (i := 1) (d := 70) (v := ?_) rfl rfl (by kernel_rfl) (by kernel_rfl) (by kernel_rfl) (fun _ _ _ h => h) (Or.inl ⟨by rfl, ?_⟩) hHeld ?_
              rotate_left 1
              · (intro w hSw; (try dsimp only at hSw); go_simp; (try with_reducible rfl))
              simp only [List.setIfInBounds_toArray, List.set_cons_zero, List.set_cons_succ]
              refine takeD (i := 5) (d := 74) (v := ?_) rfl rfl (by kernel_rfl) (by kernel_rfl) (by kernel_rfl) (fun _ _ _ h => h) (Or.inl ⟨by rfl, ?_⟩) hHeld ?_
              rotate_left 1
              · (intro w hSw; (try dsimp only at hSw); go_simp; (try with_reducible rfl))
              simp only [List.setIfInBounds_toArray, List.set_cons_zero, List.set_cons_succ]
              refine wpAnyH_ready (rs := [2]) (by kernel_rfl) (by simp) ?_
              refine AllReadyH.cons rfl (fun K hK => ?_) AllReadyH.nil
              go_simp
              go_wp2_with (go_at_call 28; refine (entity_ok _ w0.heap.size v L jd (HD.out.mods0 Mods.refl.drew)).mono ?_; rintro e wE ⟨x0, y0, j5, rfl, hx, hy, D5, M5⟩)
              refine hK.out _ _ ?_ (fun hHeld => ?_)
              · exact EntBox.mods hHeld M5 (by simp; omega)
              clear hK K
              obtain ⟨y, hye⟩ : ∃ x : Ent, x = ⟨⟨x0, hx⟩, ⟨y0, hy⟩⟩ := ⟨_, rfl⟩
              have hx0 : (x0 : Int) = ((y.id.val : Nat) : Int) := by rw [hye]
              have hy0 : (y0 : Int) = ((y.inst.val : Nat) : Int) := by rw [hye]
              rw [hx0, hy0]
              clear hx0 hy0 hye hx hy
              have HME := Lib.hid (show Mods [w0.heap.size] wA wE from HM.out.drew.trans M5)
              have HDE := Lib.hid D5
              clear D5 M5 HM HD HE0
              have HES : Hid (∀ W W', W = wE.alloc (.cells #[.int .u8 ((ea.id.val : Nat) : Int), .int .u8 ((ea.inst.val : Nat) : Int), .int .u8 ((y.id.val : Nat) : Int), .int .u8 ((y.inst.val : Nat) : Int)] 23) → Mods [] W W' → RdE entE W' (.slice (some ⟨wE.heap.size, 0, none⟩) 2 2) [ea, y] ∧ RdE ascE W' u l' ∧ (∃ j, IsDice W' w0.heap.size v L j) ∧ Mods [w0.heap.size] wA W') := Lib.hid (fun W W' hW M => by
                subst hW
                have MA := (Mods.refl (S := []) (w := wE)).alloc (.cells #[.int .u8 ((ea.id.val : Nat) : Int), .int .u8 ((ea.inst.val : Nat) : Int), .int .u8 ((y.id.val : Nat) : Int), .int .u8 ((y.inst.val : Nat) : Int)] 23)
                have MM := HME.out.comp0 (MA.trans M)
                exact ⟨RdE.blk entOk (n := 2) (M.heap (heap_alloc_new wE _) (by simp)) rfl rfl (by omega), (HR.out _ MM).2, ⟨_, HDE.out.mods0 (MA.trans M)⟩, MM⟩)
              refine wpAnyH_ready (rs := [3]) (by kernel_rfl) (by simp) ?_
              refine AllReadyH.cons rfl (fun K hK => ?_) AllReadyH.nil
              go_simp
              refine hK.out _ _ ?_ (fun hHeld => ?_)
              · exact EntBox.mods0 hHeld (Mods.refl.alloc _)
              clear hK K
              refine takeD (i := 4) (d := 73) (v := ?_) rfl rfl (by kernel_rfl) (by kernel_rfl) (by kernel_rfl) (fun _ _ _ h => h) (Or.inl ⟨by rfl, ?_⟩) hHeld ?_
              rotate_left 1
              · (intro w hSw; (try dsimp only at hSw); go_simp; (try with_reducible rfl))
              simp only [List.setIfInBounds_toArray, List.set_cons_zero, List.set_cons_succ]
              refine wpAnyH_done (by kernel_rfl) ?_ _
              have HES := Lib.hid (fun W' => HES.out _ W' rfl)
              clear hHeld HR HME HDE
              generalize wE.alloc (.cells #[.int .u8 ((ea.id.val : Nat) : Int), .int .u8 ((ea.inst.val : Nat) : Int), .int .u8 ((y.id.val : Nat) : Int), .int .u8 ((y.inst.val : Nat) : Int)] 23) = wb at HES ⊢
              generalize wE.heap.size = g4 at HES ⊢
              go_wp2_with fail
              go_loopw [74] (fun i wx => ∃ j : Nat, j ≤ 2 ∧ i = .int .i64 j ∧ Mods [] wb wx) (fun i _ => 2 - (intOf i).toNat)
              case atStart => exact ⟨0, by omega, rfl, Mods.refl⟩
              case round =>
                obtain ⟨j, hj, rfl, hN⟩ := hrel
                have j0 : (0 : Int) ≤ (j : Int) := by omega
                have HN := Lib.hid hN
                by_cases hjl : j < 2
                · have j1 : (j : Int) < 2 := by omega
                  obtain ⟨y0, y1⟩ := (HES.out _ hN).1.two j hjl
                  generalize [ea, y].getD j default = z at y0 y1
                  clear hN
                  go_wp2_with (refine wpList_store_row (cs := z.cells.toArray) rfl 23 (.tmp 16) (.tmp 77) rfl (heap_alloc_new wr _) (by rfl) (by rfl) (by rfl) Try.sizeEnt (Ent.one z) ?_; intro w3 R3 M3; have HN3 := Lib.hid (HN.out.trans (freshA M3)); have HZ3 := Lib.hid (show EntBox w3 wr.heap.size z from R3); have b0 := HZ3.out.c0; have b1 := HZ3.out.c1; clear R3 M3)
                  obtain ⟨p, hp⟩ : ∃ p, p = parV l' z := ⟨_, rfl⟩
                  obtain ⟨ok, hok⟩ : ∃ ok, ok = (par l' z).isSome := ⟨_, rfl⟩
                  have HPK := Lib.hid (And.intro hp hok)
                  clear hp hok
                  refine (parent_ok w3 l' z _ (HES.out _ HN3.out).2.1).mono ?_
                  rintro en w4 ⟨rfl, N4⟩
                  rw [← HPK.out.1, ← HPK.out.2]
                  have HN4 := Lib.hid (HN3.out.trans N4)
                  have HZ4 := Lib.hid (HZ3.out.mods0 N4)
                  clear N4 b0 b1
                  go_wp2_with (refine wpList_store_row (cs := p.cells.toArray) rfl 23 (.tmp 17) (.tmp 82) rfl (heap_alloc_new w4 _) (by rfl) (by rfl) (by rfl) Try.sizeEnt (Ent.one p) ?_; intro w5 R5 M5; have HN5 := Lib.hid (HN4.out.trans (freshA M5)); have HZ5 := Lib.hid (HZ4.out.mods0 (freshA M5)); have HP5 := Lib.hid (show EntBox w5 w4.heap.size p from R5); have b0 := HZ5.out.c0; have b1 := HZ5.out.c1; clear R5 M5)
                  refine (refParent_ok w5 l' z _ (HES.out _ HN5.out).2.1).mono ?_
                  rintro en w6 ⟨rfl, N6⟩
                  rw [← HPK.out.1, ← HPK.out.2]
                  have HN6 := Lib.hid (HN5.out.trans N6)
                  have HP6 := Lib.hid (HP5.out.mods0 N6)
                  clear N6 b0 b1 HPK
                  go_wp2_with (refine wpList_store_row (cs := p.cells.toArray) rfl 23 (.tmp 19) (.tmp 88) rfl (heap_alloc_new w6 _) (by rfl) (by rfl) (by rfl) Try.sizeEnt (Ent.one p) ?_; intro w7 R7 M7; have HN7 := Lib.hid (HN6.out.trans (freshA M7)); have HP7 := Lib.hid (HP6.out.mods0 (freshA M7)); have HQ7 := Lib.hid (show EntBox w7 w6.heap.size p from R7); clear R7 M7)
                  refine (check_ok w7 l' _ (HES.out _ HN7.out).2.1).mono ?_
                  rintro en w8 ⟨rfl, N8⟩
                  have HN8 := Lib.hid (HN7.out.trans N8)
                  have HPQ8 := Lib.hid (And.intro (HP7.out.mods0 N8) (HQ7.out.mods0 N8))
                  clear N8
                  go_wp2_with fail
                  refine (refCheck_ok w8 l' _ (HES.out _ HN8.out).2.1).mono ?_
                  rintro en w9 ⟨rfl, N9⟩
                  have HN9 := Lib.hid (HN8.out.trans N9)
                  have a0 := (HPQ8.out.1.mods0 N9).c0
                  have a1 := (HPQ8.out.1.mods0 N9).c1
                  have a2 := (HPQ8.out.2.mods0 N9).c0
                  have a3 := (HPQ8.out.2.mods0 N9).c1
                  clear N9
                  generalize chkE l' = c1
                  have hE : ∀ w, _ := fun w => by have h := ent_neq' p p w; rw [show decide (p = p) = true from decide_eq_true rfl] at h; exact h
                  go_wp2_with fail
                  go_roundw
                  case rel => exact ⟨j + 1, by omega, by go_num, HN9.out⟩
                  case measure => simp [intOf]; omega
                · have j1 : ¬ (j : Int) < 2 := by omega
                  have HE := Lib.hid (HES.out _ hN).2.2
                  clear hN
                  go_wp2_with fail
                  go_roundw
                  case rel => exact ⟨q + 1, by omega, by go_num, HE.out⟩
                  case measure => simp [intOf]; omega
            · have q1 : ¬ (q : Int) < 3 := by omega
              have HE := Lib.hid g5.2
              clear g5 hM hD HM HD
              go_wp2_with fail
              refine (awake15_ok _).mono ?_
              rintro en wt ⟨rfl, Mt⟩
              have HT := Lib.hid (HE.out.trans Mt)
              clear Mt
              go_wp2_with fail
              go_ret
              exact ⟨rfl, HT.out⟩
    · have HLL := Lib.hid (decide_eq_false hl)
      go_enter Try.func4, Try.ntmps4
      go_wp2_with fail
      generalize (w.alloc (.cells ea.cells.toArray 23)) = w0 at BA HM0 HL HV HVL ⊢
      refine HL.out.mono ?_
      rw [HLL.out]
      rintro e w' ⟨rfl, rfl⟩
      go_wp2_with fail
      refine (awake15_ok _).mono ?_
      rintro e w1 ⟨rfl, M1⟩
      go_wp2
      go_ret
      exact ⟨rfl, HM0.out.trans M1⟩
  · have d100 : decide ((l.length : Int) > 100) = true := decide_eq_true (by omega)
    go_enter Try.func4, Try.ntmps4
    go_wp2_with fail
    generalize (w.alloc (.cells ea.cells.toArray 23)) = w0 at BA HM0 HL HV HVL ⊢
    refine (awake15_ok _).mono ?_
    rintro e w1 ⟨rfl, M1⟩
    go_wp2
    go_ret
    exact ⟨rfl, HM0.out.trans M1⟩
end Go.Proofs.Ytijjkonephjodaa
