/- SamplingForgets: the walk. -/
import Derived.Test.YtgjjmiaiclhidaaSamF
import Derived.Test.YtgjjmiaiclhidaaAwakeM
import Derived.Test.YtgjjmiaiclhidaaBaseG
namespace Go.Proofs.Ytgjjmiaiclhidaa
open Go.RowKit
set_option linter.unusedVariables false

set_option maxRecDepth 100000 in
set_option maxHeartbeats 8000000 in
theorem samplingForgets_walk (w : World) (v : Value) (L : List Int) (hv : Rd w v (i64s L)) (hb : ∀ i, -9223372036854775808 ≤ L.getD i 0 ∧ L.getD i 0 ≤ 9223372036854775807) (v1 : Value) (A : List Tk) (hA : RdTk w v1 A) (rA : ∀ t ∈ A, t.raw < 256) (v2 : Value) (B : List Tk) (hB : RdTk w v2 B) (rB : ∀ t ∈ B, t.raw < 256) (v3 : Value) (C : List Tk) (hC : RdTk w v3 C) (rC : ∀ t ∈ C, t.raw < 256) :
    Calls Try.prog 19 #[v, v1, v2, v3] w fun e w' => e = .returned (.bool true) ∧ Mods [] w w' := by
  have HA := Lib.hid hA
  have HB2 := Lib.hid hB
  have HC := Lib.hid hC
  have HRA := Lib.hid rA
  have HRB := Lib.hid rB
  have HRC := Lib.hid rC
  obtain ⟨a1, c1, rfl, -⟩ := hA
  obtain ⟨a2, c2, rfl, -⟩ := hB
  obtain ⟨a3, c3, rfl, -⟩ := hC
  clear rA rB rC
  have HL := Lib.hid (light_ok w v L hv)
  have HV := Lib.hid hv
  have HB := Lib.hid hb
  clear hv hb
  by_cases hl : L.length ≤ 600
  · skip
    have HLL := Lib.hid (decide_eq_true hl)
    by_cases l1 : A.length ≤ 30
    · by_cases l2 : B.length ≤ 30
      · by_cases l3 : C.length ≤ 30
        · have d1 : decide ((A.length : Int) > 30) = false := decide_eq_false (by omega)
          have d1' : ¬ (30 : Int) < (A.length : Int) := by omega
          have d2 : decide ((B.length : Int) > 30) = false := decide_eq_false (by omega)
          have d2' : ¬ (30 : Int) < (B.length : Int) := by omega
          have d3 : decide ((C.length : Int) > 30) = false := decide_eq_false (by omega)
          have d3' : ¬ (30 : Int) < (C.length : Int) := by omega
          go_enter Try.func19, Try.ntmps19
          go_wp2_with fail
          refine HL.out.mono ?_
          rw [HLL.out]
          rintro e w' ⟨rfl, rfl⟩
          go_wp2_with fail
          refine (roll_ok w v L HV.out (by omega) HB.out).mono ?_
          rintro e w1 ⟨rfl, D1, M1, z1⟩
          clear d1 d1' d2 d2' d3 d3'
          go_wp2_with fail
          refine (analogM_ok w1 w.heap.size v L 0 D1 1 (by omega)).mono ?_
          rintro e w2 ⟨S, P, n2, rfl, IS, VS, DS, OP, PL, SN, D2, M2⟩
          have HM2 := Lib.hid (show Mods [] w w2 from M1.comp M2 (fun q hq => by simp at hq; subst hq; exact .inr (Nat.le_refl _)))
          have hone := Lib.hid IS.conv.rd.one
          have HIS := Lib.hid IS
          have HVS := Lib.hid VS
          have hodd := valid_odd VS
          obtain ⟨kk, hkk⟩ : ∃ kk : Nat, S.samples = (kk : Int) := ⟨S.samples.toNat, by omega⟩
          have hk5 : kk = 1 ∨ kk = 3 ∨ kk = 5 := by omega
          have HKK := Lib.hid hkk
          clear D1 D2 M1 M2 DS OP PL SN IS VS HL HLL HV HB z1 hodd hkk
          go_wp2_with (refine wpList_store_row (cs := S.cells) rfl 32 (.tmp 9) (.tmp 49) rfl (heap_alloc_new w2 _) (by rfl) (by rfl) (by rfl) (Sen.infoS _) (Sen.one _ hone.out) ?_; intro w4 R4 M4; have HB4 := Lib.hid R4; have HF4 := Lib.hid (fresh M4); clear R4 M4)
          have HM4 := Lib.hid (HM2.out.trans HF4.out)
          have HIS4 := Lib.hid (HIS.out.mods0 HF4.out)
          generalize w2.heap.size = gs at HB4 ⊢
          clear HF4 HIS HM2
          have ML := (Mods.refl (S := []) (w := w4)).alloc (.cells #[.int .u8 0, .bool true, .int .u8 0, .bool true, .int .u8 0, .bool true] 103)
          have HG5 : Hid (RdE tkE (w4.alloc (.cells #[.int .u8 0, .bool true, .int .u8 0, .bool true, .int .u8 0, .bool true] 103)) (.slice (some ⟨w4.heap.size, 0, none⟩) 3 3) gapL) := Lib.hid ((OwnE.lit tkE_ok w4 (Nat.le_refl _) gapL (by unfold maxLen; decide)).rd tkE_ok)
          have HX5 := Lib.hid (HM4.out.trans ML)
          have HB5 := Lib.hid (ML.heap HB4.out (by simp))
          have HIS5 := Lib.hid (HIS4.out.mods0 ML)
          generalize w4.alloc (.cells #[.int .u8 0, .bool true, .int .u8 0, .bool true, .int .u8 0, .bool true] 103) = w5 at HG5 HX5 HB5 HIS5 ⊢
          generalize w4.heap.size = gl at HG5 ⊢
          clear ML HM4 HIS4 HB4
          obtain ⟨LA, hLA⟩ : ∃ LA, LA = A ++ gapL ++ C := ⟨_, rfl⟩
          have HRaA := Lib.hid (show ∀ t ∈ LA, t.raw < 256 from fun t ht => by
            rw [hLA] at ht
            simp only [List.mem_append] at ht
            have hA := HRA.out t
            have hB := HRB.out t
            have hC := HRC.out t
            have hg : t ∈ gapL → t.raw < 256 := fun h => by simp [gapL] at h; subst h; decide
            have hf : t ∈ fullL → t.raw < 256 := fun h => by simp [fullL] at h; rcases h with h | h | h | h | h <;> (subst h; decide)
            rcases ht with (h | h) | h <;> first | exact hA h | exact hg h | exact hC h)
          have HlA := Lib.hid (show LA.length ≤ 100 by have h3 : gapL.length = 3 := rfl; have h5 : fullL.length = 5 := rfl; rw [hLA]; simp only [List.length_append]; omega)
          have HLA := Lib.hid hLA
          clear hLA
          obtain ⟨LB, hLB⟩ : ∃ LB, LB = B ++ gapL ++ C := ⟨_, rfl⟩
          have HRaB := Lib.hid (show ∀ t ∈ LB, t.raw < 256 from fun t ht => by
            rw [hLB] at ht
            simp only [List.mem_append] at ht
            have hA := HRA.out t
            have hB := HRB.out t
            have hC := HRC.out t
            have hg : t ∈ gapL → t.raw < 256 := fun h => by simp [gapL] at h; subst h; decide
            have hf : t ∈ fullL → t.raw < 256 := fun h => by simp [fullL] at h; rcases h with h | h | h | h | h <;> (subst h; decide)
            rcases ht with (h | h) | h <;> first | exact hB h | exact hg h | exact hC h)
          have HlB := Lib.hid (show LB.length ≤ 100 by have h3 : gapL.length = 3 := rfl; have h5 : fullL.length = 5 := rfl; rw [hLB]; simp only [List.length_append]; omega)
          have HLB := Lib.hid hLB
          clear hLB
          obtain ⟨LC, hLC⟩ : ∃ LC, LC = A ++ fullL := ⟨_, rfl⟩
          have HRaC := Lib.hid (show ∀ t ∈ LC, t.raw < 256 from fun t ht => by
            rw [hLC] at ht
            simp only [List.mem_append] at ht
            have hA := HRA.out t
            have hB := HRB.out t
            have hC := HRC.out t
            have hg : t ∈ gapL → t.raw < 256 := fun h => by simp [gapL] at h; subst h; decide
            have hf : t ∈ fullL → t.raw < 256 := fun h => by simp [fullL] at h; rcases h with h | h | h | h | h <;> (subst h; decide)
            rcases ht with h | h <;> first | exact hA h | exact hf h)
          have HlC := Lib.hid (show LC.length ≤ 100 by have h3 : gapL.length = 3 := rfl; have h5 : fullL.length = 5 := rfl; rw [hLC]; simp only [List.length_append]; omega)
          have HLC := Lib.hid hLC
          clear hLC
          obtain ⟨LD, hLD⟩ : ∃ LD, LD = B ++ fullL := ⟨_, rfl⟩
          have HRaD := Lib.hid (show ∀ t ∈ LD, t.raw < 256 from fun t ht => by
            rw [hLD] at ht
            simp only [List.mem_append] at ht
            have hA := HRA.out t
            have hB := HRB.out t
            have hC := HRC.out t
            have hg : t ∈ gapL → t.raw < 256 := fun h => by simp [gapL] at h; subst h; decide
            have hf : t ∈ fullL → t.raw < 256 := fun h => by simp [fullL] at h; rcases h with h | h | h | h | h <;> (subst h; decide)
            rcases ht with h | h <;> first | exact hB h | exact hf h)
          have HlD := Lib.hid (show LD.length ≤ 100 by have h3 : gapL.length = 3 := rfl; have h5 : fullL.length = 5 := rfl; rw [hLD]; simp only [List.length_append]; omega)
          have HLD := Lib.hid hLD
          clear hLD
          obtain ⟨LE, hLE⟩ : ∃ LE, LE = A ++ gapL := ⟨_, rfl⟩
          have HRaE := Lib.hid (show ∀ t ∈ LE, t.raw < 256 from fun t ht => by
            rw [hLE] at ht
            simp only [List.mem_append] at ht
            have hA := HRA.out t
            have hB := HRB.out t
            have hC := HRC.out t
            have hg : t ∈ gapL → t.raw < 256 := fun h => by simp [gapL] at h; subst h; decide
            have hf : t ∈ fullL → t.raw < 256 := fun h => by simp [fullL] at h; rcases h with h | h | h | h | h <;> (subst h; decide)
            rcases ht with h | h <;> first | exact hA h | exact hg h)
          have HlE := Lib.hid (show LE.length ≤ 100 by have h3 : gapL.length = 3 := rfl; have h5 : fullL.length = 5 := rfl; rw [hLE]; simp only [List.length_append]; omega)
          have HLE := Lib.hid hLE
          clear hLE
          have HFO := Lib.hid (fun LX (h : ∀ t ∈ LX, t.raw < 256) => show fltB S P (runF S.samples LX).1 (runF S.samples LX).2 = true ∧ Bytes (runF S.samples LX).1 from by
            have := runF_ok HVS.out h LX.length
            rwa [List.take_length] at this)
          have HEB := Lib.hid (show runF S.samples LB = runF S.samples LA by rw [HLA.out, HLB.out]; exact runF_rest _ _ _ _)
          have HEC := Lib.hid (show runF S.samples LC = (([1, 2, 3, 4, 5] : List Int).drop (5 - kk), 0) by rw [HLC.out, HKK.out]; exact runF_full hk5 _)
          have HED := Lib.hid (show runF S.samples LD = (([1, 2, 3, 4, 5] : List Int).drop (5 - kk), 0) by rw [HLD.out, HKK.out]; exact runF_full hk5 _)
          have HEE := Lib.hid (show runF S.samples LE = ([], 3) by rw [HLE.out]; exact runF_gap _ _)
          have HFE := Lib.hid (HFO.out LE HRaE.out)
          have HFC := Lib.hid (HFO.out LC HRaC.out)
          rw [HEE.out] at HFE
          rw [HEC.out] at HFC
          clear HFO
          try dsimp only [Act.put]
          refine wp_cutT (fun T a' w' => ∃ (x1 x2 x3 win : Value) (g : Nat), a' = ⟨(((((((((((((T.setIfInBounds 55 (.agg S.cells)).setIfInBounds 56 (.slice a1 A.length c1)).setIfInBounds 57 x1).setIfInBounds 58 (.slice (some ⟨gl, 0, none⟩) 3 3)).setIfInBounds 59 x2).setIfInBounds 60 (.slice a3 C.length c3)).setIfInBounds 61 x3).setIfInBounds 62 (.tuple #[.agg #[win, .int .i64 (runF S.samples (LA)).2], .bool true])).setIfInBounds 54 (.tuple #[.agg #[win, .int .i64 (runF S.samples (LA)).2], .bool true])).setIfInBounds 63 (.agg #[win, .int .i64 (runF S.samples (LA)).2])).setIfInBounds 64 (.bool true)).setIfInBounds 11 (.pointer (some ⟨g, 0, none⟩))).setIfInBounds 12 (.bool true)), []⟩ ∧ Mods [] w5 w' ∧ w'.heap[g]? = some (.cells (fltC win (runF S.samples (LA)).2) 90 (0, 0)) ∧ Rd w' win (u8s (runF S.samples (LA)).1)) ?_ ?_
          · refine heldStart (S := fun W => Mods [] w5 W) 14 rfl (by kernel_rfl) Mods.refl.drew (fun hHeld => ?_)
            refine takeD (i := 0) (d := 55) (v := .agg S.cells) rfl rfl (by kernel_rfl) (by kernel_rfl) (by kernel_rfl) (fun _ _ _ h => h) (yieldsIf_load_row rfl 32 (.tmp 9) rfl gs rfl 32 S.cells (0, 0) _ (fun _ h=>h.heap HB5.out (by simp)) Try.underlying32 rfl S.infoS) hHeld ?_
            simp only [List.setIfInBounds_toArray, List.set_cons_zero, List.set_cons_succ]
            refine takeD (i := 1) (d := 56) (v := ?_) rfl rfl (by kernel_rfl) (by kernel_rfl) (by kernel_rfl) (fun _ _ _ h => h) (Or.inl ⟨by rfl, ?_⟩) hHeld ?_
            rotate_left 1
            · (intro w hSw; (try dsimp only at hSw); go_simp; (try with_reducible rfl))
            simp only [List.setIfInBounds_toArray, List.set_cons_zero, List.set_cons_succ]
            refine takeD (i := 3) (d := 58) (v := ?_) rfl rfl (by kernel_rfl) (by kernel_rfl) (by kernel_rfl) (fun _ _ _ h => h) (Or.inl ⟨by rfl, ?_⟩) hHeld ?_
            rotate_left 1
            · (intro w hSw; (try dsimp only at hSw); go_simp; (try with_reducible rfl))
            simp only [List.setIfInBounds_toArray, List.set_cons_zero, List.set_cons_succ]
            refine takeD (i := 5) (d := 60) (v := ?_) rfl rfl (by kernel_rfl) (by kernel_rfl) (by kernel_rfl) (fun _ _ _ h => h) (Or.inl ⟨by rfl, ?_⟩) hHeld ?_
            rotate_left 1
            · (intro w hSw; (try dsimp only at hSw); go_simp; (try with_reducible rfl))
            simp only [List.setIfInBounds_toArray, List.set_cons_zero, List.set_cons_succ]
            refine (both_step (T := 90) (z := fltC (.slice none 0 0) 0) (iA := 11) (dA := 11) (df := []) (B := w5.heap.size) rfl rfl rfl (fun _ _ => rfl) hHeld.size (i := 2) (d := 57) rfl (by decide) (by decide) (by kernel_rfl) (by kernel_rfl) (fun W M => hHeld.trans M) (J := fun u W => OwnE tkE W w5.heap.size u (A) ∧ Mods [] w5 W) (fun _ _ h => h.2) ?_ ?_).1
            · intro W t' M ht K F hK
              have MW := (show Mods [] w5 _ from hHeld).trans M
              rcases ht with rfl | ⟨x, rfl⟩
              all_goals
                refine step_appE (a := ⟨_, []⟩) tkE_ok (by rfl) 57 rfl (.const (.slice none 0 0)) (.tmp 56) rfl (by rfl) (OwnE.nil tkE W w5.heap.size) (by rfl) ((HA.out.e.mods0 tkE_ok HX5.out).mods0 tkE_ok MW) (by simp; omega) MW.size (fun u W' O M' => ?_)
                exact hK u W' ⟨by rw [List.nil_append] at O; exact O, MW.comp M' (fun q hq => by simp [Value.ownBlock] at hq)⟩ (fun g hg => M'.heap hg (by simp [Value.ownBlock]))
            intro x1 W1 hJ1
            replace hHeld := hJ1.2
            refine (both_step (T := 90) (z := fltC (.slice none 0 0) 0) (iA := 11) (dA := 11) (df := []) (B := w5.heap.size) rfl rfl rfl (fun _ _ => rfl) hHeld.size (i := 4) (d := 59) rfl (by decide) (by decide) (by kernel_rfl) (by kernel_rfl) (fun W M => hHeld.trans M) (J := fun u W => OwnE tkE W w5.heap.size u (A ++ gapL) ∧ Mods [] w5 W) (fun _ _ h => h.2) ?_ ?_)
            · intro W t' M ht K F hK
              have MW := (show Mods [] w5 _ from hHeld).trans M
              rcases ht with rfl | ⟨x, rfl⟩
              all_goals
                refine step_appE (a := ⟨_, []⟩) tkE_ok (by rfl) 59 rfl (.tmp 57) (.tmp 58) rfl (by rfl) (hJ1.1.mods0 M) (by rfl) (HG5.out.mods0 tkE_ok MW) (by have h3 : gapL.length = 3 := rfl; have h5 : fullL.length = 5 := rfl; (try simp only [List.length_append]); omega) MW.size (fun u W' O M' => ?_)
                exact hK u W' ⟨O, MW.comp M' (fun q hq => .inr ((hJ1.1.mods0 M).back hq))⟩ (fun g hg => M'.heap hg ((hJ1.1.mods0 M).apart hg (by decide)))
            intro x2 W2 hJ2
            replace hHeld := hJ2.2
            refine (both_step (T := 90) (z := fltC (.slice none 0 0) 0) (iA := 11) (dA := 11) (df := []) (B := w5.heap.size) rfl rfl rfl (fun _ _ => rfl) hHeld.size (i := 6) (d := 61) rfl (by decide) (by decide) (by kernel_rfl) (by kernel_rfl) (fun W M => hHeld.trans M) (J := fun u W => OwnE tkE W w5.heap.size u (LA) ∧ Mods [] w5 W) (fun _ _ h => h.2) ?_ ?_)
            · intro W t' M ht K F hK
              have MW := (show Mods [] w5 _ from hHeld).trans M
              rcases ht with rfl | ⟨x, rfl⟩
              all_goals
                refine step_appE (a := ⟨_, []⟩) tkE_ok (by rfl) 61 rfl (.tmp 59) (.tmp 60) rfl (by rfl) (hJ2.1.mods0 M) (by rfl) ((HC.out.e.mods0 tkE_ok HX5.out).mods0 tkE_ok MW) (by have h3 : gapL.length = 3 := rfl; have h5 : fullL.length = 5 := rfl; (try simp only [List.length_append]); omega) MW.size (fun u W' O M' => ?_)
                exact hK u W' ⟨by rw [HLA.out]; exact O, MW.comp M' (fun q hq => .inr ((hJ2.1.mods0 M).back hq))⟩ (fun g hg => M'.heap hg ((hJ2.1.mods0 M).apart hg (by decide)))
            intro x3 W3 hJ3
            replace hHeld := hJ3.2
            refine both_step (T := 90) (z := fltC (.slice none 0 0) 0) (iA := 11) (dA := 11) (df := []) (B := w5.heap.size) rfl rfl rfl (fun _ _ => rfl) hHeld.size (i := 7) (d := 62) rfl (by decide) (by decide) (by kernel_rfl) (by kernel_rfl) (fun W M => hHeld.trans M) (J := fun u W => ∃ win, u = (.tuple #[.agg #[win, .int .i64 (runF S.samples (LA)).2], .bool true]) ∧ Rd W win (u8s (runF S.samples (LA)).1) ∧ Mods [] w5 W) (fun _ _ h => by obtain ⟨_, _, _, h⟩ := h; exact h) ?_ ?_
            · intro W t' M ht K F hK
              have MW := (show Mods [] w5 _ from hHeld).trans M
              have HCL := Lib.hid (run14_ok W S P x3 (LA) (HIS5.out.mods0 MW) HVS.out ((hJ3.1.mods0 M).rd tkE_ok).tk HRaA.out (by (have := HlA.out; omega)))
              rcases ht with rfl | ⟨x, rfl⟩
              all_goals
                go_simp
                go_wp2_with (go_at_call 72; refine HCL.out.mono ?_; rintro e W' ⟨win, rfl, hr, -, M'⟩)
                exact hK _ W' ⟨win, rfl, hr, MW.trans M'⟩ (fun g hg => M'.heap hg (by simp))
            intro u Wr hu
            obtain ⟨win, rfl, hrd, hHeld⟩ := hu
            have hwin := hrd.one
            refine ⟨?_, fun g hgb hg => ?_⟩
            · try dsimp only
              refine takeD (i := 8) (d := 54) (v := ?_) rfl rfl (by kernel_rfl) (by kernel_rfl) (by kernel_rfl) (fun _ _ _ h => h) (Or.inl ⟨by rfl, ?_⟩) hHeld ?_
              rotate_left 1
              · (intro w hSw; (try dsimp only at hSw); go_simp; (try with_reducible rfl))
              simp only [List.setIfInBounds_toArray, List.set_cons_zero, List.set_cons_succ]
              refine takeD (i := 9) (d := 63) (v := ?_) rfl rfl (by kernel_rfl) (by kernel_rfl) (by kernel_rfl) (fun _ _ _ h => h) (Or.inl ⟨by rfl, ?_⟩) hHeld ?_
              rotate_left 1
              · (intro w hSw; (try dsimp only at hSw); go_simp; (try with_reducible rfl))
              simp only [List.setIfInBounds_toArray, List.set_cons_zero, List.set_cons_succ]
              refine takeD (i := 10) (d := 64) (v := ?_) rfl rfl (by kernel_rfl) (by kernel_rfl) (by kernel_rfl) (fun _ _ _ h => h) (Or.inl ⟨by rfl, ?_⟩) hHeld ?_
              rotate_left 1
              · (intro w hSw; (try dsimp only at hSw); go_simp; (try with_reducible rfl))
              simp only [List.setIfInBounds_toArray, List.set_cons_zero, List.set_cons_succ]
              refine wpAnyH_ready (rs := [11]) (by kernel_rfl) (by simp) ?_
              refine AllReadyH.cons rfl (fun K hK => ?_) AllReadyH.nil
              refine exec_alloc (c := fltC (.slice none 0 0) 0) (T := 90) rfl rfl (fun _ _ => rfl) ?_
              have HMr := (show Mods [] w5 Wr from hHeld)
              refine hK.out _ _ (HMr.alloc _) (fun hHeld => ?_)
              clear hK K
              simp only [List.setIfInBounds_toArray, List.set_cons_zero, List.set_cons_succ]
              have hg := heap_alloc_new Wr (.cells (fltC (.slice none 0 0) 0) 90)
              have hrd := hrd.mods0 ((Mods.refl (S := []) (w := Wr)).alloc (.cells (fltC (.slice none 0 0) 0) 90))
              have hgb : w5.heap.size ≤ Wr.heap.size := HMr.size
              generalize Wr.heap.size = g at hg hgb ⊢
              generalize Wr.alloc (.cells (fltC (.slice none 0 0) 0) 90) = Wr at hg hrd hHeld ⊢
              refine wpAnyH_ready (rs := [12]) (by kernel_rfl) (by simp) ?_
              refine AllReadyH.cons rfl (fun K hK => ?_) AllReadyH.nil
              refine exec_store (cs := fltC win (runF S.samples (LA)).2) rfl rfl rfl hg (by rfl) (by rfl) (by rfl) Try.infoFl (fltC_one _ hwin) (fun Wz Rz Mz => ?_)
              have HMz := (show Mods [] w5 Wr from hHeld).comp Mz (fun q hq => by simp at hq; subst hq; exact .inr hgb)
              refine hK.out _ _ HMz (fun hHeld => ?_)
              clear hK K
              refine takeD (i := 13) (d := 12) (v := ?_) rfl rfl (by kernel_rfl) (by kernel_rfl) (by kernel_rfl) (fun _ _ _ h => h) (Or.inl ⟨by rfl, ?_⟩) hHeld ?_
              rotate_left 1
              · (intro w hSw; (try dsimp only at hSw); go_simp; (try with_reducible rfl))
              simp only [List.setIfInBounds_toArray, List.set_cons_zero, List.set_cons_succ]
              refine wpAnyH_done (by kernel_rfl) ?_ _
              refine ⟨x1, x2, x3, win, g, by rfl, HMz, Rz, ?_⟩
              exact hrd.mods Mz (fun hne q hq hm => by simp at hm; exact rd_apart hrd (fun h => hne (by rw [h]; rfl)) hg (fun y h => by cases h) q hq hm)
            · try dsimp only
              refine takeD (i := 8) (d := 54) (v := ?_) rfl rfl (by kernel_rfl) (by kernel_rfl) (by kernel_rfl) (fun _ _ _ h => h) (Or.inl ⟨by rfl, ?_⟩) hHeld ?_
              rotate_left 1
              · (intro w hSw; (try dsimp only at hSw); go_simp; (try with_reducible rfl))
              simp only [List.setIfInBounds_toArray, List.set_cons_zero, List.set_cons_succ]
              refine takeD (i := 9) (d := 63) (v := ?_) rfl rfl (by kernel_rfl) (by kernel_rfl) (by kernel_rfl) (fun _ _ _ h => h) (Or.inl ⟨by rfl, ?_⟩) hHeld ?_
              rotate_left 1
              · (intro w hSw; (try dsimp only at hSw); go_simp; (try with_reducible rfl))
              simp only [List.setIfInBounds_toArray, List.set_cons_zero, List.set_cons_succ]
              refine takeD (i := 10) (d := 64) (v := ?_) rfl rfl (by kernel_rfl) (by kernel_rfl) (by kernel_rfl) (fun _ _ _ h => h) (Or.inl ⟨by rfl, ?_⟩) hHeld ?_
              rotate_left 1
              · (intro w hSw; (try dsimp only at hSw); go_simp; (try with_reducible rfl))
              simp only [List.setIfInBounds_toArray, List.set_cons_zero, List.set_cons_succ]
              refine wpAnyH_ready (rs := [12]) (by kernel_rfl) (by simp) ?_
              refine AllReadyH.cons rfl (fun K hK => ?_) AllReadyH.nil
              refine exec_store (cs := fltC win (runF S.samples (LA)).2) rfl rfl rfl hg (by rfl) (by rfl) (by rfl) Try.infoFl (fltC_one _ hwin) (fun Wz Rz Mz => ?_)
              have HMz := (show Mods [] w5 Wr from hHeld).comp Mz (fun q hq => by simp at hq; subst hq; exact .inr hgb)
              refine hK.out _ _ HMz (fun hHeld => ?_)
              clear hK K
              refine takeD (i := 13) (d := 12) (v := ?_) rfl rfl (by kernel_rfl) (by kernel_rfl) (by kernel_rfl) (fun _ _ _ h => h) (Or.inl ⟨by rfl, ?_⟩) hHeld ?_
              rotate_left 1
              · (intro w hSw; (try dsimp only at hSw); go_simp; (try with_reducible rfl))
              simp only [List.setIfInBounds_toArray, List.set_cons_zero, List.set_cons_succ]
              refine wpAnyH_done (by kernel_rfl) ?_ _
              refine ⟨x1, x2, x3, win, g, by rfl, HMz, Rz, ?_⟩
              exact hrd.mods Mz (fun hne q hq hm => by simp at hm; exact rd_apart hrd (fun h => hne (by rw [h]; rfl)) hg (fun y h => by cases h) q hq hm)
          · rintro a' w6 ⟨_, _, _, ua, ga, rfl, MrgA, GrgA, RrgA⟩
            simp only [List.setIfInBounds_toArray, List.set_cons_zero, List.set_cons_succ]
            have HX6 := Lib.hid (HX5.out.trans MrgA)
            have HB6 := Lib.hid (MrgA.heap HB5.out (by simp))
            have HIS6 := Lib.hid (HIS5.out.mods0 MrgA)
            have HG6 := Lib.hid (HG5.out.mods0 tkE_ok MrgA)
            have HGA := Lib.hid GrgA
            have HRdA := Lib.hid RrgA
            clear HX5 HB5 HIS5 HG5 MrgA GrgA RrgA
            go_wp2_with fail
            try dsimp only [Act.put]
            refine wp_cutT (fun T a' w' => ∃ (x1 x2 x3 win : Value) (g : Nat), a' = ⟨(((((((((((((T.setIfInBounds 66 (.agg S.cells)).setIfInBounds 67 (.slice a2 B.length c2)).setIfInBounds 68 x1).setIfInBounds 69 (.slice (some ⟨gl, 0, none⟩) 3 3)).setIfInBounds 70 x2).setIfInBounds 71 (.slice a3 C.length c3)).setIfInBounds 72 x3).setIfInBounds 73 (.tuple #[.agg #[win, .int .i64 (runF S.samples (LB)).2], .bool true])).setIfInBounds 65 (.tuple #[.agg #[win, .int .i64 (runF S.samples (LB)).2], .bool true])).setIfInBounds 74 (.agg #[win, .int .i64 (runF S.samples (LB)).2])).setIfInBounds 75 (.bool true)).setIfInBounds 13 (.pointer (some ⟨g, 0, none⟩))).setIfInBounds 14 (.bool true)), []⟩ ∧ Mods [] w6 w' ∧ w'.heap[g]? = some (.cells (fltC win (runF S.samples (LB)).2) 90 (0, 0)) ∧ Rd w' win (u8s (runF S.samples (LB)).1)) ?_ ?_
            · refine heldStart (S := fun W => Mods [] w6 W) 14 rfl (by kernel_rfl) Mods.refl.drew (fun hHeld => ?_)
              refine takeD (i := 0) (d := 66) (v := .agg S.cells) rfl rfl (by kernel_rfl) (by kernel_rfl) (by kernel_rfl) (fun _ _ _ h => h) (yieldsIf_load_row rfl 32 (.tmp 9) rfl gs rfl 32 S.cells (0, 0) _ (fun _ h=>h.heap HB6.out (by simp)) Try.underlying32 rfl S.infoS) hHeld ?_
              simp only [List.setIfInBounds_toArray, List.set_cons_zero, List.set_cons_succ]
              refine takeD (i := 1) (d := 67) (v := ?_) rfl rfl (by kernel_rfl) (by kernel_rfl) (by kernel_rfl) (fun _ _ _ h => h) (Or.inl ⟨by rfl, ?_⟩) hHeld ?_
              rotate_left 1
              · (intro w hSw; (try dsimp only at hSw); go_simp; (try with_reducible rfl))
              simp only [List.setIfInBounds_toArray, List.set_cons_zero, List.set_cons_succ]
              refine takeD (i := 3) (d := 69) (v := ?_) rfl rfl (by kernel_rfl) (by kernel_rfl) (by kernel_rfl) (fun _ _ _ h => h) (Or.inl ⟨by rfl, ?_⟩) hHeld ?_
              rotate_left 1
              · (intro w hSw; (try dsimp only at hSw); go_simp; (try with_reducible rfl))
              simp only [List.setIfInBounds_toArray, List.set_cons_zero, List.set_cons_succ]
              refine takeD (i := 5) (d := 71) (v := ?_) rfl rfl (by kernel_rfl) (by kernel_rfl) (by kernel_rfl) (fun _ _ _ h => h) (Or.inl ⟨by rfl, ?_⟩) hHeld ?_
              rotate_left 1
              · (intro w hSw; (try dsimp only at hSw); go_simp; (try with_reducible rfl))
              simp only [List.setIfInBounds_toArray, List.set_cons_zero, List.set_cons_succ]
              refine (both_step (T := 90) (z := fltC (.slice none 0 0) 0) (iA := 11) (dA := 13) (df := []) (B := w6.heap.size) rfl rfl rfl (fun _ _ => rfl) hHeld.size (i := 2) (d := 68) rfl (by decide) (by decide) (by kernel_rfl) (by kernel_rfl) (fun W M => hHeld.trans M) (J := fun u W => OwnE tkE W w6.heap.size u (B) ∧ Mods [] w6 W) (fun _ _ h => h.2) ?_ ?_).1
              · intro W t' M ht K F hK
                have MW := (show Mods [] w6 _ from hHeld).trans M
                rcases ht with rfl | ⟨x, rfl⟩
                all_goals
                  refine step_appE (a := ⟨_, []⟩) tkE_ok (by rfl) 68 rfl (.const (.slice none 0 0)) (.tmp 67) rfl (by rfl) (OwnE.nil tkE W w6.heap.size) (by rfl) ((HB2.out.e.mods0 tkE_ok HX6.out).mods0 tkE_ok MW) (by simp; omega) MW.size (fun u W' O M' => ?_)
                  exact hK u W' ⟨by rw [List.nil_append] at O; exact O, MW.comp M' (fun q hq => by simp [Value.ownBlock] at hq)⟩ (fun g hg => M'.heap hg (by simp [Value.ownBlock]))
              intro x1 W1 hJ1
              replace hHeld := hJ1.2
              refine (both_step (T := 90) (z := fltC (.slice none 0 0) 0) (iA := 11) (dA := 13) (df := []) (B := w6.heap.size) rfl rfl rfl (fun _ _ => rfl) hHeld.size (i := 4) (d := 70) rfl (by decide) (by decide) (by kernel_rfl) (by kernel_rfl) (fun W M => hHeld.trans M) (J := fun u W => OwnE tkE W w6.heap.size u (B ++ gapL) ∧ Mods [] w6 W) (fun _ _ h => h.2) ?_ ?_)
              · intro W t' M ht K F hK
                have MW := (show Mods [] w6 _ from hHeld).trans M
                rcases ht with rfl | ⟨x, rfl⟩
                all_goals
                  refine step_appE (a := ⟨_, []⟩) tkE_ok (by rfl) 70 rfl (.tmp 68) (.tmp 69) rfl (by rfl) (hJ1.1.mods0 M) (by rfl) (HG6.out.mods0 tkE_ok MW) (by have h3 : gapL.length = 3 := rfl; have h5 : fullL.length = 5 := rfl; (try simp only [List.length_append]); omega) MW.size (fun u W' O M' => ?_)
                  exact hK u W' ⟨O, MW.comp M' (fun q hq => .inr ((hJ1.1.mods0 M).back hq))⟩ (fun g hg => M'.heap hg ((hJ1.1.mods0 M).apart hg (by decide)))
              intro x2 W2 hJ2
              replace hHeld := hJ2.2
              refine (both_step (T := 90) (z := fltC (.slice none 0 0) 0) (iA := 11) (dA := 13) (df := []) (B := w6.heap.size) rfl rfl rfl (fun _ _ => rfl) hHeld.size (i := 6) (d := 72) rfl (by decide) (by decide) (by kernel_rfl) (by kernel_rfl) (fun W M => hHeld.trans M) (J := fun u W => OwnE tkE W w6.heap.size u (LB) ∧ Mods [] w6 W) (fun _ _ h => h.2) ?_ ?_)
              · intro W t' M ht K F hK
                have MW := (show Mods [] w6 _ from hHeld).trans M
                rcases ht with rfl | ⟨x, rfl⟩
                all_goals
                  refine step_appE (a := ⟨_, []⟩) tkE_ok (by rfl) 72 rfl (.tmp 70) (.tmp 71) rfl (by rfl) (hJ2.1.mods0 M) (by rfl) ((HC.out.e.mods0 tkE_ok HX6.out).mods0 tkE_ok MW) (by have h3 : gapL.length = 3 := rfl; have h5 : fullL.length = 5 := rfl; (try simp only [List.length_append]); omega) MW.size (fun u W' O M' => ?_)
                  exact hK u W' ⟨by rw [HLB.out]; exact O, MW.comp M' (fun q hq => .inr ((hJ2.1.mods0 M).back hq))⟩ (fun g hg => M'.heap hg ((hJ2.1.mods0 M).apart hg (by decide)))
              intro x3 W3 hJ3
              replace hHeld := hJ3.2
              refine both_step (T := 90) (z := fltC (.slice none 0 0) 0) (iA := 11) (dA := 13) (df := []) (B := w6.heap.size) rfl rfl rfl (fun _ _ => rfl) hHeld.size (i := 7) (d := 73) rfl (by decide) (by decide) (by kernel_rfl) (by kernel_rfl) (fun W M => hHeld.trans M) (J := fun u W => ∃ win, u = (.tuple #[.agg #[win, .int .i64 (runF S.samples (LB)).2], .bool true]) ∧ Rd W win (u8s (runF S.samples (LB)).1) ∧ Mods [] w6 W) (fun _ _ h => by obtain ⟨_, _, _, h⟩ := h; exact h) ?_ ?_
              · intro W t' M ht K F hK
                have MW := (show Mods [] w6 _ from hHeld).trans M
                have HCL := Lib.hid (run14_ok W S P x3 (LB) (HIS6.out.mods0 MW) HVS.out ((hJ3.1.mods0 M).rd tkE_ok).tk HRaB.out (by (have := HlB.out; omega)))
                rcases ht with rfl | ⟨x, rfl⟩
                all_goals
                  go_simp
                  go_wp2_with (go_at_call 72; refine HCL.out.mono ?_; rintro e W' ⟨win, rfl, hr, -, M'⟩)
                  exact hK _ W' ⟨win, rfl, hr, MW.trans M'⟩ (fun g hg => M'.heap hg (by simp))
              intro u Wr hu
              obtain ⟨win, rfl, hrd, hHeld⟩ := hu
              have hwin := hrd.one
              refine ⟨?_, fun g hgb hg => ?_⟩
              · try dsimp only
                refine takeD (i := 8) (d := 65) (v := ?_) rfl rfl (by kernel_rfl) (by kernel_rfl) (by kernel_rfl) (fun _ _ _ h => h) (Or.inl ⟨by rfl, ?_⟩) hHeld ?_
                rotate_left 1
                · (intro w hSw; (try dsimp only at hSw); go_simp; (try with_reducible rfl))
                simp only [List.setIfInBounds_toArray, List.set_cons_zero, List.set_cons_succ]
                refine takeD (i := 9) (d := 74) (v := ?_) rfl rfl (by kernel_rfl) (by kernel_rfl) (by kernel_rfl) (fun _ _ _ h => h) (Or.inl ⟨by rfl, ?_⟩) hHeld ?_
                rotate_left 1
                · (intro w hSw; (try dsimp only at hSw); go_simp; (try with_reducible rfl))
                simp only [List.setIfInBounds_toArray, List.set_cons_zero, List.set_cons_succ]
                refine takeD (i := 10) (d := 75) (v := ?_) rfl rfl (by kernel_rfl) (by kernel_rfl) (by kernel_rfl) (fun _ _ _ h => h) (Or.inl ⟨by rfl, ?_⟩) hHeld ?_
                rotate_left 1
                · (intro w hSw; (try dsimp only at hSw); go_simp; (try with_reducible rfl))
                simp only [List.setIfInBounds_toArray, List.set_cons_zero, List.set_cons_succ]
                refine wpAnyH_ready (rs := [11]) (by kernel_rfl) (by simp) ?_
                refine AllReadyH.cons rfl (fun K hK => ?_) AllReadyH.nil
                refine exec_alloc (c := fltC (.slice none 0 0) 0) (T := 90) rfl rfl (fun _ _ => rfl) ?_
                have HMr := (show Mods [] w6 Wr from hHeld)
                refine hK.out _ _ (HMr.alloc _) (fun hHeld => ?_)
                clear hK K
                simp only [List.setIfInBounds_toArray, List.set_cons_zero, List.set_cons_succ]
                have hg := heap_alloc_new Wr (.cells (fltC (.slice none 0 0) 0) 90)
                have hrd := hrd.mods0 ((Mods.refl (S := []) (w := Wr)).alloc (.cells (fltC (.slice none 0 0) 0) 90))
                have hgb : w6.heap.size ≤ Wr.heap.size := HMr.size
                generalize Wr.heap.size = g at hg hgb ⊢
                generalize Wr.alloc (.cells (fltC (.slice none 0 0) 0) 90) = Wr at hg hrd hHeld ⊢
                refine wpAnyH_ready (rs := [12]) (by kernel_rfl) (by simp) ?_
                refine AllReadyH.cons rfl (fun K hK => ?_) AllReadyH.nil
                refine exec_store (cs := fltC win (runF S.samples (LB)).2) rfl rfl rfl hg (by rfl) (by rfl) (by rfl) Try.infoFl (fltC_one _ hwin) (fun Wz Rz Mz => ?_)
                have HMz := (show Mods [] w6 Wr from hHeld).comp Mz (fun q hq => by simp at hq; subst hq; exact .inr hgb)
                refine hK.out _ _ HMz (fun hHeld => ?_)
                clear hK K
                refine takeD (i := 13) (d := 14) (v := ?_) rfl rfl (by kernel_rfl) (by kernel_rfl) (by kernel_rfl) (fun _ _ _ h => h) (Or.inl ⟨by rfl, ?_⟩) hHeld ?_
                rotate_left 1
                · (intro w hSw; (try dsimp only at hSw); go_simp; (try with_reducible rfl))
                simp only [List.setIfInBounds_toArray, List.set_cons_zero, List.set_cons_succ]
                refine wpAnyH_done (by kernel_rfl) ?_ _
                refine ⟨x1, x2, x3, win, g, by rfl, HMz, Rz, ?_⟩
                exact hrd.mods Mz (fun hne q hq hm => by simp at hm; exact rd_apart hrd (fun h => hne (by rw [h]; rfl)) hg (fun y h => by cases h) q hq hm)
              · try dsimp only
                refine takeD (i := 8) (d := 65) (v := ?_) rfl rfl (by kernel_rfl) (by kernel_rfl) (by kernel_rfl) (fun _ _ _ h => h) (Or.inl ⟨by rfl, ?_⟩) hHeld ?_
                rotate_left 1
                · (intro w hSw; (try dsimp only at hSw); go_simp; (try with_reducible rfl))
                simp only [List.setIfInBounds_toArray, List.set_cons_zero, List.set_cons_succ]
                refine takeD (i := 9) (d := 74) (v := ?_) rfl rfl (by kernel_rfl) (by kernel_rfl) (by kernel_rfl) (fun _ _ _ h => h) (Or.inl ⟨by rfl, ?_⟩) hHeld ?_
                rotate_left 1
                · (intro w hSw; (try dsimp only at hSw); go_simp; (try with_reducible rfl))
                simp only [List.setIfInBounds_toArray, List.set_cons_zero, List.set_cons_succ]
                refine takeD (i := 10) (d := 75) (v := ?_) rfl rfl (by kernel_rfl) (by kernel_rfl) (by kernel_rfl) (fun _ _ _ h => h) (Or.inl ⟨by rfl, ?_⟩) hHeld ?_
                rotate_left 1
                · (intro w hSw; (try dsimp only at hSw); go_simp; (try with_reducible rfl))
                simp only [List.setIfInBounds_toArray, List.set_cons_zero, List.set_cons_succ]
                refine wpAnyH_ready (rs := [12]) (by kernel_rfl) (by simp) ?_
                refine AllReadyH.cons rfl (fun K hK => ?_) AllReadyH.nil
                refine exec_store (cs := fltC win (runF S.samples (LB)).2) rfl rfl rfl hg (by rfl) (by rfl) (by rfl) Try.infoFl (fltC_one _ hwin) (fun Wz Rz Mz => ?_)
                have HMz := (show Mods [] w6 Wr from hHeld).comp Mz (fun q hq => by simp at hq; subst hq; exact .inr hgb)
                refine hK.out _ _ HMz (fun hHeld => ?_)
                clear hK K
                refine takeD (i := 13) (d := 14) (v := ?_) rfl rfl (by kernel_rfl) (by kernel_rfl) (by kernel_rfl) (fun _ _ _ h => h) (Or.inl ⟨by rfl, ?_⟩) hHeld ?_
                rotate_left 1
                · (intro w hSw; (try dsimp only at hSw); go_simp; (try with_reducible rfl))
                simp only [List.setIfInBounds_toArray, List.set_cons_zero, List.set_cons_succ]
                refine wpAnyH_done (by kernel_rfl) ?_ _
                refine ⟨x1, x2, x3, win, g, by rfl, HMz, Rz, ?_⟩
                exact hrd.mods Mz (fun hne q hq hm => by simp at hm; exact rd_apart hrd (fun h => hne (by rw [h]; rfl)) hg (fun y h => by cases h) q hq hm)
            · rintro a' w7 ⟨_, _, _, ub, gb, rfl, MrgB, GrgB, RrgB⟩
              simp only [List.setIfInBounds_toArray, List.set_cons_zero, List.set_cons_succ]
              rw [HEB.out] at GrgB RrgB
              have HX7 := Lib.hid (HX6.out.trans MrgB)
              have HB7 := Lib.hid (MrgB.heap HB6.out (by simp))
              have HIS7 := Lib.hid (HIS6.out.mods0 MrgB)
              have HG7 := Lib.hid (HG6.out.mods0 tkE_ok MrgB)
              have HGA7 := Lib.hid (MrgB.heap HGA.out (by simp))
              have HRdA7 := Lib.hid (HRdA.out.mods0 MrgB)
              have HGB7 := Lib.hid GrgB
              have HRdB7 := Lib.hid RrgB
              clear HX6 HB6 HIS6 HG6 MrgB GrgB RrgB HGA HRdA
              have hPA : Hid (∃ W n, runF S.samples LA = (W, n)) := Lib.hid ⟨_, _, rfl⟩
              obtain ⟨WA, nA, hWA⟩ := hPA.out
              rw [hWA] at HGA7 HRdA7 HGB7 HRdB7
              clear hWA hPA
              go_wp2_with fail
              have ML := (Mods.refl (S := []) (w := w7)).alloc (.cells #[.int .u8 1, .bool false, .int .u8 2, .bool false, .int .u8 3, .bool false, .int .u8 4, .bool false, .int .u8 5, .bool false] 103)
              have HU8 : Hid (RdE tkE (w7.alloc (.cells #[.int .u8 1, .bool false, .int .u8 2, .bool false, .int .u8 3, .bool false, .int .u8 4, .bool false, .int .u8 5, .bool false] 103)) (.slice (some ⟨w7.heap.size, 0, none⟩) 5 5) fullL) := Lib.hid ((OwnE.lit tkE_ok w7 (Nat.le_refl _) fullL (by unfold maxLen; decide)).rd tkE_ok)
              have HX8 := Lib.hid (HX7.out.trans ML)
              have HB8 := Lib.hid (ML.heap HB7.out (by simp))
              have HIS8 := Lib.hid (HIS7.out.mods0 ML)
              have HG8 := Lib.hid (HG7.out.mods0 tkE_ok ML)
              have HGA8 := Lib.hid (ML.heap HGA7.out (by simp))
              have HRdA8 := Lib.hid (HRdA7.out.mods0 ML)
              have HGB8 := Lib.hid (ML.heap HGB7.out (by simp))
              have HRdB8 := Lib.hid (HRdB7.out.mods0 ML)
              generalize w7.alloc (.cells #[.int .u8 1, .bool false, .int .u8 2, .bool false, .int .u8 3, .bool false, .int .u8 4, .bool false, .int .u8 5, .bool false] 103) = w8 at HU8 HX8 HB8 HIS8 HG8 HGA8 HRdA8 HGB8 HRdB8 ⊢
              generalize w7.heap.size = gf at HU8 ⊢
              clear ML HX7 HB7 HIS7 HG7 HGA7 HRdA7 HGB7 HRdB7
              try dsimp only [Act.put]
              refine wp_cutT (fun T a' w' => ∃ (x1 x2 win : Value) (g : Nat), a' = ⟨(((((((((((T.setIfInBounds 83 (.agg S.cells)).setIfInBounds 84 (.slice a1 A.length c1)).setIfInBounds 85 x1).setIfInBounds 86 (.slice (some ⟨gf, 0, none⟩) 5 5)).setIfInBounds 87 x2).setIfInBounds 88 (.tuple #[.agg #[win, .int .i64 (runF S.samples (LC)).2], .bool true])).setIfInBounds 82 (.tuple #[.agg #[win, .int .i64 (runF S.samples (LC)).2], .bool true])).setIfInBounds 89 (.agg #[win, .int .i64 (runF S.samples (LC)).2])).setIfInBounds 90 (.bool true)).setIfInBounds 16 (.pointer (some ⟨g, 0, none⟩))).setIfInBounds 17 (.bool true)), []⟩ ∧ Mods [] w8 w' ∧ w'.heap[g]? = some (.cells (fltC win (runF S.samples (LC)).2) 90 (0, 0)) ∧ Rd w' win (u8s (runF S.samples (LC)).1)) ?_ ?_
              · refine heldStart (S := fun W => Mods [] w8 W) 12 rfl (by kernel_rfl) Mods.refl.drew (fun hHeld => ?_)
                refine takeD (i := 0) (d := 83) (v := .agg S.cells) rfl rfl (by kernel_rfl) (by kernel_rfl) (by kernel_rfl) (fun _ _ _ h => h) (yieldsIf_load_row rfl 32 (.tmp 9) rfl gs rfl 32 S.cells (0, 0) _ (fun _ h=>h.heap HB8.out (by simp)) Try.underlying32 rfl S.infoS) hHeld ?_
                simp only [List.setIfInBounds_toArray, List.set_cons_zero, List.set_cons_succ]
                refine takeD (i := 1) (d := 84) (v := ?_) rfl rfl (by kernel_rfl) (by kernel_rfl) (by kernel_rfl) (fun _ _ _ h => h) (Or.inl ⟨by rfl, ?_⟩) hHeld ?_
                rotate_left 1
                · (intro w hSw; (try dsimp only at hSw); go_simp; (try with_reducible rfl))
                simp only [List.setIfInBounds_toArray, List.set_cons_zero, List.set_cons_succ]
                refine takeD (i := 3) (d := 86) (v := ?_) rfl rfl (by kernel_rfl) (by kernel_rfl) (by kernel_rfl) (fun _ _ _ h => h) (Or.inl ⟨by rfl, ?_⟩) hHeld ?_
                rotate_left 1
                · (intro w hSw; (try dsimp only at hSw); go_simp; (try with_reducible rfl))
                simp only [List.setIfInBounds_toArray, List.set_cons_zero, List.set_cons_succ]
                refine (both_step (T := 90) (z := fltC (.slice none 0 0) 0) (iA := 9) (dA := 16) (df := []) (B := w8.heap.size) rfl rfl rfl (fun _ _ => rfl) hHeld.size (i := 2) (d := 85) rfl (by decide) (by decide) (by kernel_rfl) (by kernel_rfl) (fun W M => hHeld.trans M) (J := fun u W => OwnE tkE W w8.heap.size u (A) ∧ Mods [] w8 W) (fun _ _ h => h.2) ?_ ?_).1
                · intro W t' M ht K F hK
                  have MW := (show Mods [] w8 _ from hHeld).trans M
                  rcases ht with rfl | ⟨x, rfl⟩
                  all_goals
                    refine step_appE (a := ⟨_, []⟩) tkE_ok (by rfl) 85 rfl (.const (.slice none 0 0)) (.tmp 84) rfl (by rfl) (OwnE.nil tkE W w8.heap.size) (by rfl) ((HA.out.e.mods0 tkE_ok HX8.out).mods0 tkE_ok MW) (by simp; omega) MW.size (fun u W' O M' => ?_)
                    exact hK u W' ⟨by rw [List.nil_append] at O; exact O, MW.comp M' (fun q hq => by simp [Value.ownBlock] at hq)⟩ (fun g hg => M'.heap hg (by simp [Value.ownBlock]))
                intro x1 W1 hJ1
                replace hHeld := hJ1.2
                refine (both_step (T := 90) (z := fltC (.slice none 0 0) 0) (iA := 9) (dA := 16) (df := []) (B := w8.heap.size) rfl rfl rfl (fun _ _ => rfl) hHeld.size (i := 4) (d := 87) rfl (by decide) (by decide) (by kernel_rfl) (by kernel_rfl) (fun W M => hHeld.trans M) (J := fun u W => OwnE tkE W w8.heap.size u (LC) ∧ Mods [] w8 W) (fun _ _ h => h.2) ?_ ?_)
                · intro W t' M ht K F hK
                  have MW := (show Mods [] w8 _ from hHeld).trans M
                  rcases ht with rfl | ⟨x, rfl⟩
                  all_goals
                    refine step_appE (a := ⟨_, []⟩) tkE_ok (by rfl) 87 rfl (.tmp 85) (.tmp 86) rfl (by rfl) (hJ1.1.mods0 M) (by rfl) (HU8.out.mods0 tkE_ok MW) (by have h3 : gapL.length = 3 := rfl; have h5 : fullL.length = 5 := rfl; (try simp only [List.length_append]); omega) MW.size (fun u W' O M' => ?_)
                    exact hK u W' ⟨by rw [HLC.out]; exact O, MW.comp M' (fun q hq => .inr ((hJ1.1.mods0 M).back hq))⟩ (fun g hg => M'.heap hg ((hJ1.1.mods0 M).apart hg (by decide)))
                intro x2 W2 hJ2
                replace hHeld := hJ2.2
                refine both_step (T := 90) (z := fltC (.slice none 0 0) 0) (iA := 9) (dA := 16) (df := []) (B := w8.heap.size) rfl rfl rfl (fun _ _ => rfl) hHeld.size (i := 5) (d := 88) rfl (by decide) (by decide) (by kernel_rfl) (by kernel_rfl) (fun W M => hHeld.trans M) (J := fun u W => ∃ win, u = (.tuple #[.agg #[win, .int .i64 (runF S.samples (LC)).2], .bool true]) ∧ Rd W win (u8s (runF S.samples (LC)).1) ∧ Mods [] w8 W) (fun _ _ h => by obtain ⟨_, _, _, h⟩ := h; exact h) ?_ ?_
                · intro W t' M ht K F hK
                  have MW := (show Mods [] w8 _ from hHeld).trans M
                  have HCL := Lib.hid (run14_ok W S P x2 (LC) (HIS8.out.mods0 MW) HVS.out ((hJ2.1.mods0 M).rd tkE_ok).tk HRaC.out (by (have := HlC.out; omega)))
                  rcases ht with rfl | ⟨x, rfl⟩
                  all_goals
                    go_simp
                    go_wp2_with (go_at_call 72; refine HCL.out.mono ?_; rintro e W' ⟨win, rfl, hr, -, M'⟩)
                    exact hK _ W' ⟨win, rfl, hr, MW.trans M'⟩ (fun g hg => M'.heap hg (by simp))
                intro u Wr hu
                obtain ⟨win, rfl, hrd, hHeld⟩ := hu
                have hwin := hrd.one
                refine ⟨?_, fun g hgb hg => ?_⟩
                · try dsimp only
                  refine takeD (i := 6) (d := 82) (v := ?_) rfl rfl (by kernel_rfl) (by kernel_rfl) (by kernel_rfl) (fun _ _ _ h => h) (Or.inl ⟨by rfl, ?_⟩) hHeld ?_
                  rotate_left 1
                  · (intro w hSw; (try dsimp only at hSw); go_simp; (try with_reducible rfl))
                  simp only [List.setIfInBounds_toArray, List.set_cons_zero, List.set_cons_succ]
                  refine takeD (i := 7) (d := 89) (v := ?_) rfl rfl (by kernel_rfl) (by kernel_rfl) (by kernel_rfl) (fun _ _ _ h => h) (Or.inl ⟨by rfl, ?_⟩) hHeld ?_
                  rotate_left 1
                  · (intro w hSw; (try dsimp only at hSw); go_simp; (try with_reducible rfl))
                  simp only [List.setIfInBounds_toArray, List.set_cons_zero, List.set_cons_succ]
                  refine takeD (i := 8) (d := 90) (v := ?_) rfl rfl (by kernel_rfl) (by kernel_rfl) (by kernel_rfl) (fun _ _ _ h => h) (Or.inl ⟨by rfl, ?_⟩) hHeld ?_
                  rotate_left 1
                  · (intro w hSw; (try dsimp only at hSw); go_simp; (try with_reducible rfl))
                  simp only [List.setIfInBounds_toArray, List.set_cons_zero, List.set_cons_succ]
                  refine wpAnyH_ready (rs := [9]) (by kernel_rfl) (by simp) ?_
                  refine AllReadyH.cons rfl (fun K hK => ?_) AllReadyH.nil
                  refine exec_alloc (c := fltC (.slice none 0 0) 0) (T := 90) rfl rfl (fun _ _ => rfl) ?_
                  have HMr := (show Mods [] w8 Wr from hHeld)
                  refine hK.out _ _ (HMr.alloc _) (fun hHeld => ?_)
                  clear hK K
                  simp only [List.setIfInBounds_toArray, List.set_cons_zero, List.set_cons_succ]
                  have hg := heap_alloc_new Wr (.cells (fltC (.slice none 0 0) 0) 90)
                  have hrd := hrd.mods0 ((Mods.refl (S := []) (w := Wr)).alloc (.cells (fltC (.slice none 0 0) 0) 90))
                  have hgb : w8.heap.size ≤ Wr.heap.size := HMr.size
                  generalize Wr.heap.size = g at hg hgb ⊢
                  generalize Wr.alloc (.cells (fltC (.slice none 0 0) 0) 90) = Wr at hg hrd hHeld ⊢
                  refine wpAnyH_ready (rs := [10]) (by kernel_rfl) (by simp) ?_
                  refine AllReadyH.cons rfl (fun K hK => ?_) AllReadyH.nil
                  refine exec_store (cs := fltC win (runF S.samples (LC)).2) rfl rfl rfl hg (by rfl) (by rfl) (by rfl) Try.infoFl (fltC_one _ hwin) (fun Wz Rz Mz => ?_)
                  have HMz := (show Mods [] w8 Wr from hHeld).comp Mz (fun q hq => by simp at hq; subst hq; exact .inr hgb)
                  refine hK.out _ _ HMz (fun hHeld => ?_)
                  clear hK K
                  refine takeD (i := 11) (d := 17) (v := ?_) rfl rfl (by kernel_rfl) (by kernel_rfl) (by kernel_rfl) (fun _ _ _ h => h) (Or.inl ⟨by rfl, ?_⟩) hHeld ?_
                  rotate_left 1
                  · (intro w hSw; (try dsimp only at hSw); go_simp; (try with_reducible rfl))
                  simp only [List.setIfInBounds_toArray, List.set_cons_zero, List.set_cons_succ]
                  refine wpAnyH_done (by kernel_rfl) ?_ _
                  refine ⟨x1, x2, win, g, by rfl, HMz, Rz, ?_⟩
                  exact hrd.mods Mz (fun hne q hq hm => by simp at hm; exact rd_apart hrd (fun h => hne (by rw [h]; rfl)) hg (fun y h => by cases h) q hq hm)
                · try dsimp only
                  refine takeD (i := 6) (d := 82) (v := ?_) rfl rfl (by kernel_rfl) (by kernel_rfl) (by kernel_rfl) (fun _ _ _ h => h) (Or.inl ⟨by rfl, ?_⟩) hHeld ?_
                  rotate_left 1
                  · (intro w hSw; (try dsimp only at hSw); go_simp; (try with_reducible rfl))
                  simp only [List.setIfInBounds_toArray, List.set_cons_zero, List.set_cons_succ]
                  refine takeD (i := 7) (d := 89) (v := ?_) rfl rfl (by kernel_rfl) (by kernel_rfl) (by kernel_rfl) (fun _ _ _ h => h) (Or.inl ⟨by rfl, ?_⟩) hHeld ?_
                  rotate_left 1
                  · (intro w hSw; (try dsimp only at hSw); go_simp; (try with_reducible rfl))
                  simp only [List.setIfInBounds_toArray, List.set_cons_zero, List.set_cons_succ]
                  refine takeD (i := 8) (d := 90) (v := ?_) rfl rfl (by kernel_rfl) (by kernel_rfl) (by kernel_rfl) (fun _ _ _ h => h) (Or.inl ⟨by rfl, ?_⟩) hHeld ?_
                  rotate_left 1
                  · (intro w hSw; (try dsimp only at hSw); go_simp; (try with_reducible rfl))
                  simp only [List.setIfInBounds_toArray, List.set_cons_zero, List.set_cons_succ]
                  refine wpAnyH_ready (rs := [10]) (by kernel_rfl) (by simp) ?_
                  refine AllReadyH.cons rfl (fun K hK => ?_) AllReadyH.nil
                  refine exec_store (cs := fltC win (runF S.samples (LC)).2) rfl rfl rfl hg (by rfl) (by rfl) (by rfl) Try.infoFl (fltC_one _ hwin) (fun Wz Rz Mz => ?_)
                  have HMz := (show Mods [] w8 Wr from hHeld).comp Mz (fun q hq => by simp at hq; subst hq; exact .inr hgb)
                  refine hK.out _ _ HMz (fun hHeld => ?_)
                  clear hK K
                  refine takeD (i := 11) (d := 17) (v := ?_) rfl rfl (by kernel_rfl) (by kernel_rfl) (by kernel_rfl) (fun _ _ _ h => h) (Or.inl ⟨by rfl, ?_⟩) hHeld ?_
                  rotate_left 1
                  · (intro w hSw; (try dsimp only at hSw); go_simp; (try with_reducible rfl))
                  simp only [List.setIfInBounds_toArray, List.set_cons_zero, List.set_cons_succ]
                  refine wpAnyH_done (by kernel_rfl) ?_ _
                  refine ⟨x1, x2, win, g, by rfl, HMz, Rz, ?_⟩
                  exact hrd.mods Mz (fun hne q hq hm => by simp at hm; exact rd_apart hrd (fun h => hne (by rw [h]; rfl)) hg (fun y h => by cases h) q hq hm)
              · rintro a' w9 ⟨_, _, uc, gc, rfl, MrgC, GrgC, RrgC⟩
                simp only [List.setIfInBounds_toArray, List.set_cons_zero, List.set_cons_succ]
                rw [HEC.out] at GrgC RrgC
                have HX9 := Lib.hid (HX8.out.trans MrgC)
                have HB9 := Lib.hid (MrgC.heap HB8.out (by simp))
                have HIS9 := Lib.hid (HIS8.out.mods0 MrgC)
                have HG9 := Lib.hid (HG8.out.mods0 tkE_ok MrgC)
                have HU9 := Lib.hid (HU8.out.mods0 tkE_ok MrgC)
                have HGA9 := Lib.hid (MrgC.heap HGA8.out (by simp))
                have HRdA9 := Lib.hid (HRdA8.out.mods0 MrgC)
                have HGB9 := Lib.hid (MrgC.heap HGB8.out (by simp))
                have HRdB9 := Lib.hid (HRdB8.out.mods0 MrgC)
                have HGC9 := Lib.hid GrgC
                have HRdC9 := Lib.hid RrgC
                clear HX8 HB8 HIS8 HG8 HU8 MrgC GrgC RrgC HGA8 HRdA8 HGB8 HRdB8
                go_wp2_with fail
                try dsimp only [Act.put]
                refine wp_cutT (fun T a' w' => ∃ (x1 x2 win : Value) (g : Nat), a' = ⟨(((((((((((T.setIfInBounds 92 (.agg S.cells)).setIfInBounds 93 (.slice a2 B.length c2)).setIfInBounds 94 x1).setIfInBounds 95 (.slice (some ⟨gf, 0, none⟩) 5 5)).setIfInBounds 96 x2).setIfInBounds 97 (.tuple #[.agg #[win, .int .i64 (runF S.samples (LD)).2], .bool true])).setIfInBounds 91 (.tuple #[.agg #[win, .int .i64 (runF S.samples (LD)).2], .bool true])).setIfInBounds 98 (.agg #[win, .int .i64 (runF S.samples (LD)).2])).setIfInBounds 99 (.bool true)).setIfInBounds 18 (.pointer (some ⟨g, 0, none⟩))).setIfInBounds 19 (.bool true)), []⟩ ∧ Mods [] w9 w' ∧ w'.heap[g]? = some (.cells (fltC win (runF S.samples (LD)).2) 90 (0, 0)) ∧ Rd w' win (u8s (runF S.samples (LD)).1)) ?_ ?_
                · refine heldStart (S := fun W => Mods [] w9 W) 12 rfl (by kernel_rfl) Mods.refl.drew (fun hHeld => ?_)
                  refine takeD (i := 0) (d := 92) (v := .agg S.cells) rfl rfl (by kernel_rfl) (by kernel_rfl) (by kernel_rfl) (fun _ _ _ h => h) (yieldsIf_load_row rfl 32 (.tmp 9) rfl gs rfl 32 S.cells (0, 0) _ (fun _ h=>h.heap HB9.out (by simp)) Try.underlying32 rfl S.infoS) hHeld ?_
                  simp only [List.setIfInBounds_toArray, List.set_cons_zero, List.set_cons_succ]
                  refine takeD (i := 1) (d := 93) (v := ?_) rfl rfl (by kernel_rfl) (by kernel_rfl) (by kernel_rfl) (fun _ _ _ h => h) (Or.inl ⟨by rfl, ?_⟩) hHeld ?_
                  rotate_left 1
                  · (intro w hSw; (try dsimp only at hSw); go_simp; (try with_reducible rfl))
                  simp only [List.setIfInBounds_toArray, List.set_cons_zero, List.set_cons_succ]
                  refine takeD (i := 3) (d := 95) (v := ?_) rfl rfl (by kernel_rfl) (by kernel_rfl) (by kernel_rfl) (fun _ _ _ h => h) (Or.inl ⟨by rfl, ?_⟩) hHeld ?_
                  rotate_left 1
                  · (intro w hSw; (try dsimp only at hSw); go_simp; (try with_reducible rfl))
                  simp only [List.setIfInBounds_toArray, List.set_cons_zero, List.set_cons_succ]
                  refine (both_step (T := 90) (z := fltC (.slice none 0 0) 0) (iA := 9) (dA := 18) (df := []) (B := w9.heap.size) rfl rfl rfl (fun _ _ => rfl) hHeld.size (i := 2) (d := 94) rfl (by decide) (by decide) (by kernel_rfl) (by kernel_rfl) (fun W M => hHeld.trans M) (J := fun u W => OwnE tkE W w9.heap.size u (B) ∧ Mods [] w9 W) (fun _ _ h => h.2) ?_ ?_).1
                  · intro W t' M ht K F hK
                    have MW := (show Mods [] w9 _ from hHeld).trans M
                    rcases ht with rfl | ⟨x, rfl⟩
                    all_goals
                      refine step_appE (a := ⟨_, []⟩) tkE_ok (by rfl) 94 rfl (.const (.slice none 0 0)) (.tmp 93) rfl (by rfl) (OwnE.nil tkE W w9.heap.size) (by rfl) ((HB2.out.e.mods0 tkE_ok HX9.out).mods0 tkE_ok MW) (by simp; omega) MW.size (fun u W' O M' => ?_)
                      exact hK u W' ⟨by rw [List.nil_append] at O; exact O, MW.comp M' (fun q hq => by simp [Value.ownBlock] at hq)⟩ (fun g hg => M'.heap hg (by simp [Value.ownBlock]))
                  intro x1 W1 hJ1
                  replace hHeld := hJ1.2
                  refine (both_step (T := 90) (z := fltC (.slice none 0 0) 0) (iA := 9) (dA := 18) (df := []) (B := w9.heap.size) rfl rfl rfl (fun _ _ => rfl) hHeld.size (i := 4) (d := 96) rfl (by decide) (by decide) (by kernel_rfl) (by kernel_rfl) (fun W M => hHeld.trans M) (J := fun u W => OwnE tkE W w9.heap.size u (LD) ∧ Mods [] w9 W) (fun _ _ h => h.2) ?_ ?_)
                  · intro W t' M ht K F hK
                    have MW := (show Mods [] w9 _ from hHeld).trans M
                    rcases ht with rfl | ⟨x, rfl⟩
                    all_goals
                      refine step_appE (a := ⟨_, []⟩) tkE_ok (by rfl) 96 rfl (.tmp 94) (.tmp 95) rfl (by rfl) (hJ1.1.mods0 M) (by rfl) (HU9.out.mods0 tkE_ok MW) (by have h3 : gapL.length = 3 := rfl; have h5 : fullL.length = 5 := rfl; (try simp only [List.length_append]); omega) MW.size (fun u W' O M' => ?_)
                      exact hK u W' ⟨by rw [HLD.out]; exact O, MW.comp M' (fun q hq => .inr ((hJ1.1.mods0 M).back hq))⟩ (fun g hg => M'.heap hg ((hJ1.1.mods0 M).apart hg (by decide)))
                  intro x2 W2 hJ2
                  replace hHeld := hJ2.2
                  refine both_step (T := 90) (z := fltC (.slice none 0 0) 0) (iA := 9) (dA := 18) (df := []) (B := w9.heap.size) rfl rfl rfl (fun _ _ => rfl) hHeld.size (i := 5) (d := 97) rfl (by decide) (by decide) (by kernel_rfl) (by kernel_rfl) (fun W M => hHeld.trans M) (J := fun u W => ∃ win, u = (.tuple #[.agg #[win, .int .i64 (runF S.samples (LD)).2], .bool true]) ∧ Rd W win (u8s (runF S.samples (LD)).1) ∧ Mods [] w9 W) (fun _ _ h => by obtain ⟨_, _, _, h⟩ := h; exact h) ?_ ?_
                  · intro W t' M ht K F hK
                    have MW := (show Mods [] w9 _ from hHeld).trans M
                    have HCL := Lib.hid (run14_ok W S P x2 (LD) (HIS9.out.mods0 MW) HVS.out ((hJ2.1.mods0 M).rd tkE_ok).tk HRaD.out (by (have := HlD.out; omega)))
                    rcases ht with rfl | ⟨x, rfl⟩
                    all_goals
                      go_simp
                      go_wp2_with (go_at_call 72; refine HCL.out.mono ?_; rintro e W' ⟨win, rfl, hr, -, M'⟩)
                      exact hK _ W' ⟨win, rfl, hr, MW.trans M'⟩ (fun g hg => M'.heap hg (by simp))
                  intro u Wr hu
                  obtain ⟨win, rfl, hrd, hHeld⟩ := hu
                  have hwin := hrd.one
                  refine ⟨?_, fun g hgb hg => ?_⟩
                  · try dsimp only
                    refine takeD (i := 6) (d := 91) (v := ?_) rfl rfl (by kernel_rfl) (by kernel_rfl) (by kernel_rfl) (fun _ _ _ h => h) (Or.inl ⟨by rfl, ?_⟩) hHeld ?_
                    rotate_left 1
                    · (intro w hSw; (try dsimp only at hSw); go_simp; (try with_reducible rfl))
                    simp only [List.setIfInBounds_toArray, List.set_cons_zero, List.set_cons_succ]
                    refine takeD (i := 7) (d := 98) (v := ?_) rfl rfl (by kernel_rfl) (by kernel_rfl) (by kernel_rfl) (fun _ _ _ h => h) (Or.inl ⟨by rfl, ?_⟩) hHeld ?_
                    rotate_left 1
                    · (intro w hSw; (try dsimp only at hSw); go_simp; (try with_reducible rfl))
                    simp only [List.setIfInBounds_toArray, List.set_cons_zero, List.set_cons_succ]
                    refine takeD (i := 8) (d := 99) (v := ?_) rfl rfl (by kernel_rfl) (by kernel_rfl) (by kernel_rfl) (fun _ _ _ h => h) (Or.inl ⟨by rfl, ?_⟩) hHeld ?_
                    rotate_left 1
                    · (intro w hSw; (try dsimp only at hSw); go_simp; (try with_reducible rfl))
                    simp only [List.setIfInBounds_toArray, List.set_cons_zero, List.set_cons_succ]
                    refine wpAnyH_ready (rs := [9]) (by kernel_rfl) (by simp) ?_
                    refine AllReadyH.cons rfl (fun K hK => ?_) AllReadyH.nil
                    refine exec_alloc (c := fltC (.slice none 0 0) 0) (T := 90) rfl rfl (fun _ _ => rfl) ?_
                    have HMr := (show Mods [] w9 Wr from hHeld)
                    refine hK.out _ _ (HMr.alloc _) (fun hHeld => ?_)
                    clear hK K
                    simp only [List.setIfInBounds_toArray, List.set_cons_zero, List.set_cons_succ]
                    have hg := heap_alloc_new Wr (.cells (fltC (.slice none 0 0) 0) 90)
                    have hrd := hrd.mods0 ((Mods.refl (S := []) (w := Wr)).alloc (.cells (fltC (.slice none 0 0) 0) 90))
                    have hgb : w9.heap.size ≤ Wr.heap.size := HMr.size
                    generalize Wr.heap.size = g at hg hgb ⊢
                    generalize Wr.alloc (.cells (fltC (.slice none 0 0) 0) 90) = Wr at hg hrd hHeld ⊢
                    refine wpAnyH_ready (rs := [10]) (by kernel_rfl) (by simp) ?_
                    refine AllReadyH.cons rfl (fun K hK => ?_) AllReadyH.nil
                    refine exec_store (cs := fltC win (runF S.samples (LD)).2) rfl rfl rfl hg (by rfl) (by rfl) (by rfl) Try.infoFl (fltC_one _ hwin) (fun Wz Rz Mz => ?_)
                    have HMz := (show Mods [] w9 Wr from hHeld).comp Mz (fun q hq => by simp at hq; subst hq; exact .inr hgb)
                    refine hK.out _ _ HMz (fun hHeld => ?_)
                    clear hK K
                    refine takeD (i := 11) (d := 19) (v := ?_) rfl rfl (by kernel_rfl) (by kernel_rfl) (by kernel_rfl) (fun _ _ _ h => h) (Or.inl ⟨by rfl, ?_⟩) hHeld ?_
                    rotate_left 1
                    · (intro w hSw; (try dsimp only at hSw); go_simp; (try with_reducible rfl))
                    simp only [List.setIfInBounds_toArray, List.set_cons_zero, List.set_cons_succ]
                    refine wpAnyH_done (by kernel_rfl) ?_ _
                    refine ⟨x1, x2, win, g, by rfl, HMz, Rz, ?_⟩
                    exact hrd.mods Mz (fun hne q hq hm => by simp at hm; exact rd_apart hrd (fun h => hne (by rw [h]; rfl)) hg (fun y h => by cases h) q hq hm)
                  · try dsimp only
                    refine takeD (i := 6) (d := 91) (v := ?_) rfl rfl (by kernel_rfl) (by kernel_rfl) (by kernel_rfl) (fun _ _ _ h => h) (Or.inl ⟨by rfl, ?_⟩) hHeld ?_
                    rotate_left 1
                    · (intro w hSw; (try dsimp only at hSw); go_simp; (try with_reducible rfl))
                    simp only [List.setIfInBounds_toArray, List.set_cons_zero, List.set_cons_succ]
                    refine takeD (i := 7) (d := 98) (v := ?_) rfl rfl (by kernel_rfl) (by kernel_rfl) (by kernel_rfl) (fun _ _ _ h => h) (Or.inl ⟨by rfl, ?_⟩) hHeld ?_
                    rotate_left 1
                    · (intro w hSw; (try dsimp only at hSw); go_simp; (try with_reducible rfl))
                    simp only [List.setIfInBounds_toArray, List.set_cons_zero, List.set_cons_succ]
                    refine takeD (i := 8) (d := 99) (v := ?_) rfl rfl (by kernel_rfl) (by kernel_rfl) (by kernel_rfl) (fun _ _ _ h => h) (Or.inl ⟨by rfl, ?_⟩) hHeld ?_
                    rotate_left 1
                    · (intro w hSw; (try dsimp only at hSw); go_simp; (try with_reducible rfl))
                    simp only [List.setIfInBounds_toArray, List.set_cons_zero, List.set_cons_succ]
                    refine wpAnyH_ready (rs := [10]) (by kernel_rfl) (by simp) ?_
                    refine AllReadyH.cons rfl (fun K hK => ?_) AllReadyH.nil
                    refine exec_store (cs := fltC win (runF S.samples (LD)).2) rfl rfl rfl hg (by rfl) (by rfl) (by rfl) Try.infoFl (fltC_one _ hwin) (fun Wz Rz Mz => ?_)
                    have HMz := (show Mods [] w9 Wr from hHeld).comp Mz (fun q hq => by simp at hq; subst hq; exact .inr hgb)
                    refine hK.out _ _ HMz (fun hHeld => ?_)
                    clear hK K
                    refine takeD (i := 11) (d := 19) (v := ?_) rfl rfl (by kernel_rfl) (by kernel_rfl) (by kernel_rfl) (fun _ _ _ h => h) (Or.inl ⟨by rfl, ?_⟩) hHeld ?_
                    rotate_left 1
                    · (intro w hSw; (try dsimp only at hSw); go_simp; (try with_reducible rfl))
                    simp only [List.setIfInBounds_toArray, List.set_cons_zero, List.set_cons_succ]
                    refine wpAnyH_done (by kernel_rfl) ?_ _
                    refine ⟨x1, x2, win, g, by rfl, HMz, Rz, ?_⟩
                    exact hrd.mods Mz (fun hne q hq hm => by simp at hm; exact rd_apart hrd (fun h => hne (by rw [h]; rfl)) hg (fun y h => by cases h) q hq hm)
                · rintro a' wa ⟨_, _, ud, gd, rfl, MrgD, GrgD, RrgD⟩
                  simp only [List.setIfInBounds_toArray, List.set_cons_zero, List.set_cons_succ]
                  rw [HED.out] at GrgD RrgD
                  have HXa := Lib.hid (HX9.out.trans MrgD)
                  have HBa := Lib.hid (MrgD.heap HB9.out (by simp))
                  have HISa := Lib.hid (HIS9.out.mods0 MrgD)
                  have HGa := Lib.hid (HG9.out.mods0 tkE_ok MrgD)
                  have HGAa := Lib.hid (MrgD.heap HGA9.out (by simp))
                  have HRdAa := Lib.hid (HRdA9.out.mods0 MrgD)
                  have HGBa := Lib.hid (MrgD.heap HGB9.out (by simp))
                  have HRdBa := Lib.hid (HRdB9.out.mods0 MrgD)
                  have HGCa := Lib.hid (MrgD.heap HGC9.out (by simp))
                  have HRdCa := Lib.hid (HRdC9.out.mods0 MrgD)
                  have HGDa := Lib.hid GrgD
                  have HRdDa := Lib.hid RrgD
                  clear HX9 HB9 HIS9 HG9 HU9 MrgD GrgD RrgD HGA9 HRdA9 HGB9 HRdB9 HGC9 HRdC9
                  go_wp2_with fail
                  try dsimp only [Act.put]
                  refine wp_cutT (fun T a' w' => ∃ (x1 x2 win : Value) (g : Nat), a' = ⟨(((((((((((T.setIfInBounds 101 (.agg S.cells)).setIfInBounds 102 (.slice a1 A.length c1)).setIfInBounds 103 x1).setIfInBounds 104 (.slice (some ⟨gl, 0, none⟩) 3 3)).setIfInBounds 105 x2).setIfInBounds 106 (.tuple #[.agg #[win, .int .i64 (runF S.samples (LE)).2], .bool true])).setIfInBounds 100 (.tuple #[.agg #[win, .int .i64 (runF S.samples (LE)).2], .bool true])).setIfInBounds 107 (.agg #[win, .int .i64 (runF S.samples (LE)).2])).setIfInBounds 108 (.bool true)).setIfInBounds 20 (.pointer (some ⟨g, 0, none⟩))).setIfInBounds 21 (.bool true)), []⟩ ∧ Mods [] wa w' ∧ w'.heap[g]? = some (.cells (fltC win (runF S.samples (LE)).2) 90 (0, 0)) ∧ Rd w' win (u8s (runF S.samples (LE)).1)) ?_ ?_
                  · refine heldStart (S := fun W => Mods [] wa W) 12 rfl (by kernel_rfl) Mods.refl.drew (fun hHeld => ?_)
                    refine takeD (i := 0) (d := 101) (v := .agg S.cells) rfl rfl (by kernel_rfl) (by kernel_rfl) (by kernel_rfl) (fun _ _ _ h => h) (yieldsIf_load_row rfl 32 (.tmp 9) rfl gs rfl 32 S.cells (0, 0) _ (fun _ h=>h.heap HBa.out (by simp)) Try.underlying32 rfl S.infoS) hHeld ?_
                    simp only [List.setIfInBounds_toArray, List.set_cons_zero, List.set_cons_succ]
                    refine takeD (i := 1) (d := 102) (v := ?_) rfl rfl (by kernel_rfl) (by kernel_rfl) (by kernel_rfl) (fun _ _ _ h => h) (Or.inl ⟨by rfl, ?_⟩) hHeld ?_
                    rotate_left 1
                    · (intro w hSw; (try dsimp only at hSw); go_simp; (try with_reducible rfl))
                    simp only [List.setIfInBounds_toArray, List.set_cons_zero, List.set_cons_succ]
                    refine takeD (i := 3) (d := 104) (v := ?_) rfl rfl (by kernel_rfl) (by kernel_rfl) (by kernel_rfl) (fun _ _ _ h => h) (Or.inl ⟨by rfl, ?_⟩) hHeld ?_
                    rotate_left 1
                    · (intro w hSw; (try dsimp only at hSw); go_simp; (try with_reducible rfl))
                    simp only [List.setIfInBounds_toArray, List.set_cons_zero, List.set_cons_succ]
                    refine (both_step (T := 90) (z := fltC (.slice none 0 0) 0) (iA := 9) (dA := 20) (df := []) (B := wa.heap.size) rfl rfl rfl (fun _ _ => rfl) hHeld.size (i := 2) (d := 103) rfl (by decide) (by decide) (by kernel_rfl) (by kernel_rfl) (fun W M => hHeld.trans M) (J := fun u W => OwnE tkE W wa.heap.size u (A) ∧ Mods [] wa W) (fun _ _ h => h.2) ?_ ?_).1
                    · intro W t' M ht K F hK
                      have MW := (show Mods [] wa _ from hHeld).trans M
                      rcases ht with rfl | ⟨x, rfl⟩
                      all_goals
                        refine step_appE (a := ⟨_, []⟩) tkE_ok (by rfl) 103 rfl (.const (.slice none 0 0)) (.tmp 102) rfl (by rfl) (OwnE.nil tkE W wa.heap.size) (by rfl) ((HA.out.e.mods0 tkE_ok HXa.out).mods0 tkE_ok MW) (by simp; omega) MW.size (fun u W' O M' => ?_)
                        exact hK u W' ⟨by rw [List.nil_append] at O; exact O, MW.comp M' (fun q hq => by simp [Value.ownBlock] at hq)⟩ (fun g hg => M'.heap hg (by simp [Value.ownBlock]))
                    intro x1 W1 hJ1
                    replace hHeld := hJ1.2
                    refine (both_step (T := 90) (z := fltC (.slice none 0 0) 0) (iA := 9) (dA := 20) (df := []) (B := wa.heap.size) rfl rfl rfl (fun _ _ => rfl) hHeld.size (i := 4) (d := 105) rfl (by decide) (by decide) (by kernel_rfl) (by kernel_rfl) (fun W M => hHeld.trans M) (J := fun u W => OwnE tkE W wa.heap.size u (LE) ∧ Mods [] wa W) (fun _ _ h => h.2) ?_ ?_)
                    · intro W t' M ht K F hK
                      have MW := (show Mods [] wa _ from hHeld).trans M
                      rcases ht with rfl | ⟨x, rfl⟩
                      all_goals
                        refine step_appE (a := ⟨_, []⟩) tkE_ok (by rfl) 105 rfl (.tmp 103) (.tmp 104) rfl (by rfl) (hJ1.1.mods0 M) (by rfl) (HGa.out.mods0 tkE_ok MW) (by have h3 : gapL.length = 3 := rfl; have h5 : fullL.length = 5 := rfl; (try simp only [List.length_append]); omega) MW.size (fun u W' O M' => ?_)
                        exact hK u W' ⟨by rw [HLE.out]; exact O, MW.comp M' (fun q hq => .inr ((hJ1.1.mods0 M).back hq))⟩ (fun g hg => M'.heap hg ((hJ1.1.mods0 M).apart hg (by decide)))
                    intro x2 W2 hJ2
                    replace hHeld := hJ2.2
                    refine both_step (T := 90) (z := fltC (.slice none 0 0) 0) (iA := 9) (dA := 20) (df := []) (B := wa.heap.size) rfl rfl rfl (fun _ _ => rfl) hHeld.size (i := 5) (d := 106) rfl (by decide) (by decide) (by kernel_rfl) (by kernel_rfl) (fun W M => hHeld.trans M) (J := fun u W => ∃ win, u = (.tuple #[.agg #[win, .int .i64 (runF S.samples (LE)).2], .bool true]) ∧ Rd W win (u8s (runF S.samples (LE)).1) ∧ Mods [] wa W) (fun _ _ h => by obtain ⟨_, _, _, h⟩ := h; exact h) ?_ ?_
                    · intro W t' M ht K F hK
                      have MW := (show Mods [] wa _ from hHeld).trans M
                      have HCL := Lib.hid (run14_ok W S P x2 (LE) (HISa.out.mods0 MW) HVS.out ((hJ2.1.mods0 M).rd tkE_ok).tk HRaE.out (by (have := HlE.out; omega)))
                      rcases ht with rfl | ⟨x, rfl⟩
                      all_goals
                        go_simp
                        go_wp2_with (go_at_call 72; refine HCL.out.mono ?_; rintro e W' ⟨win, rfl, hr, -, M'⟩)
                        exact hK _ W' ⟨win, rfl, hr, MW.trans M'⟩ (fun g hg => M'.heap hg (by simp))
                    intro u Wr hu
                    obtain ⟨win, rfl, hrd, hHeld⟩ := hu
                    have hwin := hrd.one
                    refine ⟨?_, fun g hgb hg => ?_⟩
                    · try dsimp only
                      refine takeD (i := 6) (d := 100) (v := ?_) rfl rfl (by kernel_rfl) (by kernel_rfl) (by kernel_rfl) (fun _ _ _ h => h) (Or.inl ⟨by rfl, ?_⟩) hHeld ?_
                      rotate_left 1
                      · (intro w hSw; (try dsimp only at hSw); go_simp; (try with_reducible rfl))
                      simp only [List.setIfInBounds_toArray, List.set_cons_zero, List.set_cons_succ]
                      refine takeD (i := 7) (d := 107) (v := ?_) rfl rfl (by kernel_rfl) (by kernel_rfl) (by kernel_rfl) (fun _ _ _ h => h) (Or.inl ⟨by rfl, ?_⟩) hHeld ?_
                      rotate_left 1
                      · (intro w hSw; (try dsimp only at hSw); go_simp; (try with_reducible rfl))
                      simp only [List.setIfInBounds_toArray, List.set_cons_zero, List.set_cons_succ]
                      refine takeD (i := 8) (d := 108) (v := ?_) rfl rfl (by kernel_rfl) (by kernel_rfl) (by kernel_rfl) (fun _ _ _ h => h) (Or.inl ⟨by rfl, ?_⟩) hHeld ?_
                      rotate_left 1
                      · (intro w hSw; (try dsimp only at hSw); go_simp; (try with_reducible rfl))
                      simp only [List.setIfInBounds_toArray, List.set_cons_zero, List.set_cons_succ]
                      refine wpAnyH_ready (rs := [9]) (by kernel_rfl) (by simp) ?_
                      refine AllReadyH.cons rfl (fun K hK => ?_) AllReadyH.nil
                      refine exec_alloc (c := fltC (.slice none 0 0) 0) (T := 90) rfl rfl (fun _ _ => rfl) ?_
                      have HMr := (show Mods [] wa Wr from hHeld)
                      refine hK.out _ _ (HMr.alloc _) (fun hHeld => ?_)
                      clear hK K
                      simp only [List.setIfInBounds_toArray, List.set_cons_zero, List.set_cons_succ]
                      have hg := heap_alloc_new Wr (.cells (fltC (.slice none 0 0) 0) 90)
                      have hrd := hrd.mods0 ((Mods.refl (S := []) (w := Wr)).alloc (.cells (fltC (.slice none 0 0) 0) 90))
                      have hgb : wa.heap.size ≤ Wr.heap.size := HMr.size
                      generalize Wr.heap.size = g at hg hgb ⊢
                      generalize Wr.alloc (.cells (fltC (.slice none 0 0) 0) 90) = Wr at hg hrd hHeld ⊢
                      refine wpAnyH_ready (rs := [10]) (by kernel_rfl) (by simp) ?_
                      refine AllReadyH.cons rfl (fun K hK => ?_) AllReadyH.nil
                      refine exec_store (cs := fltC win (runF S.samples (LE)).2) rfl rfl rfl hg (by rfl) (by rfl) (by rfl) Try.infoFl (fltC_one _ hwin) (fun Wz Rz Mz => ?_)
                      have HMz := (show Mods [] wa Wr from hHeld).comp Mz (fun q hq => by simp at hq; subst hq; exact .inr hgb)
                      refine hK.out _ _ HMz (fun hHeld => ?_)
                      clear hK K
                      refine takeD (i := 11) (d := 21) (v := ?_) rfl rfl (by kernel_rfl) (by kernel_rfl) (by kernel_rfl) (fun _ _ _ h => h) (Or.inl ⟨by rfl, ?_⟩) hHeld ?_
                      rotate_left 1
                      · (intro w hSw; (try dsimp only at hSw); go_simp; (try with_reducible rfl))
                      simp only [List.setIfInBounds_toArray, List.set_cons_zero, List.set_cons_succ]
                      refine wpAnyH_done (by kernel_rfl) ?_ _
                      refine ⟨x1, x2, win, g, by rfl, HMz, Rz, ?_⟩
                      exact hrd.mods Mz (fun hne q hq hm => by simp at hm; exact rd_apart hrd (fun h => hne (by rw [h]; rfl)) hg (fun y h => by cases h) q hq hm)
                    · try dsimp only
                      refine takeD (i := 6) (d := 100) (v := ?_) rfl rfl (by kernel_rfl) (by kernel_rfl) (by kernel_rfl) (fun _ _ _ h => h) (Or.inl ⟨by rfl, ?_⟩) hHeld ?_
                      rotate_left 1
                      · (intro w hSw; (try dsimp only at hSw); go_simp; (try with_reducible rfl))
                      simp only [List.setIfInBounds_toArray, List.set_cons_zero, List.set_cons_succ]
                      refine takeD (i := 7) (d := 107) (v := ?_) rfl rfl (by kernel_rfl) (by kernel_rfl) (by kernel_rfl) (fun _ _ _ h => h) (Or.inl ⟨by rfl, ?_⟩) hHeld ?_
                      rotate_left 1
                      · (intro w hSw; (try dsimp only at hSw); go_simp; (try with_reducible rfl))
                      simp only [List.setIfInBounds_toArray, List.set_cons_zero, List.set_cons_succ]
                      refine takeD (i := 8) (d := 108) (v := ?_) rfl rfl (by kernel_rfl) (by kernel_rfl) (by kernel_rfl) (fun _ _ _ h => h) (Or.inl ⟨by rfl, ?_⟩) hHeld ?_
                      rotate_left 1
                      · (intro w hSw; (try dsimp only at hSw); go_simp; (try with_reducible rfl))
                      simp only [List.setIfInBounds_toArray, List.set_cons_zero, List.set_cons_succ]
                      refine wpAnyH_ready (rs := [10]) (by kernel_rfl) (by simp) ?_
                      refine AllReadyH.cons rfl (fun K hK => ?_) AllReadyH.nil
                      refine exec_store (cs := fltC win (runF S.samples (LE)).2) rfl rfl rfl hg (by rfl) (by rfl) (by rfl) Try.infoFl (fltC_one _ hwin) (fun Wz Rz Mz => ?_)
                      have HMz := (show Mods [] wa Wr from hHeld).comp Mz (fun q hq => by simp at hq; subst hq; exact .inr hgb)
                      refine hK.out _ _ HMz (fun hHeld => ?_)
                      clear hK K
                      refine takeD (i := 11) (d := 21) (v := ?_) rfl rfl (by kernel_rfl) (by kernel_rfl) (by kernel_rfl) (fun _ _ _ h => h) (Or.inl ⟨by rfl, ?_⟩) hHeld ?_
                      rotate_left 1
                      · (intro w hSw; (try dsimp only at hSw); go_simp; (try with_reducible rfl))
                      simp only [List.setIfInBounds_toArray, List.set_cons_zero, List.set_cons_succ]
                      refine wpAnyH_done (by kernel_rfl) ?_ _
                      refine ⟨x1, x2, win, g, by rfl, HMz, Rz, ?_⟩
                      exact hrd.mods Mz (fun hne q hq hm => by simp at hm; exact rd_apart hrd (fun h => hne (by rw [h]; rfl)) hg (fun y h => by cases h) q hq hm)
                  · rintro a' wb ⟨_, _, ue, ge, rfl, MrgE, GrgE, RrgE⟩
                    simp only [List.setIfInBounds_toArray, List.set_cons_zero, List.set_cons_succ]
                    rw [HEE.out] at GrgE RrgE
                    have HXb := Lib.hid (HXa.out.trans MrgE)
                    have HBb := Lib.hid (MrgE.heap HBa.out (by simp))
                    have HISb := Lib.hid (HISa.out.mods0 MrgE)
                    have HGAb := Lib.hid (MrgE.heap HGAa.out (by simp))
                    have HRdAb := Lib.hid (HRdAa.out.mods0 MrgE)
                    have HGBb := Lib.hid (MrgE.heap HGBa.out (by simp))
                    have HRdBb := Lib.hid (HRdBa.out.mods0 MrgE)
                    have HGCb := Lib.hid (MrgE.heap HGCa.out (by simp))
                    have HRdCb := Lib.hid (HRdCa.out.mods0 MrgE)
                    have HGDb := Lib.hid (MrgE.heap HGDa.out (by simp))
                    have HRdDb := Lib.hid (HRdDa.out.mods0 MrgE)
                    have HGEb := Lib.hid GrgE
                    have HRdEb := Lib.hid RrgE
                    clear HXa HBa HISa HGa MrgE GrgE RrgE HGAa HRdAa HGBa HRdBa HGCa HRdCa HGDa HRdDa HEB HEC HED HEE HLA HLB HLC HLD HLE HRaA HRaB HRaC HRaD HRaE HlA HlB HlC HlD HlE HA HB2 HC HRA HRB HRC
                    obtain ⟨WF, hWF⟩ : ∃ WF, WF = ([1, 2, 3, 4, 5] : List Int).drop (5 - kk) := ⟨_, rfl⟩
                    rw [← hWF] at HRdCb HRdDb HFC
                    replace HGCb := Lib.hid (show wb.heap[gc]? = some (.cells (fltC uc 0) 90 (0, 0)) from HGCb.out)
                    replace HGDb := Lib.hid (show wb.heap[gd]? = some (.cells (fltC ud 0) 90 (0, 0)) from HGDb.out)
                    have hWl : WF.length = kk := by rw [hWF, List.length_drop]; simp; omega
                    have HRC := Lib.hid (show rdB S P WF 0 = true by rw [rdB_len HFC.out.1, HKK.out]; exact decide_eq_true (by omega))
                    have HRE := Lib.hid (show rdB S P [] 3 = false by rw [rdB_len HFE.out.1, HKK.out]; exact decide_eq_false (by simp; omega))
                    have HWB := Lib.hid (bytes_mem HFC.out.2)
                    have HFlC := Lib.hid (show IsFlt wb uc WF 0 from ⟨HRdCb.out, HFC.out.2, by omega, by constructor <;> decide⟩)
                    have HFlD := Lib.hid (show IsFlt wb ud WF 0 from ⟨HRdDb.out, HFC.out.2, by omega, by constructor <;> decide⟩)
                    have HFlE := Lib.hid (show IsFlt wb ue [] 3 from ⟨HRdEb.out, HFE.out.2, by simp, by constructor <;> decide⟩)
                    clear hWF hWl hk5 HFC HFE
                    go_wp2_with (first
                      | (refine wpList_load_sen rfl (.tmp 9) rfl (SenBox.mk HBb.out) (by rfl) ?_)
                      | (refine wpList_load_row rfl 90 (.tmp 16) rfl gc (by rfl) _ _ _ _ HGCb.out Try.underlying90 rfl Try.infoFl ?_))
                    refine (samReading_ok wb S P uc WF 0 HISb.out HFlC.out).mono ?_
                    intro e wc hc
                    rw [HRC.out] at hc
                    obtain ⟨x, y, rfl, hx, Mc⟩ := hc.val
                    obtain ⟨hxm, rfl⟩ := (show IsMed S.conv.sgn WF x ∧ y = true from hx)
                    have HXM := Lib.hid hxm
                    have HMc := Lib.hid Mc
                    clear hx Mc hc hxm
                    go_wp2_with (first
                      | (refine wpList_load_sen rfl (.tmp 9) rfl (SenBox.mk (HMc.out.heap HBb.out (by simp))) (by rfl) ?_)
                      | (refine wpList_load_row rfl 90 (.tmp 18) rfl gd (by rfl) _ _ _ _ (HMc.out.heap HGDb.out (by simp)) Try.underlying90 rfl Try.infoFl ?_))
                    refine (samReading_ok wc S P ud WF 0 (HISb.out.mods0 HMc.out) (HFlD.out.mods0 HMc.out)).mono ?_
                    intro e wd hd
                    rw [HRC.out] at hd
                    obtain ⟨x', y', rfl, hx, Md⟩ := hd.val
                    obtain ⟨hxm, rfl⟩ := (show IsMed S.conv.sgn WF x' ∧ y' = true from hx)
                    obtain rfl := med_uniq HWB.out hxm HXM.out
                    have HMd := Lib.hid (HMc.out.trans Md)
                    clear hx Md hd hxm HXM HMc
                    go_wp2_with (first
                      | (refine wpList_load_sen rfl (.tmp 9) rfl (SenBox.mk (HMd.out.heap HBb.out (by simp))) (by rfl) ?_)
                      | (refine wpList_load_row rfl 90 (.tmp 20) rfl ge (by rfl) _ _ _ _ (HMd.out.heap HGEb.out (by simp)) Try.underlying90 rfl Try.infoFl ?_))
                    refine (samReading_ok wd S P ue [] 3 (HISb.out.mods0 HMd.out) (HFlE.out.mods0 HMd.out)).mono ?_
                    intro e we he
                    rw [HRE.out] at he
                    obtain ⟨x2, y2, rfl, hx, Me⟩ := he.val
                    obtain ⟨rfl, rfl⟩ := (show x2 = 0 ∧ y2 = false from hx)
                    have HMe := Lib.hid (HMd.out.trans Me)
                    clear hx Me he HMd
                    have SM1 := Lib.hid (fun W (M : Mods [] wb W) => same14_ok W _ _ WA WA nA nA (HRdAb.out.mods0 M) (HRdBb.out.mods0 M))
                    rw [show (decide (nA = nA) && (WA == WA)) = true by simp] at SM1
                    have SM2 := Lib.hid (fun W (M : Mods [] wb W) => same14_ok W _ _ WF WF 0 0 (HRdCb.out.mods0 M) (HRdDb.out.mods0 M))
                    rw [show (decide ((0 : Int) = 0) && (WF == WF)) = true by simp] at SM2
                    have exx : (x' == x') = true := by simp
                    go_wp2_with (first
                      | (refine wpList_step (fun K hK => ?_); rw [if_pos (by rfl)]; refine wp_load_row _ (.tmp 11) rfl ga rfl _ _ _ _ (HMe.out.heap HGAb.out (by simp)) Try.underlying90 rfl Try.infoFl (hK _ _ ?_))
                      | (refine wpList_step (fun K hK => ?_); rw [if_pos (by rfl)]; refine wp_load_row _ (.tmp 13) rfl gb rfl _ _ _ _ (HMe.out.heap HGBb.out (by simp)) Try.underlying90 rfl Try.infoFl (hK _ _ ?_)))
                    refine (SM1.out _ HMe.out).mono ?_
                    rintro e wf ⟨rfl, Mf⟩
                    have HMf := Lib.hid (HMe.out.trans Mf)
                    clear Mf HMe SM1
                    go_wp2_with (first
                      | (refine wpList_step (fun K hK => ?_); rw [if_pos (by rfl)]; refine wp_load_row _ (.tmp 16) rfl gc rfl _ _ _ _ (HMf.out.heap HGCb.out (by simp)) Try.underlying90 rfl Try.infoFl (hK _ _ ?_))
                      | (refine wpList_step (fun K hK => ?_); rw [if_pos (by rfl)]; refine wp_load_row _ (.tmp 18) rfl gd rfl _ _ _ _ (HMf.out.heap HGDb.out (by simp)) Try.underlying90 rfl Try.infoFl (hK _ _ ?_)))
                    refine (SM2.out _ HMf.out).mono ?_
                    rintro e wg ⟨rfl, Mg⟩
                    have HMg := Lib.hid (HMf.out.trans Mg)
                    clear Mg HMf SM2
                    go_wp2_with fail
                    refine (awakeM_ok _).mono ?_
                    rintro e wh ⟨rfl, Mh⟩
                    go_wp2_with fail
                    go_ret
                    exact ⟨rfl, HXb.out.trans (HMg.out.trans Mh)⟩
        · have d1 : decide ((A.length : Int) > 30) = false := decide_eq_false (by omega)
          have d1' : ¬ (30 : Int) < (A.length : Int) := by omega
          have d2 : decide ((B.length : Int) > 30) = false := decide_eq_false (by omega)
          have d2' : ¬ (30 : Int) < (B.length : Int) := by omega
          have d3 : decide ((C.length : Int) > 30) = true := decide_eq_true (by omega)
          have d3' : (30 : Int) < (C.length : Int) := by omega
          go_enter Try.func19, Try.ntmps19
          go_wp2_with fail
          refine HL.out.mono ?_
          rw [HLL.out]
          rintro e w' ⟨rfl, rfl⟩
          go_wp2_with fail
          refine (awakeM_ok _).mono ?_
          rintro e wz ⟨rfl, Mz⟩
          go_wp2
          go_ret
          exact ⟨rfl, Mz⟩
      · have d1 : decide ((A.length : Int) > 30) = false := decide_eq_false (by omega)
        have d1' : ¬ (30 : Int) < (A.length : Int) := by omega
        have d2 : decide ((B.length : Int) > 30) = true := decide_eq_true (by omega)
        have d2' : (30 : Int) < (B.length : Int) := by omega
        go_enter Try.func19, Try.ntmps19
        go_wp2_with fail
        refine HL.out.mono ?_
        rw [HLL.out]
        rintro e w' ⟨rfl, rfl⟩
        go_wp2_with fail
        refine (awakeM_ok _).mono ?_
        rintro e wz ⟨rfl, Mz⟩
        go_wp2
        go_ret
        exact ⟨rfl, Mz⟩
    · have d1 : decide ((A.length : Int) > 30) = true := decide_eq_true (by omega)
      have d1' : (30 : Int) < (A.length : Int) := by omega
      go_enter Try.func19, Try.ntmps19
      go_wp2_with fail
      refine HL.out.mono ?_
      rw [HLL.out]
      rintro e w' ⟨rfl, rfl⟩
      go_wp2_with fail
      refine (awakeM_ok _).mono ?_
      rintro e wz ⟨rfl, Mz⟩
      go_wp2
      go_ret
      exact ⟨rfl, Mz⟩
  · have HLL := Lib.hid (decide_eq_false hl)
    go_enter Try.func19, Try.ntmps19
    go_wp2_with fail
    refine HL.out.mono ?_
    rw [HLL.out]
    rintro e w' ⟨rfl, rfl⟩
    go_wp2_with fail
    refine (awakeM_ok _).mono ?_
    rintro e wz ⟨rfl, Mz⟩
    go_wp2
    go_ret
    exact ⟨rfl, Mz⟩
end Go.Proofs.Ytgjjmiaiclhidaa
