/- The reference's Encode of conversions: contract. -/
import Derived.Test.YtgjjmiaiclhidaaConvEnc
import Derived.Test.YtgjjmiaiclhidaaBaseB
namespace Go.Proofs.Ytgjjmiaiclhidaa
open Go.RowKit

set_option maxRecDepth 100000 in
theorem refLittle_ok (w : World) (V : Int) (n : Nat) (hn : n ≤ 8) :
    Calls Try.prog 102 #[.int .i64 V, .int .i64 n] w fun e w' => OwnedBy 5 w (u8s (leL V n)) e w' := by
  have HL := Lib.hid (leL_mod V n hn)
  have h1 : 0 ≤ V % 18446744073709551616 ∧ V % 18446744073709551616 ≤ 18446744073709551615 := by omega
  have HB := Lib.hid h1
  clear h1
  go_enter Try.func102, Try.ntmps102
  go_wp2_with fail
  refine (little_ok w (V % 18446744073709551616) n HB.out (by omega)).mono ?_
  rw [HL.out]
  rintro e w1 ⟨v1, rfl, O1, M1⟩
  go_wp2
  go_ret
  exact ⟨_, rfl, O1, M1⟩
theorem add128 (f : Int) (h : 1 ≤ f ∧ f ≤ 5) : IntKind.u8.wrap (f + 128) = f + 128 := by
  have : f = 1 ∨ f = 2 ∨ f = 3 ∨ f = 4 ∨ f = 5 := by omega
  rcases this with rfl | rfl | rfl | rfl | rfl <;> decide
set_option maxRecDepth 100000 in
set_option maxHeartbeats 2000000 in
theorem refEnc_ok (w : World) (C : Conv) (P : List Pt) (hC : IsConv w C P) :
    Calls Try.prog 58 #[.agg C.cells] w fun e w' => EncRes w (convB C P) (convL C P) e w' := by
  have HC := Lib.hid hC
  have R0 := Lib.hid (heap_alloc_new w (.cells C.cells 26))
  have M0 := Lib.hid ((Mods.refl (S := []) (w := w)).alloc (.cells C.cells 26))
  have V0 := Lib.hid (fun W (M : Mods [] w W) => refConvValid_ok W C P (hC.mods0 M))
  clear hC
  cases hv : convB C P with
  | false =>
    have HV := Lib.hid hv
    clear hv
    go_enter Try.func58, Try.ntmps58
    go_wp2_with (refine wpList_load_row rfl 26 (.tmp 1) rfl w.heap.size (by rfl) _ _ _ _ R0.out Try.underlying26 rfl Try.infoC ?_)
    refine (V0.out _ M0.out).mono ?_
    rw [HV.out]
    rintro e w1 ⟨rfl, M1⟩
    go_wp2
    go_ret2
    exact ⟨rfl, M0.out.trans M1⟩
  | true =>
    have HV := Lib.hid hv
    have hf15 : 1 ≤ C.form ∧ C.form ≤ 5 := by
      by_cases h5 : C.form = 5
      · omega
      · have := convB_lin hv h5; omega
    obtain ⟨hf1, hf5⟩ := hf15
    have eor := add128 C.form ⟨hf1, hf5⟩
    clear hv
    have rc0 : C.cells[0]? = some (.int .i64 C.form) := rfl
    have rc1 : C.cells[1]? = some (.bool C.sgn) := rfl
    obtain ⟨f, hf⟩ : ∃ f, f = C.form := ⟨_, rfl⟩
    rw [← hf] at hf1 hf5 eor rc0
    have HF := Lib.hid hf
    clear hf
    by_cases h5 : f = 5
    · have d5 : (f != 5) = false := by simpa using h5
      have HF5 := Lib.hid h5
      clear h5
      have hI := HC.out
      have hPl := convB_tab HV.out (HF.out.symm.trans HF5.out)
      obtain ⟨hp2, hp12⟩ := hPl
      have HPK := Lib.hid hI.pok
      obtain ⟨ad, cap, hpts, hc1, hc2, -⟩ := hI.rd
      have hcap : cap ≤ 9223372036854775807 := hc2
      clear hI hc2
      have rc6 : C.cells[6]? = some (.slice ad P.length cap) := by rw [← hpts]; rfl
      have HPT := Lib.hid hpts
      clear hpts
      cases hs : C.sgn with
      | false =>
        rw [hs] at rc1
        have HS := Lib.hid hs
        clear hs
        go_enter Try.func58, Try.ntmps58
        go_wp2_with (refine wpList_load_row rfl 26 (.tmp 1) rfl w.heap.size (by rfl) _ _ _ _ R0.out Try.underlying26 rfl Try.infoC ?_)
        refine (V0.out _ M0.out).mono ?_
        rw [HV.out]
        rintro e w1 ⟨rfl, M1⟩
        have HR1 := Lib.hid (M1.heap R0.out (by simp))
        have HM1 := Lib.hid (M0.out.trans M1)
        have hz1 : w.heap.size + 1 ≤ w1.heap.size := by have := M1.size; simp at this; omega
        have cf0 : w1.cell? ⟨w.heap.size, 0, none⟩ = some (.int .i64 f) := (cell_blk HR1.out 0).trans rc0
        have c1 : w1.cell? ⟨w.heap.size, 1, none⟩ = some (.bool false) := (cell_blk HR1.out 1).trans rc1
        have c0 : (w1.alloc (.cells #[.int .u8 f] 5)).cell? ⟨w.heap.size, 0, none⟩ = some (.int .i64 f) := (cell_blk (heap_alloc HR1.out) 0).trans rc0
        have c2 : (w1.alloc (.cells #[.int .u8 f] 5)).cell? ⟨w.heap.size, 2, none⟩ = some (.int .i64 C.m) := (cell_blk (heap_alloc HR1.out) 2).trans rfl
        have c6 : (w1.alloc (.cells #[.int .u8 f] 5)).cell? ⟨w.heap.size, 6, none⟩ = some C.pts := (cell_blk (heap_alloc HR1.out) 6).trans rfl
        clear M1
        rw [HPT.out] at c6
        go_wp2_with (first
          | (show wpList _ _ _ (⟨some 43, .fieldAddr 26 (.tmp 1) 6, _, _, _, _⟩ :: _) _ _
             have HR2 := Lib.hid (heap_alloc (o' := .cells #[.int .u8 f] 5) HR1.out)
             have HO2 : Hid (OwnB (w1.alloc (.cells #[.int .u8 f] 5)) (w.heap.size + 1) (.slice (some ⟨w1.heap.size, 0, none⟩) 1 1) [f]) := Lib.hid (OwnB.lit w1 hz1 [f] (by unfold maxLen; simp))
             have HM2 := Lib.hid (HM1.out.alloc (.cells #[.int .u8 f] 5))
             have hz2 : w.heap.size + 1 ≤ (w1.alloc (.cells #[.int .u8 f] 5)).heap.size := by simp; omega
             clear c0 c1 c2 cf0 c6 hz1 HR1 HM1
             generalize w1.alloc (.cells #[.int .u8 f] 5) = w2 at HR2 HO2 HM2 hz2 ⊢
             generalize w1.heap.size = g1 at HO2 ⊢
             generalize hgc : w.heap.size = gc at HR2 HO2 hz2 ⊢
             have HGC := Lib.hid hgc
             clear hgc
             have c6 : w2.cell? ⟨gc, 6, none⟩ = some (.slice ad P.length cap) := (cell_blk HR2.out 6).trans rc6)
          | (at_builtin; refine wpList_appB (by rfl) (.tmp 42) (.tmp 47) rfl (v := .slice (some ⟨g1, 0, none⟩) 1 1) (by rfl) (HO2.out.mods0 (Mods.refl.alloc _)) (by rfl) (OwnB.lit w2 (Nat.le_refl _) [(P.length : Int)] (by unfold maxLen; simp)).rd (by simp) (by simp; omega) ?_; intro v3 w3 O3 M3; have HM3 := Lib.hid ((HM2.out.alloc (.cells (u8s [(P.length : Int)]).toArray 5)).comp M3 (fun k hk => .inr (by have := HO2.out.back hk; have := HGC.out; omega))); have HR3 := Lib.hid (M3.heap (heap_alloc (o' := .cells (u8s [(P.length : Int)]).toArray 5) HR2.out) (fun hm => by have := HO2.out.back hm; omega)); have hz3 : gc + 1 ≤ w3.heap.size := Nat.le_trans hz2 (Nat.le_trans ((Mods.refl (S := []) (w := w2)).alloc (.cells (u8s [(P.length : Int)]).toArray 5)).size M3.size); have HO3 := Lib.hid O3; clear O3 M3))
        clear c6 hz2 HR2 HM2 HO2
        go_loopw [5, 6] (fun o i wr => ∃ k : Nat, k ≤ P.length ∧ i = .int .i64 k ∧ OwnB wr (gc + 1) o ([f] ++ [(P.length : Int)] ++ ptsL (P.take k)) ∧ Mods [] w wr ∧ gc + 1 ≤ wr.heap.size ∧ wr.heap[gc]? = some (.cells C.cells 26 (0, 0))) (fun _ i _ => P.length - (intOf i).toNat)
        case atStart => exact ⟨0, Nat.zero_le _, rfl, by simpa [ptsL] using HO3.out, HM3.out, hz3, HR3.out⟩
        case round =>
          obtain ⟨k, hk, rfl, O, M, hz, R⟩ := hrel
          clear HO3 HM3 hz3 HR3
          have c6 : wr.cell? ⟨gc, 6, none⟩ = some (.slice ad P.length cap) := (cell_blk R 6).trans rc6
          have i1 : (0 : Int) ≤ (k : Int) := by omega
          by_cases hlt : k < P.length
          · have HX := Lib.hid (fun W (M : Mods [] w W) => HC.out.rd.mods0 M)
            obtain ⟨_, _, he, _, _, hc⟩ := HX.out _ M
            obtain ⟨bb, off, rfl, x0, x1⟩ := hc k hlt
            rw [HPT.out] at he
            injection he with he1 he2 he3
            subst he1 he3
            clear hc he2
            have HX1 := Lib.hid (fun W (M : Mods [] w W) => show W.cell? ⟨bb, off + k * 2 + 1, none⟩ = some (.int .i64 (P.getD k default).val) from by
              obtain ⟨_, _, he, _, _, hc⟩ := HX.out _ M
              obtain ⟨bb', off', hq, _, y1⟩ := hc k hlt
              rw [HPT.out] at he
              injection he with he1 he2 he3
              rw [← he1] at hq
              cases hq
              exact y1)
            clear HX
            have hraw := HPK.out.raw k
            have HTK := Lib.hid (ptsL_take P k hlt)
            have hlen : (ptsL (P.take k)).length ≤ 84 := by rw [ptsL_length, List.length_take]; omega
            have i2 : (k : Int) < (P.length : Int) := by omega
            generalize (P.getD k default).raw = rr at x0 hraw HTK
            generalize (P.getD k default).val = vv at x1 HX1 HTK
            have HM := Lib.hid M
            have HO := Lib.hid O
            have HR := Lib.hid R
            clear M O R
            go_wp2_with (at_builtin; refine wpList_appB (by rfl) (.tmp 56) (.tmp 63) rfl (v := u5) (by rfl) (HO.out.mods0 (Mods.refl.alloc _)) (by rfl) (OwnB.lit wr (Nat.le_refl _) [(rr : Int)] (by unfold maxLen; simp)).rd (by simp only [List.length_append, List.length_cons, List.length_nil]; omega) (by simp; omega) ?_; intro v3 w3 O3 M3; have HM3 := Lib.hid ((HM.out.alloc (.cells (u8s [(rr : Int)]).toArray 5)).comp M3 (fun k hk => .inr (by have := HO.out.back hk; have := HGC.out; omega))); have HR3 := Lib.hid (M3.heap (heap_alloc (o' := .cells (u8s [(rr : Int)]).toArray 5) HR.out) (fun hm => by have := HO.out.back hm; omega)); have hz3 : gc + 1 ≤ w3.heap.size := Nat.le_trans hz (Nat.le_trans ((Mods.refl (S := []) (w := wr)).alloc (.cells (u8s [(rr : Int)]).toArray 5)).size M3.size); have HO3 := Lib.hid O3; have c63 : w3.cell? ⟨gc, 6, none⟩ = some (.slice (some ⟨bb, off, none⟩) P.length cap) := ((cell_blk HR3.out 6).trans rc6); have x13 := HX1.out w3 HM3.out; clear O3 M3)
            refine (refLittle_ok w3 vv 6 (by omega)).mono ?_
            rintro e w4 ⟨v4, rfl, O4, M4⟩
            have HX := Lib.hid (show OwnB _ _ _ _ from O4)
            have HO4 := Lib.hid (HO3.out.mods0 M4)
            have HM4 := Lib.hid (HM3.out.trans M4)
            have hz4 := Nat.le_trans hz3 M4.size
            have HR4 := Lib.hid (M4.heap HR3.out (by simp))
            clear O4 M4 HR3 HM3 HO3 hz3 c63 x13 c6 x0 x1 HX1 HR HM HO
            go_wp2_with (at_builtin; refine wpList_appB (by rfl) (.tmp 65) (.tmp 72) rfl (v := v3) (by rfl) HO4.out (by rfl) HX.out.rd (by simp only [List.length_append, List.length_cons, List.length_nil, leL_length]; omega) hz4 ?_; intro v5 w5 O5 M5; have HM5 := Lib.hid (HM4.out.comp M5 (fun k hk => .inr (by have := HO4.out.back hk; have := HGC.out; omega))); have HR5 := Lib.hid (M5.heap HR4.out (fun hm => by have := HO4.out.back hm; omega)); have hz5 : gc + 1 ≤ w5.heap.size := Nat.le_trans hz4 M5.size; have HO5 : Hid (OwnB w5 (gc + 1) v5 ([f] ++ [(P.length : Int)] ++ ptsL (P.take (k + 1)))) := Lib.hid (by rw [HTK.out]; simpa [List.append_assoc] using O5); clear O5 M5)
            exact ⟨⟨k + 1, by omega, by go_num, HO5.out, HM5.out, hz5, HR5.out⟩, by simp only [intOf]; omega⟩
          · have hk2 : k = P.length := by omega
            have HE : [f] ++ [(P.length : Int)] ++ ptsL (P.take k) = convL C P := by rw [convL, ← HF.out, if_pos HF5.out, HS.out, hk2, List.take_length]; simp
            rw [HE] at O
            have HO := Lib.hid (O.down (B' := w.heap.size) (by have := HGC.out; omega))
            have HM := Lib.hid M
            clear O M
            go_wp2_with fail
            go_ret2
            exact ⟨_, rfl, HO.out, HM.out⟩
      | true =>
        rw [hs] at rc1
        have HS := Lib.hid hs
        clear hs
        go_enter Try.func58, Try.ntmps58
        go_wp2_with (refine wpList_load_row rfl 26 (.tmp 1) rfl w.heap.size (by rfl) _ _ _ _ R0.out Try.underlying26 rfl Try.infoC ?_)
        refine (V0.out _ M0.out).mono ?_
        rw [HV.out]
        rintro e w1 ⟨rfl, M1⟩
        have HR1 := Lib.hid (M1.heap R0.out (by simp))
        have HM1 := Lib.hid (M0.out.trans M1)
        have hz1 : w.heap.size + 1 ≤ w1.heap.size := by have := M1.size; simp at this; omega
        have cf0 : w1.cell? ⟨w.heap.size, 0, none⟩ = some (.int .i64 f) := (cell_blk HR1.out 0).trans rc0
        have c1 : w1.cell? ⟨w.heap.size, 1, none⟩ = some (.bool true) := (cell_blk HR1.out 1).trans rc1
        have c0 : (w1.alloc (.cells #[.int .u8 (f+128)] 5)).cell? ⟨w.heap.size, 0, none⟩ = some (.int .i64 f) := (cell_blk (heap_alloc HR1.out) 0).trans rc0
        have c2 : (w1.alloc (.cells #[.int .u8 (f+128)] 5)).cell? ⟨w.heap.size, 2, none⟩ = some (.int .i64 C.m) := (cell_blk (heap_alloc HR1.out) 2).trans rfl
        have c6 : (w1.alloc (.cells #[.int .u8 (f+128)] 5)).cell? ⟨w.heap.size, 6, none⟩ = some C.pts := (cell_blk (heap_alloc HR1.out) 6).trans rfl
        clear M1
        rw [HPT.out] at c6
        go_wp2_with (first
          | (show wpList _ _ _ (⟨some 43, .fieldAddr 26 (.tmp 1) 6, _, _, _, _⟩ :: _) _ _
             have HR2 := Lib.hid (heap_alloc (o' := .cells #[.int .u8 (f+128)] 5) HR1.out)
             have HO2 : Hid (OwnB (w1.alloc (.cells #[.int .u8 (f+128)] 5)) (w.heap.size + 1) (.slice (some ⟨w1.heap.size, 0, none⟩) 1 1) [(f+128)]) := Lib.hid (OwnB.lit w1 hz1 [(f+128)] (by unfold maxLen; simp))
             have HM2 := Lib.hid (HM1.out.alloc (.cells #[.int .u8 (f+128)] 5))
             have hz2 : w.heap.size + 1 ≤ (w1.alloc (.cells #[.int .u8 (f+128)] 5)).heap.size := by simp; omega
             clear c0 c1 c2 cf0 c6 hz1 HR1 HM1
             generalize w1.alloc (.cells #[.int .u8 (f+128)] 5) = w2 at HR2 HO2 HM2 hz2 ⊢
             generalize w1.heap.size = g1 at HO2 ⊢
             generalize hgc : w.heap.size = gc at HR2 HO2 hz2 ⊢
             have HGC := Lib.hid hgc
             clear hgc
             have c6 : w2.cell? ⟨gc, 6, none⟩ = some (.slice ad P.length cap) := (cell_blk HR2.out 6).trans rc6)
          | (at_builtin; refine wpList_appB (by rfl) (.tmp 42) (.tmp 47) rfl (v := .slice (some ⟨g1, 0, none⟩) 1 1) (by rfl) (HO2.out.mods0 (Mods.refl.alloc _)) (by rfl) (OwnB.lit w2 (Nat.le_refl _) [(P.length : Int)] (by unfold maxLen; simp)).rd (by simp) (by simp; omega) ?_; intro v3 w3 O3 M3; have HM3 := Lib.hid ((HM2.out.alloc (.cells (u8s [(P.length : Int)]).toArray 5)).comp M3 (fun k hk => .inr (by have := HO2.out.back hk; have := HGC.out; omega))); have HR3 := Lib.hid (M3.heap (heap_alloc (o' := .cells (u8s [(P.length : Int)]).toArray 5) HR2.out) (fun hm => by have := HO2.out.back hm; omega)); have hz3 : gc + 1 ≤ w3.heap.size := Nat.le_trans hz2 (Nat.le_trans ((Mods.refl (S := []) (w := w2)).alloc (.cells (u8s [(P.length : Int)]).toArray 5)).size M3.size); have HO3 := Lib.hid O3; clear O3 M3))
        clear c6 hz2 HR2 HM2 HO2
        go_loopw [5, 6] (fun o i wr => ∃ k : Nat, k ≤ P.length ∧ i = .int .i64 k ∧ OwnB wr (gc + 1) o ([(f+128)] ++ [(P.length : Int)] ++ ptsL (P.take k)) ∧ Mods [] w wr ∧ gc + 1 ≤ wr.heap.size ∧ wr.heap[gc]? = some (.cells C.cells 26 (0, 0))) (fun _ i _ => P.length - (intOf i).toNat)
        case atStart => exact ⟨0, Nat.zero_le _, rfl, by simpa [ptsL] using HO3.out, HM3.out, hz3, HR3.out⟩
        case round =>
          obtain ⟨k, hk, rfl, O, M, hz, R⟩ := hrel
          clear HO3 HM3 hz3 HR3
          have c6 : wr.cell? ⟨gc, 6, none⟩ = some (.slice ad P.length cap) := (cell_blk R 6).trans rc6
          have i1 : (0 : Int) ≤ (k : Int) := by omega
          by_cases hlt : k < P.length
          · have HX := Lib.hid (fun W (M : Mods [] w W) => HC.out.rd.mods0 M)
            obtain ⟨_, _, he, _, _, hc⟩ := HX.out _ M
            obtain ⟨bb, off, rfl, x0, x1⟩ := hc k hlt
            rw [HPT.out] at he
            injection he with he1 he2 he3
            subst he1 he3
            clear hc he2
            have HX1 := Lib.hid (fun W (M : Mods [] w W) => show W.cell? ⟨bb, off + k * 2 + 1, none⟩ = some (.int .i64 (P.getD k default).val) from by
              obtain ⟨_, _, he, _, _, hc⟩ := HX.out _ M
              obtain ⟨bb', off', hq, _, y1⟩ := hc k hlt
              rw [HPT.out] at he
              injection he with he1 he2 he3
              rw [← he1] at hq
              cases hq
              exact y1)
            clear HX
            have hraw := HPK.out.raw k
            have HTK := Lib.hid (ptsL_take P k hlt)
            have hlen : (ptsL (P.take k)).length ≤ 84 := by rw [ptsL_length, List.length_take]; omega
            have i2 : (k : Int) < (P.length : Int) := by omega
            generalize (P.getD k default).raw = rr at x0 hraw HTK
            generalize (P.getD k default).val = vv at x1 HX1 HTK
            have HM := Lib.hid M
            have HO := Lib.hid O
            have HR := Lib.hid R
            clear M O R
            go_wp2_with (at_builtin; refine wpList_appB (by rfl) (.tmp 56) (.tmp 63) rfl (v := u5) (by rfl) (HO.out.mods0 (Mods.refl.alloc _)) (by rfl) (OwnB.lit wr (Nat.le_refl _) [(rr : Int)] (by unfold maxLen; simp)).rd (by simp only [List.length_append, List.length_cons, List.length_nil]; omega) (by simp; omega) ?_; intro v3 w3 O3 M3; have HM3 := Lib.hid ((HM.out.alloc (.cells (u8s [(rr : Int)]).toArray 5)).comp M3 (fun k hk => .inr (by have := HO.out.back hk; have := HGC.out; omega))); have HR3 := Lib.hid (M3.heap (heap_alloc (o' := .cells (u8s [(rr : Int)]).toArray 5) HR.out) (fun hm => by have := HO.out.back hm; omega)); have hz3 : gc + 1 ≤ w3.heap.size := Nat.le_trans hz (Nat.le_trans ((Mods.refl (S := []) (w := wr)).alloc (.cells (u8s [(rr : Int)]).toArray 5)).size M3.size); have HO3 := Lib.hid O3; have c63 : w3.cell? ⟨gc, 6, none⟩ = some (.slice (some ⟨bb, off, none⟩) P.length cap) := ((cell_blk HR3.out 6).trans rc6); have x13 := HX1.out w3 HM3.out; clear O3 M3)
            refine (refLittle_ok w3 vv 6 (by omega)).mono ?_
            rintro e w4 ⟨v4, rfl, O4, M4⟩
            have HX := Lib.hid (show OwnB _ _ _ _ from O4)
            have HO4 := Lib.hid (HO3.out.mods0 M4)
            have HM4 := Lib.hid (HM3.out.trans M4)
            have hz4 := Nat.le_trans hz3 M4.size
            have HR4 := Lib.hid (M4.heap HR3.out (by simp))
            clear O4 M4 HR3 HM3 HO3 hz3 c63 x13 c6 x0 x1 HX1 HR HM HO
            go_wp2_with (at_builtin; refine wpList_appB (by rfl) (.tmp 65) (.tmp 72) rfl (v := v3) (by rfl) HO4.out (by rfl) HX.out.rd (by simp only [List.length_append, List.length_cons, List.length_nil, leL_length]; omega) hz4 ?_; intro v5 w5 O5 M5; have HM5 := Lib.hid (HM4.out.comp M5 (fun k hk => .inr (by have := HO4.out.back hk; have := HGC.out; omega))); have HR5 := Lib.hid (M5.heap HR4.out (fun hm => by have := HO4.out.back hm; omega)); have hz5 : gc + 1 ≤ w5.heap.size := Nat.le_trans hz4 M5.size; have HO5 : Hid (OwnB w5 (gc + 1) v5 ([(f+128)] ++ [(P.length : Int)] ++ ptsL (P.take (k + 1)))) := Lib.hid (by rw [HTK.out]; simpa [List.append_assoc] using O5); clear O5 M5)
            exact ⟨⟨k + 1, by omega, by go_num, HO5.out, HM5.out, hz5, HR5.out⟩, by simp only [intOf]; omega⟩
          · have hk2 : k = P.length := by omega
            have HE : [(f+128)] ++ [(P.length : Int)] ++ ptsL (P.take k) = convL C P := by rw [convL, ← HF.out, if_pos HF5.out, HS.out, hk2, List.take_length]; simp
            rw [HE] at O
            have HO := Lib.hid (O.down (B' := w.heap.size) (by have := HGC.out; omega))
            have HM := Lib.hid M
            clear O M
            go_wp2_with fail
            go_ret2
            exact ⟨_, rfl, HO.out, HM.out⟩
    · have d5 : (f != 5) = true := by simpa using h5
      cases hs : C.sgn with
      | false =>
        rw [hs] at rc1
        have HS := Lib.hid hs
        clear hs
        go_enter Try.func58, Try.ntmps58
        go_wp2_with (refine wpList_load_row rfl 26 (.tmp 1) rfl w.heap.size (by rfl) _ _ _ _ R0.out Try.underlying26 rfl Try.infoC ?_)
        refine (V0.out _ M0.out).mono ?_
        rw [HV.out]
        rintro e w1 ⟨rfl, M1⟩
        have HR1 := Lib.hid (M1.heap R0.out (by simp))
        have HM1 := Lib.hid (M0.out.trans M1)
        have hz1 : w.heap.size + 1 ≤ w1.heap.size := by have := M1.size; simp at this; omega
        have cf0 : w1.cell? ⟨w.heap.size, 0, none⟩ = some (.int .i64 f) := (cell_blk HR1.out 0).trans rc0
        have c1 : w1.cell? ⟨w.heap.size, 1, none⟩ = some (.bool false) := (cell_blk HR1.out 1).trans rc1
        have c0 : (w1.alloc (.cells #[.int .u8 f] 5)).cell? ⟨w.heap.size, 0, none⟩ = some (.int .i64 f) := (cell_blk (heap_alloc HR1.out) 0).trans rc0
        have c2 : (w1.alloc (.cells #[.int .u8 f] 5)).cell? ⟨w.heap.size, 2, none⟩ = some (.int .i64 C.m) := (cell_blk (heap_alloc HR1.out) 2).trans rfl
        have c6 : (w1.alloc (.cells #[.int .u8 f] 5)).cell? ⟨w.heap.size, 6, none⟩ = some C.pts := (cell_blk (heap_alloc HR1.out) 6).trans rfl
        clear M1
        go_wp2_with fail
        have HR2 := Lib.hid (heap_alloc (o' := .cells #[.int .u8 f] 5) HR1.out)
        have HO2 : Hid (OwnB (w1.alloc (.cells #[.int .u8 f] 5)) (w.heap.size + 1) (.slice (some ⟨w1.heap.size, 0, none⟩) 1 1) [f]) := Lib.hid (OwnB.lit w1 hz1 [f] (by unfold maxLen; simp))
        have HM2 := Lib.hid (HM1.out.alloc (.cells #[.int .u8 f] 5))
        have hz2 : w.heap.size + 1 ≤ (w1.alloc (.cells #[.int .u8 f] 5)).heap.size := by simp; omega
        clear c0 c1 c2 cf0 c6 hz1 HR1 HM1
        generalize w1.alloc (.cells #[.int .u8 f] 5) = w2 at HR2 HO2 HM2 hz2 ⊢
        generalize w1.heap.size = g1 at HO2 ⊢
        generalize hgc : w.heap.size = gc at HR2 HO2 hz2 ⊢
        have HGC := Lib.hid hgc
        clear hgc
        refine (refLittle_ok w2 C.m 2 (by omega)).mono ?_
        rintro e w3 ⟨v3, rfl, OA, MA⟩
        have HX := Lib.hid (show OwnB _ _ _ _ from OA)
        have HOA := Lib.hid (HO2.out.mods0 MA)
        have HMA := Lib.hid (HM2.out.trans MA)
        have hzA := Nat.le_trans hz2 MA.size
        have HRA := Lib.hid (MA.heap HR2.out (by simp))
        clear OA MA
        go_wp2_with (at_builtin; refine wpList_appB (by rfl) (.tmp 22) (.tmp 25) rfl (v := (.slice (some ⟨g1, 0, none⟩) 1 1)) (by rfl) HOA.out (by rfl) HX.out.rd (by simp [leL_length] <;> omega) hzA ?_; intro v4 w4 OB MB; have HM4 := Lib.hid (HMA.out.comp MB (fun k hk => .inr (by have := HOA.out.back hk; have := HGC.out; omega))); have HO4 := Lib.hid OB; have HR4 := Lib.hid (MB.heap HRA.out (HOA.out.apart HRA.out (by decide))); have hz4 := Nat.le_trans hzA MB.size; have cB := (cell_blk HR4.out 3).trans (show _ = some (.int .i64 C.b) from rfl); clear OB MB)
        clear cB HX HOA HMA hzA HRA
        refine (refLittle_ok w4 C.b 2 (by omega)).mono ?_
        rintro e w5 ⟨v5, rfl, OA, MA⟩
        have HX := Lib.hid (show OwnB _ _ _ _ from OA)
        have HOA := Lib.hid (HO4.out.mods0 MA)
        have HMA := Lib.hid (HM4.out.trans MA)
        have hzA := Nat.le_trans hz4 MA.size
        have HRA := Lib.hid (MA.heap HR4.out (by simp))
        clear OA MA
        go_wp2_with (at_builtin; refine wpList_appB (by rfl) (.tmp 27) (.tmp 30) rfl (v := v4) (by rfl) HOA.out (by rfl) HX.out.rd (by simp [leL_length] <;> omega) hzA ?_; intro v6 w6 OB MB; have HM6 := Lib.hid (HMA.out.comp MB (fun k hk => .inr (by have := HOA.out.back hk; have := HGC.out; omega))); have HO6 := Lib.hid OB; have HR6 := Lib.hid (MB.heap HRA.out (HOA.out.apart HRA.out (by decide))); have hz6 := Nat.le_trans hzA MB.size; have cB := (cell_blk HR6.out 4).trans (show _ = some (.int .i64 C.k1) from rfl); clear OB MB)
        clear cB HX HOA HMA hzA HRA
        refine (refLittle_ok w6 C.k1 1 (by omega)).mono ?_
        rintro e w7 ⟨v7, rfl, OA, MA⟩
        have HX := Lib.hid (show OwnB _ _ _ _ from OA)
        have HOA := Lib.hid (HO6.out.mods0 MA)
        have HMA := Lib.hid (HM6.out.trans MA)
        have hzA := Nat.le_trans hz6 MA.size
        have HRA := Lib.hid (MA.heap HR6.out (by simp))
        clear OA MA
        go_wp2_with (at_builtin; refine wpList_appB (by rfl) (.tmp 32) (.tmp 35) rfl (v := v6) (by rfl) HOA.out (by rfl) HX.out.rd (by simp [leL_length] <;> omega) hzA ?_; intro v8 w8 OB MB; have HM8 := Lib.hid (HMA.out.comp MB (fun k hk => .inr (by have := HOA.out.back hk; have := HGC.out; omega))); have HO8 := Lib.hid OB; have HR8 := Lib.hid (MB.heap HRA.out (HOA.out.apart HRA.out (by decide))); have hz8 := Nat.le_trans hzA MB.size; have cB := (cell_blk HR8.out 5).trans (show _ = some (.int .i64 C.k2) from rfl); clear OB MB)
        clear cB HX HOA HMA hzA HRA
        refine (refLittle_ok w8 C.k2 1 (by omega)).mono ?_
        rintro e w9 ⟨v9, rfl, OA, MA⟩
        have HX := Lib.hid (show OwnB _ _ _ _ from OA)
        have HOA := Lib.hid (HO8.out.mods0 MA)
        have HMA := Lib.hid (HM8.out.trans MA)
        have hzA := Nat.le_trans hz8 MA.size
        have HRA := Lib.hid (MA.heap HR8.out (by simp))
        clear OA MA
        go_wp2_with (at_builtin; refine wpList_appB (by rfl) (.tmp 37) (.tmp 40) rfl (v := v8) (by rfl) HOA.out (by rfl) HX.out.rd (by simp [leL_length] <;> omega) hzA ?_; intro v10 w10 OB MB; have HM10 := Lib.hid (HMA.out.comp MB (fun k hk => .inr (by have := HOA.out.back hk; have := HGC.out; omega))); have HO10 := Lib.hid OB; have HR10 := Lib.hid (MB.heap HRA.out (HOA.out.apart HRA.out (by decide))); have hz10 := Nat.le_trans hzA MB.size; have cB := (cell_blk HR10.out 5).trans (show _ = some (.int .i64 C.k2) from rfl); clear OB MB)
        clear cB HX HOA HMA hzA HRA
        have HE : [f] ++ leL C.m 2 ++ leL C.b 2 ++ leL C.k1 1 ++ leL C.k2 1 = convL C P := by rw [convL, ← HF.out, if_neg h5, HS.out]; simp [leL]
        have hO := HO10.out
        rw [HE] at hO
        have HO := Lib.hid (hO.down (B' := w.heap.size) (by have := HGC.out; omega))
        clear hO
        go_ret2
        exact ⟨_, rfl, HO.out, HM10.out⟩
      | true =>
        rw [hs] at rc1
        have HS := Lib.hid hs
        clear hs
        go_enter Try.func58, Try.ntmps58
        go_wp2_with (refine wpList_load_row rfl 26 (.tmp 1) rfl w.heap.size (by rfl) _ _ _ _ R0.out Try.underlying26 rfl Try.infoC ?_)
        refine (V0.out _ M0.out).mono ?_
        rw [HV.out]
        rintro e w1 ⟨rfl, M1⟩
        have HR1 := Lib.hid (M1.heap R0.out (by simp))
        have HM1 := Lib.hid (M0.out.trans M1)
        have hz1 : w.heap.size + 1 ≤ w1.heap.size := by have := M1.size; simp at this; omega
        have cf0 : w1.cell? ⟨w.heap.size, 0, none⟩ = some (.int .i64 f) := (cell_blk HR1.out 0).trans rc0
        have c1 : w1.cell? ⟨w.heap.size, 1, none⟩ = some (.bool true) := (cell_blk HR1.out 1).trans rc1
        have c0 : (w1.alloc (.cells #[.int .u8 (f+128)] 5)).cell? ⟨w.heap.size, 0, none⟩ = some (.int .i64 f) := (cell_blk (heap_alloc HR1.out) 0).trans rc0
        have c2 : (w1.alloc (.cells #[.int .u8 (f+128)] 5)).cell? ⟨w.heap.size, 2, none⟩ = some (.int .i64 C.m) := (cell_blk (heap_alloc HR1.out) 2).trans rfl
        have c6 : (w1.alloc (.cells #[.int .u8 (f+128)] 5)).cell? ⟨w.heap.size, 6, none⟩ = some C.pts := (cell_blk (heap_alloc HR1.out) 6).trans rfl
        clear M1
        go_wp2_with fail
        have HR2 := Lib.hid (heap_alloc (o' := .cells #[.int .u8 (f+128)] 5) HR1.out)
        have HO2 : Hid (OwnB (w1.alloc (.cells #[.int .u8 (f+128)] 5)) (w.heap.size + 1) (.slice (some ⟨w1.heap.size, 0, none⟩) 1 1) [(f+128)]) := Lib.hid (OwnB.lit w1 hz1 [(f+128)] (by unfold maxLen; simp))
        have HM2 := Lib.hid (HM1.out.alloc (.cells #[.int .u8 (f+128)] 5))
        have hz2 : w.heap.size + 1 ≤ (w1.alloc (.cells #[.int .u8 (f+128)] 5)).heap.size := by simp; omega
        clear c0 c1 c2 cf0 c6 hz1 HR1 HM1
        generalize w1.alloc (.cells #[.int .u8 (f+128)] 5) = w2 at HR2 HO2 HM2 hz2 ⊢
        generalize w1.heap.size = g1 at HO2 ⊢
        generalize hgc : w.heap.size = gc at HR2 HO2 hz2 ⊢
        have HGC := Lib.hid hgc
        clear hgc
        refine (refLittle_ok w2 C.m 2 (by omega)).mono ?_
        rintro e w3 ⟨v3, rfl, OA, MA⟩
        have HX := Lib.hid (show OwnB _ _ _ _ from OA)
        have HOA := Lib.hid (HO2.out.mods0 MA)
        have HMA := Lib.hid (HM2.out.trans MA)
        have hzA := Nat.le_trans hz2 MA.size
        have HRA := Lib.hid (MA.heap HR2.out (by simp))
        clear OA MA
        go_wp2_with (at_builtin; refine wpList_appB (by rfl) (.tmp 22) (.tmp 25) rfl (v := (.slice (some ⟨g1, 0, none⟩) 1 1)) (by rfl) HOA.out (by rfl) HX.out.rd (by simp [leL_length] <;> omega) hzA ?_; intro v4 w4 OB MB; have HM4 := Lib.hid (HMA.out.comp MB (fun k hk => .inr (by have := HOA.out.back hk; have := HGC.out; omega))); have HO4 := Lib.hid OB; have HR4 := Lib.hid (MB.heap HRA.out (HOA.out.apart HRA.out (by decide))); have hz4 := Nat.le_trans hzA MB.size; have cB := (cell_blk HR4.out 3).trans (show _ = some (.int .i64 C.b) from rfl); clear OB MB)
        clear cB HX HOA HMA hzA HRA
        refine (refLittle_ok w4 C.b 2 (by omega)).mono ?_
        rintro e w5 ⟨v5, rfl, OA, MA⟩
        have HX := Lib.hid (show OwnB _ _ _ _ from OA)
        have HOA := Lib.hid (HO4.out.mods0 MA)
        have HMA := Lib.hid (HM4.out.trans MA)
        have hzA := Nat.le_trans hz4 MA.size
        have HRA := Lib.hid (MA.heap HR4.out (by simp))
        clear OA MA
        go_wp2_with (at_builtin; refine wpList_appB (by rfl) (.tmp 27) (.tmp 30) rfl (v := v4) (by rfl) HOA.out (by rfl) HX.out.rd (by simp [leL_length] <;> omega) hzA ?_; intro v6 w6 OB MB; have HM6 := Lib.hid (HMA.out.comp MB (fun k hk => .inr (by have := HOA.out.back hk; have := HGC.out; omega))); have HO6 := Lib.hid OB; have HR6 := Lib.hid (MB.heap HRA.out (HOA.out.apart HRA.out (by decide))); have hz6 := Nat.le_trans hzA MB.size; have cB := (cell_blk HR6.out 4).trans (show _ = some (.int .i64 C.k1) from rfl); clear OB MB)
        clear cB HX HOA HMA hzA HRA
        refine (refLittle_ok w6 C.k1 1 (by omega)).mono ?_
        rintro e w7 ⟨v7, rfl, OA, MA⟩
        have HX := Lib.hid (show OwnB _ _ _ _ from OA)
        have HOA := Lib.hid (HO6.out.mods0 MA)
        have HMA := Lib.hid (HM6.out.trans MA)
        have hzA := Nat.le_trans hz6 MA.size
        have HRA := Lib.hid (MA.heap HR6.out (by simp))
        clear OA MA
        go_wp2_with (at_builtin; refine wpList_appB (by rfl) (.tmp 32) (.tmp 35) rfl (v := v6) (by rfl) HOA.out (by rfl) HX.out.rd (by simp [leL_length] <;> omega) hzA ?_; intro v8 w8 OB MB; have HM8 := Lib.hid (HMA.out.comp MB (fun k hk => .inr (by have := HOA.out.back hk; have := HGC.out; omega))); have HO8 := Lib.hid OB; have HR8 := Lib.hid (MB.heap HRA.out (HOA.out.apart HRA.out (by decide))); have hz8 := Nat.le_trans hzA MB.size; have cB := (cell_blk HR8.out 5).trans (show _ = some (.int .i64 C.k2) from rfl); clear OB MB)
        clear cB HX HOA HMA hzA HRA
        refine (refLittle_ok w8 C.k2 1 (by omega)).mono ?_
        rintro e w9 ⟨v9, rfl, OA, MA⟩
        have HX := Lib.hid (show OwnB _ _ _ _ from OA)
        have HOA := Lib.hid (HO8.out.mods0 MA)
        have HMA := Lib.hid (HM8.out.trans MA)
        have hzA := Nat.le_trans hz8 MA.size
        have HRA := Lib.hid (MA.heap HR8.out (by simp))
        clear OA MA
        go_wp2_with (at_builtin; refine wpList_appB (by rfl) (.tmp 37) (.tmp 40) rfl (v := v8) (by rfl) HOA.out (by rfl) HX.out.rd (by simp [leL_length] <;> omega) hzA ?_; intro v10 w10 OB MB; have HM10 := Lib.hid (HMA.out.comp MB (fun k hk => .inr (by have := HOA.out.back hk; have := HGC.out; omega))); have HO10 := Lib.hid OB; have HR10 := Lib.hid (MB.heap HRA.out (HOA.out.apart HRA.out (by decide))); have hz10 := Nat.le_trans hzA MB.size; have cB := (cell_blk HR10.out 5).trans (show _ = some (.int .i64 C.k2) from rfl); clear OB MB)
        clear cB HX HOA HMA hzA HRA
        have HE : [(f+128)] ++ leL C.m 2 ++ leL C.b 2 ++ leL C.k1 1 ++ leL C.k2 1 = convL C P := by rw [convL, ← HF.out, if_neg h5, HS.out]; simp [leL]
        have hO := HO10.out
        rw [HE] at hO
        have HO := Lib.hid (hO.down (B' := w.heap.size) (by have := HGC.out; omega))
        clear hO
        go_ret2
        exact ⟨_, rfl, HO.out, HM10.out⟩
end Go.Proofs.Ytgjjmiaiclhidaa
