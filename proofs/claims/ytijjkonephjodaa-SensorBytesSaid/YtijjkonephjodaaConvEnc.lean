/- convert.Encode: contract. -/
import Derived.Test.YtijjkonephjodaaApb
import Derived.Test.YtijjkonephjodaaBys
import Derived.Test.YtijjkonephjodaaMadeConv
namespace Go.Proofs.Ytijjkonephjodaa
open Go.RowKit

/-- The bytes of points. -/
def ptsL (P : List Pt) : List Int := P.flatMap fun p => (p.raw : Int) :: leL p.val 6
theorem ptsL_length (P : List Pt) : (ptsL P).length = P.length * 7 := by
  induction P with
  | nil => rfl
  | cons p P ih => simp only [ptsL, List.flatMap_cons, List.length_append, List.length_cons, leL_length] at ih ⊢; omega
theorem ptsL_take (P : List Pt) (k : Nat) (hk : k < P.length) : ptsL (P.take (k + 1)) = ptsL (P.take k) ++ [((P.getD k default).raw : Int)] ++ leL (P.getD k default).val 6 := by
  rw [List.take_add_one, List.getElem?_eq_getElem hk, List.getD_eq_getElem?_getD, List.getElem?_eq_getElem hk, ptsL, List.flatMap_append]
  simp [ptsL]
/-- The bytes of a conversion. -/
def convL (C : Conv) (P : List Pt) : List Int :=
  (C.form + if C.sgn then 128 else 0) :: (if C.form = 5 then (P.length : Int) :: ptsL P else leL C.m 2 ++ leL C.b 2 ++ [C.k1 % 256, C.k2 % 256])
/-- What an Encode gives. -/
def EncRes (w : World) (ok : Bool) (A : List Int) (e : Ending) (w' : World) : Prop :=
  if ok then EncOut w A e w' else e = .returned (.tuple #[.slice none 0 0, .int .i64 1]) ∧ Mods [] w w'
theorem convB_lin {C : Conv} {P : List Pt} (h : convB C P = true) (h5 : C.form ≠ 5) : (1 ≤ C.form ∧ C.form ≤ 4) ∧ P = [] := by
  unfold convB at h
  split at h
  · rename_i h14
    simp only [Bool.and_eq_true, decide_eq_true_eq] at h
    exact ⟨h14, List.eq_nil_of_length_eq_zero h.2⟩
  · simp only [Bool.and_eq_true, decide_eq_true_eq] at h
    exact absurd h.1.1 h5
theorem convB_tab {C : Conv} {P : List Pt} (h : convB C P = true) (h5 : C.form = 5) : 2 ≤ P.length ∧ P.length ≤ 12 := by
  unfold convB at h
  rw [if_neg (by omega)] at h
  simp only [Bool.and_eq_true, decide_eq_true_eq, tableB] at h
  exact h.2.1
theorem or128 (f : Int) (h : 1 ≤ f ∧ f ≤ 5) : bits .or .u8 f 128 = f + 128 := by
  have : f = 1 ∨ f = 2 ∨ f = 3 ∨ f = 4 ∨ f = 5 := by omega
  rcases this with rfl | rfl | rfl | rfl | rfl <;> decide
set_option maxRecDepth 100000 in
set_option maxHeartbeats 2000000 in
theorem convEnc_ok (w : World) (C : Conv) (P : List Pt) (hC : IsConv w C P) :
    Calls Try.prog 51 #[.agg C.cells] w fun e w' => EncRes w (convB C P) (convL C P) e w' := by
  have HC := Lib.hid hC
  have R0 := Lib.hid (heap_alloc_new w (.cells C.cells 26))
  have M0 := Lib.hid ((Mods.refl (S := []) (w := w)).alloc (.cells C.cells 26))
  have V0 := Lib.hid (fun W (M : Mods [] w W) => convValid_ok W C P (hC.mods0 M))
  clear hC
  cases hv : convB C P with
  | false =>
    have HV := Lib.hid hv
    clear hv
    go_enter Try.func51, Try.ntmps51
    go_wp2_with (refine wpList_load_row rfl 26 (.tmp 1) rfl w.heap.size (by rfl) _ _ _ _ R0.out Try.underlying26 rfl Try.infoC ?_)
    refine (V0.out _ M0.out).mono ?_
    rw [HV.out]
    rintro e w1 ⟨rfl, M1⟩
    go_wp2
    go_ret2
    exact ⟨rfl, M0.out.trans M1⟩
  | true =>
    have HV := Lib.hid hv
    have hf15 : 1 ≤ C.form ∧ C.form ≤ 5 := by
      by_cases h5 : C.form = 5
      · omega
      · have := convB_lin hv h5; omega
    obtain ⟨hf1, hf5⟩ := hf15
    have eor := or128 C.form ⟨hf1, hf5⟩
    clear hv
    have rc0 : C.cells[0]? = some (.int .i64 C.form) := rfl
    have rc1 : C.cells[1]? = some (.bool C.sgn) := rfl
    obtain ⟨f, hf⟩ : ∃ f, f = C.form := ⟨_, rfl⟩
    rw [← hf] at hf1 hf5 eor rc0
    have HF := Lib.hid hf
    clear hf
    by_cases h5 : f = 5
    · have d5 : (f != 5) = false := by simpa using h5
      have HF5 := Lib.hid h5
      clear h5
      have hI := HC.out
      have hPl := convB_tab HV.out (HF.out.symm.trans HF5.out)
      obtain ⟨hp2, hp12⟩ := hPl
      have HPK := Lib.hid hI.pok
      obtain ⟨ad, cap, hpts, hc1, hc2, -⟩ := hI.rd
      have hcap : cap ≤ 9223372036854775807 := hc2
      clear hI hc2
      have rc6 : C.cells[6]? = some (.slice ad P.length cap) := by rw [← hpts]; rfl
      have HPT := Lib.hid hpts
      clear hpts
      cases hs : C.sgn with
      | false =>
        rw [hs] at rc1
        have HS := Lib.hid hs
        clear hs
        go_enter Try.func51, Try.ntmps51
        go_wp2_with (refine wpList_load_row rfl 26 (.tmp 1) rfl w.heap.size (by rfl) _ _ _ _ R0.out Try.underlying26 rfl Try.infoC ?_)
        refine (V0.out _ M0.out).mono ?_
        rw [HV.out]
        rintro e w1 ⟨rfl, M1⟩
        have HR1 := Lib.hid (M1.heap R0.out (by simp))
        have HM1 := Lib.hid (M0.out.trans M1)
        have hz1 : w.heap.size + 1 ≤ w1.heap.size := by have := M1.size; simp at this; omega
        have cf0 : w1.cell? ⟨w.heap.size, 0, none⟩ = some (.int .i64 f) := (cell_blk HR1.out 0).trans rc0
        have c1 : (w1.alloc (.cells #[.int .u8 f] 5)).cell? ⟨w.heap.size, 1, none⟩ = some (.bool false) := (cell_blk (heap_alloc HR1.out) 1).trans rc1
        have c0 : (w1.alloc (.cells #[.int .u8 f] 5)).cell? ⟨w.heap.size, 0, none⟩ = some (.int .i64 f) := (cell_blk (heap_alloc HR1.out) 0).trans rc0
        have a0 : (w1.alloc (.cells #[.int .u8 f] 5)).cell? ⟨w1.heap.size, 0, none⟩ = some (.int .u8 f) := (cell_blk (heap_alloc_new w1 _) 0).trans rfl
        have f0 : (w1.alloc (.cells #[.int .u8 f] 5)).frozen? ⟨w1.heap.size, 0, none⟩ = false := froz_blk (heap_alloc_new w1 _) 0
        clear M1
        go_wp2_with (first
          | (show wpList _ _ _ (⟨some 43, .fieldAddr 26 (.tmp 1) 6, _, _, _, _⟩ :: _) _ _
             have HR2 := Lib.hid (heap_alloc (o' := .cells #[.int .u8 f] 5) HR1.out)
             have HO2 : Hid (OwnB (w1.alloc (.cells #[.int .u8 f] 5)) (w.heap.size + 1) (.slice (some ⟨w1.heap.size, 0, none⟩) 1 1) [f]) := Lib.hid (OwnB.lit w1 hz1 [f] (by unfold maxLen; simp))
             have HM2 := Lib.hid (HM1.out.alloc (.cells #[.int .u8 f] 5))
             have hz2 : w.heap.size + 1 ≤ (w1.alloc (.cells #[.int .u8 f] 5)).heap.size := by simp; omega
             clear c0 c1 a0 f0 cf0 hz1 HR1 HM1
             generalize w1.alloc (.cells #[.int .u8 f] 5) = w2 at HR2 HO2 HM2 hz2 ⊢
             generalize w1.heap.size = g1 at HO2 ⊢
             generalize hgc : w.heap.size = gc at HR2 HO2 hz2 ⊢
             have HGC := Lib.hid hgc
             clear hgc
             have c6 : w2.cell? ⟨gc, 6, none⟩ = some (.slice ad P.length cap) := (cell_blk HR2.out 6).trans rc6)
          | (at_builtin; refine wpList_appB (by rfl) (.tmp 42) (.tmp 47) rfl (v := .slice (some ⟨g1, 0, none⟩) 1 1) (by rfl) (HO2.out.mods0 (Mods.refl.alloc _)) (by rfl) (OwnB.lit w2 (Nat.le_refl _) [(P.length : Int)] (by unfold maxLen; simp)).rd (by simp) (by simp; omega) ?_; intro v3 w3 O3 M3; have HM3 := Lib.hid ((HM2.out.alloc (.cells (u8s [(P.length : Int)]).toArray 5)).comp M3 (fun k hk => .inr (by have := HO2.out.back hk; have := HGC.out; omega))); have HR3 := Lib.hid (M3.heap (heap_alloc (o' := .cells (u8s [(P.length : Int)]).toArray 5) HR2.out) (fun hm => by have := HO2.out.back hm; omega)); have c63 : w3.cell? ⟨gc, 6, none⟩ = some (.slice ad P.length cap) := ((cell_blk HR3.out 6).trans rc6); have hz3 : gc + 1 ≤ w3.heap.size := Nat.le_trans hz2 (Nat.le_trans ((Mods.refl (S := []) (w := w2)).alloc (.cells (u8s [(P.length : Int)]).toArray 5)).size M3.size); have HO3 := Lib.hid O3; clear O3 M3))
        clear c6 c63 hz2
        clear R0 M0 V0 HR2 HM2 HO2 HR3
        go_loopw [4, 6, 52] (fun o p i wr => ∃ k : Nat, k ≤ P.length ∧ i = .int .i64 k ∧ p = p ∧ OwnB wr (gc + 1) o ([f] ++ [(P.length : Int)] ++ ptsL (P.take k)) ∧ Mods [] w wr ∧ gc + 1 ≤ wr.heap.size) (fun _ _ i _ => P.length - (intOf i).toNat)
        case atStart => exact ⟨0, Nat.zero_le _, rfl, rfl, by simpa [ptsL] using HO3.out, HM3.out, hz3⟩
        case round =>
          obtain ⟨k, hk, rfl, _, O, M, hz⟩ := hrel
          clear HO3 HM3 hz3
          by_cases hlt : k < P.length
          · obtain ⟨_, _, he, _, _, hc⟩ := HC.out.rd.mods0 M
            obtain ⟨bb, off, rfl, x0, x1⟩ := hc k hlt
            rw [HPT.out] at he
            injection he with he1 he2 he3
            subst he1 he3
            clear hc he2
            have hraw := HPK.out.raw k
            have HVAL := Lib.hid (HPK.out.val k)
            have HTK := Lib.hid (ptsL_take P k hlt)
            have hlen : (ptsL (P.take k)).length ≤ 84 := by rw [ptsL_length, List.length_take]; omega
            have i1 : (0 : Int) ≤ (k : Int) := by omega
            have i2 : (k : Int) < (P.length : Int) := by omega
            generalize (P.getD k default).raw = rr at x0 hraw HTK
            generalize (P.getD k default).val = vv at x1 HVAL HTK
            have HM := Lib.hid M
            have HO := Lib.hid O
            clear M O
            go_wp2_with fail
            have HR3 := Lib.hid (heap_alloc_new wr (.cells #[.int .u8 (rr : Int), .int .i64 vv] 115))
            have MA := (Mods.refl (S := []) (w := wr)).alloc (.cells #[.int .u8 (rr : Int), .int .i64 vv] 115)
            have HO := Lib.hid (HO.out.mods0 MA)
            have HM := Lib.hid (HM.out.trans MA)
            have hzw : gc + 1 ≤ (wr.alloc (.cells #[.int .u8 (rr : Int), .int .i64 vv] 115)).heap.size := Nat.le_trans hz MA.size
            have hg6 := Nat.le_refl wr.heap.size
            clear MA x0 x1
            generalize wr.alloc (.cells #[.int .u8 (rr : Int), .int .i64 vv] 115) = w3 at HR3 HO HM hzw ⊢
            generalize hg : wr.heap.size = g6 at HR3 hz ⊢
            try dsimp only [Act.put]
            refine heldStart (S := fun W => W.heap[g6]? = some (.cells #[.int .u8 (rr : Int), .int .i64 vv] 115 (0, 0))) 10 rfl (by kernel_rfl) HR3.out (fun hHeld => ?_)
            refine takeD (i := 0) (d := 56) (v := ?_) rfl rfl (by kernel_rfl) (by kernel_rfl) (by kernel_rfl) (fun _ _ _ h => h) (Or.inl ⟨by rfl, ?_⟩) hHeld ?_
            rotate_left 1
            · (intro w hSw; (try dsimp only at hSw); go_simp; (try with_reducible rfl))
            simp only [List.setIfInBounds_toArray, List.set_cons_zero, List.set_cons_succ]
            refine takeD (i := 1) (d := 57) (v := ?_) rfl rfl (by kernel_rfl) (by kernel_rfl) (by kernel_rfl) (fun _ _ _ h => h) (Or.inl ⟨by rfl, ?_⟩) hHeld ?_
            rotate_left 1
            · (intro w hSw; (try dsimp only at hSw); go_simp; (try with_reducible rfl))
            simp only [List.setIfInBounds_toArray, List.set_cons_zero, List.set_cons_succ]
            refine takeD (i := 2) (d := 58) (v := (.int .u8 (rr : Int))) rfl rfl (by kernel_rfl) (by kernel_rfl) (by kernel_rfl) (fun _ _ _ h => h) (Or.inl ⟨by rfl, fun w hSw => ?_⟩) hHeld ?_
            · have cst := (cell_blk hSw 0).trans (show _ = some (.int .u8 (rr : Int)) from rfl)
              go_simp
            simp only [List.setIfInBounds_toArray, List.set_cons_zero, List.set_cons_succ]
            refine takeD (i := 5) (d := 61) (v := ?_) rfl rfl (by kernel_rfl) (by kernel_rfl) (by kernel_rfl) (fun _ _ _ h => h) (Or.inl ⟨by rfl, ?_⟩) hHeld ?_
            rotate_left 1
            · (intro w hSw; (try dsimp only at hSw); go_simp; (try with_reducible rfl))
            simp only [List.setIfInBounds_toArray, List.set_cons_zero, List.set_cons_succ]
            refine takeD (i := 6) (d := 62) (v := (.int .i64 vv)) rfl rfl (by kernel_rfl) (by kernel_rfl) (by kernel_rfl) (fun _ _ _ h => h) (Or.inl ⟨by rfl, fun w hSw => ?_⟩) hHeld ?_
            · have cst := (cell_blk hSw 1).trans (show _ = some (.int .i64 vv) from rfl)
              go_simp
            simp only [List.setIfInBounds_toArray, List.set_cons_zero, List.set_cons_succ]
            refine wpAnyH_ready (rs := [3]) (by kernel_rfl) (by simp) ?_
            refine AllReadyH.cons rfl (fun K hK => ?_) AllReadyH.nil
            go_simp
            refine hK.out _ _ ?_ (fun hHeld => ?_)
            · exact heap_alloc hHeld
            clear hK K
            have MB := (Mods.refl (S := []) (w := w3)).drewN 1 |>.alloc (.cells (u8s [(rr : Int)]).toArray 5)
            have HO4 := Lib.hid (HO.out.mods0 MB)
            have HL4 := Lib.hid (OwnB.lit (w3.drewN 1) (Nat.le_refl _) [(rr : Int)] (by unfold maxLen; simp)).rd
            have HM4 := Lib.hid (HM.out.trans MB)
            have hz4 := Nat.le_trans hzw MB.size
            clear MB HO HM HR3
            refine wpAnyH_ready (rs := [4]) (by kernel_rfl) (by simp) ?_
            refine AllReadyH.cons rfl (fun K hK => ?_) AllReadyH.nil
            refine step_appD (v := u4) (by rfl) 60 rfl (.tmp 56) (.tmp 59) rfl rfl HO4.out rfl HL4.out (by (simp only [List.length_append, List.length_cons, List.length_nil]; omega)) (by exact hz4) (fun v5 w5 O5 M5 => ?_)
            refine hK.out _ _ ?_ (fun hHeld => ?_)
            · exact M5.heap hHeld (HO4.out.apart hHeld (by decide))
            clear hK K
            simp only [List.setIfInBounds_toArray, List.set_cons_zero, List.set_cons_succ]
            have HM5 := Lib.hid (HM4.out.comp M5 (fun k hk => .inr (by have := HO4.out.back hk; have := HGC.out; omega)))
            have hz5 : gc + 1 ≤ w5.heap.size := Nat.le_trans hz4 M5.size
            have HO5 := Lib.hid O5
            clear O5 M5 HM4 HO4 HL4 hz4
            refine wpAnyH_ready (rs := [7]) (by kernel_rfl) (by simp) ?_
            refine AllReadyH.cons rfl (fun K hK => ?_) AllReadyH.nil
            go_simp
            go_wp2_with (go_at_call 85; refine (write_ok _ vv 6 HVAL.out (by omega)).mono ?_; rintro e w6 ⟨v6, rfl, O6, M6⟩)
            refine hK.out _ _ ?_ (fun hHeld => ?_)
            · exact M6.heap hHeld (by simp)
            clear hK K
            have HO6 := Lib.hid (show OwnB _ _ _ _ from O6)
            have HO5 := Lib.hid (HO5.out.mods0 M6)
            have HM6 := Lib.hid (HM5.out.trans M6)
            have hz6 : gc + 1 ≤ w6.heap.size := Nat.le_trans hz5 M6.size
            clear O6 M6 HM5 hz5
            refine wpAnyH_ready (rs := [8]) (by kernel_rfl) (by simp) ?_
            refine AllReadyH.cons rfl (fun K hK => ?_) AllReadyH.nil
            refine step_appD (v := v5) (by rfl) 64 rfl (.tmp 60) (.tmp 63) rfl rfl HO5.out rfl HO6.out.rd (by (simp only [List.length_append, leL_length, List.length_cons, List.length_nil]; omega)) (by exact hz6) (fun v7 w7 O7 M7 => ?_)
            refine hK.out _ _ ?_ (fun hHeld => ?_)
            · exact M7.heap hHeld (HO5.out.apart hHeld (by decide))
            clear hK K
            simp only [List.setIfInBounds_toArray, List.set_cons_zero, List.set_cons_succ]
            have HM7 := Lib.hid (HM6.out.comp M7 (fun k hk => .inr (by have := HO5.out.back hk; have := HGC.out; omega)))
            have hz7 : gc + 1 ≤ w7.heap.size := Nat.le_trans hz6 M7.size
            have HO7 : Hid (OwnB w7 (gc + 1) v7 ([f] ++ [(P.length : Int)] ++ ptsL (P.take (k + 1)))) := Lib.hid (by rw [HTK.out]; simpa [List.append_assoc] using O7)
            clear O7 M7 HM6 HO5 HO6 hz6
            refine takeD (i := 9) (d := 4) (v := ?_) rfl rfl (by kernel_rfl) (by kernel_rfl) (by kernel_rfl) (fun _ _ _ h => h) (Or.inl ⟨by rfl, ?_⟩) hHeld ?_
            rotate_left 1
            · (intro w hSw; (try dsimp only at hSw); go_simp; (try with_reducible rfl))
            simp only [List.setIfInBounds_toArray, List.set_cons_zero, List.set_cons_succ]
            refine wpAnyH_done (by kernel_rfl) ?_ _
            clear hHeld
            go_wp2
            exact ⟨⟨k + 1, by omega, by go_num, by trivial, HO7.out, HM7.out, hz7⟩, by simp only [intOf]; omega⟩
          · have hk2 : k = P.length := by omega
            have HE : [f] ++ [(P.length : Int)] ++ ptsL (P.take k) = convL C P := by rw [convL, ← HF.out, if_pos HF5.out, HS.out, hk2, List.take_length]; simp
            rw [HE] at O
            have HO := Lib.hid (O.down (B' := w.heap.size) (by have := HGC.out; omega))
            have HM := Lib.hid M
            clear O M
            go_wp2_with fail
            go_ret2
            exact ⟨_, rfl, HO.out, HM.out⟩
      | true =>
        rw [hs] at rc1
        have HS := Lib.hid hs
        clear hs
        go_enter Try.func51, Try.ntmps51
        go_wp2_with (refine wpList_load_row rfl 26 (.tmp 1) rfl w.heap.size (by rfl) _ _ _ _ R0.out Try.underlying26 rfl Try.infoC ?_)
        refine (V0.out _ M0.out).mono ?_
        rw [HV.out]
        rintro e w1 ⟨rfl, M1⟩
        have HR1 := Lib.hid (M1.heap R0.out (by simp))
        have HM1 := Lib.hid (M0.out.trans M1)
        have hz1 : w.heap.size + 1 ≤ w1.heap.size := by have := M1.size; simp at this; omega
        have cf0 : w1.cell? ⟨w.heap.size, 0, none⟩ = some (.int .i64 f) := (cell_blk HR1.out 0).trans rc0
        have c1 : (w1.alloc (.cells #[.int .u8 f] 5)).cell? ⟨w.heap.size, 1, none⟩ = some (.bool true) := (cell_blk (heap_alloc HR1.out) 1).trans rc1
        have c0 : (w1.alloc (.cells #[.int .u8 (f+128)] 5)).cell? ⟨w.heap.size, 0, none⟩ = some (.int .i64 f) := (cell_blk (heap_alloc HR1.out) 0).trans rc0
        have a0 : (w1.alloc (.cells #[.int .u8 f] 5)).cell? ⟨w1.heap.size, 0, none⟩ = some (.int .u8 f) := (cell_blk (heap_alloc_new w1 _) 0).trans rfl
        have f0 : (w1.alloc (.cells #[.int .u8 f] 5)).frozen? ⟨w1.heap.size, 0, none⟩ = false := froz_blk (heap_alloc_new w1 _) 0
        clear M1
        go_wp2_with (first
          | (show wpList _ _ _ (⟨some 43, .fieldAddr 26 (.tmp 1) 6, _, _, _, _⟩ :: _) _ _
             have HR2 := Lib.hid (heap_alloc (o' := .cells #[.int .u8 (f+128)] 5) HR1.out)
             have HO2 : Hid (OwnB (w1.alloc (.cells #[.int .u8 (f+128)] 5)) (w.heap.size + 1) (.slice (some ⟨w1.heap.size, 0, none⟩) 1 1) [(f+128)]) := Lib.hid (OwnB.lit w1 hz1 [(f+128)] (by unfold maxLen; simp))
             have HM2 := Lib.hid (HM1.out.alloc (.cells #[.int .u8 (f+128)] 5))
             have hz2 : w.heap.size + 1 ≤ (w1.alloc (.cells #[.int .u8 (f+128)] 5)).heap.size := by simp; omega
             clear c0 c1 a0 f0 cf0 hz1 HR1 HM1
             generalize w1.alloc (.cells #[.int .u8 (f+128)] 5) = w2 at HR2 HO2 HM2 hz2 ⊢
             generalize w1.heap.size = g1 at HO2 ⊢
             generalize hgc : w.heap.size = gc at HR2 HO2 hz2 ⊢
             have HGC := Lib.hid hgc
             clear hgc
             have c6 : w2.cell? ⟨gc, 6, none⟩ = some (.slice ad P.length cap) := (cell_blk HR2.out 6).trans rc6)
          | (at_builtin; refine wpList_appB (by rfl) (.tmp 42) (.tmp 47) rfl (v := .slice (some ⟨g1, 0, none⟩) 1 1) (by rfl) (HO2.out.mods0 (Mods.refl.alloc _)) (by rfl) (OwnB.lit w2 (Nat.le_refl _) [(P.length : Int)] (by unfold maxLen; simp)).rd (by simp) (by simp; omega) ?_; intro v3 w3 O3 M3; have HM3 := Lib.hid ((HM2.out.alloc (.cells (u8s [(P.length : Int)]).toArray 5)).comp M3 (fun k hk => .inr (by have := HO2.out.back hk; have := HGC.out; omega))); have HR3 := Lib.hid (M3.heap (heap_alloc (o' := .cells (u8s [(P.length : Int)]).toArray 5) HR2.out) (fun hm => by have := HO2.out.back hm; omega)); have c63 : w3.cell? ⟨gc, 6, none⟩ = some (.slice ad P.length cap) := ((cell_blk HR3.out 6).trans rc6); have hz3 : gc + 1 ≤ w3.heap.size := Nat.le_trans hz2 (Nat.le_trans ((Mods.refl (S := []) (w := w2)).alloc (.cells (u8s [(P.length : Int)]).toArray 5)).size M3.size); have HO3 := Lib.hid O3; clear O3 M3))
        clear c6 c63 hz2
        clear R0 M0 V0 HR2 HM2 HO2 HR3
        go_loopw [4, 6, 52] (fun o p i wr => ∃ k : Nat, k ≤ P.length ∧ i = .int .i64 k ∧ p = p ∧ OwnB wr (gc + 1) o ([(f+128)] ++ [(P.length : Int)] ++ ptsL (P.take k)) ∧ Mods [] w wr ∧ gc + 1 ≤ wr.heap.size) (fun _ _ i _ => P.length - (intOf i).toNat)
        case atStart => exact ⟨0, Nat.zero_le _, rfl, rfl, by simpa [ptsL] using HO3.out, HM3.out, hz3⟩
        case round =>
          obtain ⟨k, hk, rfl, _, O, M, hz⟩ := hrel
          clear HO3 HM3 hz3
          by_cases hlt : k < P.length
          · obtain ⟨_, _, he, _, _, hc⟩ := HC.out.rd.mods0 M
            obtain ⟨bb, off, rfl, x0, x1⟩ := hc k hlt
            rw [HPT.out] at he
            injection he with he1 he2 he3
            subst he1 he3
            clear hc he2
            have hraw := HPK.out.raw k
            have HVAL := Lib.hid (HPK.out.val k)
            have HTK := Lib.hid (ptsL_take P k hlt)
            have hlen : (ptsL (P.take k)).length ≤ 84 := by rw [ptsL_length, List.length_take]; omega
            have i1 : (0 : Int) ≤ (k : Int) := by omega
            have i2 : (k : Int) < (P.length : Int) := by omega
            generalize (P.getD k default).raw = rr at x0 hraw HTK
            generalize (P.getD k default).val = vv at x1 HVAL HTK
            have HM := Lib.hid M
            have HO := Lib.hid O
            clear M O
            go_wp2_with fail
            have HR3 := Lib.hid (heap_alloc_new wr (.cells #[.int .u8 (rr : Int), .int .i64 vv] 115))
            have MA := (Mods.refl (S := []) (w := wr)).alloc (.cells #[.int .u8 (rr : Int), .int .i64 vv] 115)
            have HO := Lib.hid (HO.out.mods0 MA)
            have HM := Lib.hid (HM.out.trans MA)
            have hzw : gc + 1 ≤ (wr.alloc (.cells #[.int .u8 (rr : Int), .int .i64 vv] 115)).heap.size := Nat.le_trans hz MA.size
            have hg6 := Nat.le_refl wr.heap.size
            clear MA x0 x1
            generalize wr.alloc (.cells #[.int .u8 (rr : Int), .int .i64 vv] 115) = w3 at HR3 HO HM hzw ⊢
            generalize hg : wr.heap.size = g6 at HR3 hz ⊢
            try dsimp only [Act.put]
            refine heldStart (S := fun W => W.heap[g6]? = some (.cells #[.int .u8 (rr : Int), .int .i64 vv] 115 (0, 0))) 10 rfl (by kernel_rfl) HR3.out (fun hHeld => ?_)
            refine takeD (i := 0) (d := 56) (v := ?_) rfl rfl (by kernel_rfl) (by kernel_rfl) (by kernel_rfl) (fun _ _ _ h => h) (Or.inl ⟨by rfl, ?_⟩) hHeld ?_
            rotate_left 1
            · (intro w hSw; (try dsimp only at hSw); go_simp; (try with_reducible rfl))
            simp only [List.setIfInBounds_toArray, List.set_cons_zero, List.set_cons_succ]
            refine takeD (i := 1) (d := 57) (v := ?_) rfl rfl (by kernel_rfl) (by kernel_rfl) (by kernel_rfl) (fun _ _ _ h => h) (Or.inl ⟨by rfl, ?_⟩) hHeld ?_
            rotate_left 1
            · (intro w hSw; (try dsimp only at hSw); go_simp; (try with_reducible rfl))
            simp only [List.setIfInBounds_toArray, List.set_cons_zero, List.set_cons_succ]
            refine takeD (i := 2) (d := 58) (v := (.int .u8 (rr : Int))) rfl rfl (by kernel_rfl) (by kernel_rfl) (by kernel_rfl) (fun _ _ _ h => h) (Or.inl ⟨by rfl, fun w hSw => ?_⟩) hHeld ?_
            · have cst := (cell_blk hSw 0).trans (show _ = some (.int .u8 (rr : Int)) from rfl)
              go_simp
            simp only [List.setIfInBounds_toArray, List.set_cons_zero, List.set_cons_succ]
            refine takeD (i := 5) (d := 61) (v := ?_) rfl rfl (by kernel_rfl) (by kernel_rfl) (by kernel_rfl) (fun _ _ _ h => h) (Or.inl ⟨by rfl, ?_⟩) hHeld ?_
            rotate_left 1
            · (intro w hSw; (try dsimp only at hSw); go_simp; (try with_reducible rfl))
            simp only [List.setIfInBounds_toArray, List.set_cons_zero, List.set_cons_succ]
            refine takeD (i := 6) (d := 62) (v := (.int .i64 vv)) rfl rfl (by kernel_rfl) (by kernel_rfl) (by kernel_rfl) (fun _ _ _ h => h) (Or.inl ⟨by rfl, fun w hSw => ?_⟩) hHeld ?_
            · have cst := (cell_blk hSw 1).trans (show _ = some (.int .i64 vv) from rfl)
              go_simp
            simp only [List.setIfInBounds_toArray, List.set_cons_zero, List.set_cons_succ]
            refine wpAnyH_ready (rs := [3]) (by kernel_rfl) (by simp) ?_
            refine AllReadyH.cons rfl (fun K hK => ?_) AllReadyH.nil
            go_simp
            refine hK.out _ _ ?_ (fun hHeld => ?_)
            · exact heap_alloc hHeld
            clear hK K
            have MB := (Mods.refl (S := []) (w := w3)).drewN 1 |>.alloc (.cells (u8s [(rr : Int)]).toArray 5)
            have HO4 := Lib.hid (HO.out.mods0 MB)
            have HL4 := Lib.hid (OwnB.lit (w3.drewN 1) (Nat.le_refl _) [(rr : Int)] (by unfold maxLen; simp)).rd
            have HM4 := Lib.hid (HM.out.trans MB)
            have hz4 := Nat.le_trans hzw MB.size
            clear MB HO HM HR3
            refine wpAnyH_ready (rs := [4]) (by kernel_rfl) (by simp) ?_
            refine AllReadyH.cons rfl (fun K hK => ?_) AllReadyH.nil
            refine step_appD (v := u4) (by rfl) 60 rfl (.tmp 56) (.tmp 59) rfl rfl HO4.out rfl HL4.out (by (simp only [List.length_append, List.length_cons, List.length_nil]; omega)) (by exact hz4) (fun v5 w5 O5 M5 => ?_)
            refine hK.out _ _ ?_ (fun hHeld => ?_)
            · exact M5.heap hHeld (HO4.out.apart hHeld (by decide))
            clear hK K
            simp only [List.setIfInBounds_toArray, List.set_cons_zero, List.set_cons_succ]
            have HM5 := Lib.hid (HM4.out.comp M5 (fun k hk => .inr (by have := HO4.out.back hk; have := HGC.out; omega)))
            have hz5 : gc + 1 ≤ w5.heap.size := Nat.le_trans hz4 M5.size
            have HO5 := Lib.hid O5
            clear O5 M5 HM4 HO4 HL4 hz4
            refine wpAnyH_ready (rs := [7]) (by kernel_rfl) (by simp) ?_
            refine AllReadyH.cons rfl (fun K hK => ?_) AllReadyH.nil
            go_simp
            go_wp2_with (go_at_call 85; refine (write_ok _ vv 6 HVAL.out (by omega)).mono ?_; rintro e w6 ⟨v6, rfl, O6, M6⟩)
            refine hK.out _ _ ?_ (fun hHeld => ?_)
            · exact M6.heap hHeld (by simp)
            clear hK K
            have HO6 := Lib.hid (show OwnB _ _ _ _ from O6)
            have HO5 := Lib.hid (HO5.out.mods0 M6)
            have HM6 := Lib.hid (HM5.out.trans M6)
            have hz6 : gc + 1 ≤ w6.heap.size := Nat.le_trans hz5 M6.size
            clear O6 M6 HM5 hz5
            refine wpAnyH_ready (rs := [8]) (by kernel_rfl) (by simp) ?_
            refine AllReadyH.cons rfl (fun K hK => ?_) AllReadyH.nil
            refine step_appD (v := v5) (by rfl) 64 rfl (.tmp 60) (.tmp 63) rfl rfl HO5.out rfl HO6.out.rd (by (simp only [List.length_append, leL_length, List.length_cons, List.length_nil]; omega)) (by exact hz6) (fun v7 w7 O7 M7 => ?_)
            refine hK.out _ _ ?_ (fun hHeld => ?_)
            · exact M7.heap hHeld (HO5.out.apart hHeld (by decide))
            clear hK K
            simp only [List.setIfInBounds_toArray, List.set_cons_zero, List.set_cons_succ]
            have HM7 := Lib.hid (HM6.out.comp M7 (fun k hk => .inr (by have := HO5.out.back hk; have := HGC.out; omega)))
            have hz7 : gc + 1 ≤ w7.heap.size := Nat.le_trans hz6 M7.size
            have HO7 : Hid (OwnB w7 (gc + 1) v7 ([(f+128)] ++ [(P.length : Int)] ++ ptsL (P.take (k + 1)))) := Lib.hid (by rw [HTK.out]; simpa [List.append_assoc] using O7)
            clear O7 M7 HM6 HO5 HO6 hz6
            refine takeD (i := 9) (d := 4) (v := ?_) rfl rfl (by kernel_rfl) (by kernel_rfl) (by kernel_rfl) (fun _ _ _ h => h) (Or.inl ⟨by rfl, ?_⟩) hHeld ?_
            rotate_left 1
            · (intro w hSw; (try dsimp only at hSw); go_simp; (try with_reducible rfl))
            simp only [List.setIfInBounds_toArray, List.set_cons_zero, List.set_cons_succ]
            refine wpAnyH_done (by kernel_rfl) ?_ _
            clear hHeld
            go_wp2
            exact ⟨⟨k + 1, by omega, by go_num, by trivial, HO7.out, HM7.out, hz7⟩, by simp only [intOf]; omega⟩
          · have hk2 : k = P.length := by omega
            have HE : [(f+128)] ++ [(P.length : Int)] ++ ptsL (P.take k) = convL C P := by rw [convL, ← HF.out, if_pos HF5.out, HS.out, hk2, List.take_length]; simp
            rw [HE] at O
            have HO := Lib.hid (O.down (B' := w.heap.size) (by have := HGC.out; omega))
            have HM := Lib.hid M
            clear O M
            go_wp2_with fail
            go_ret2
            exact ⟨_, rfl, HO.out, HM.out⟩
    · have d5 : (f != 5) = true := by simpa using h5
      cases hs : C.sgn with
      | false =>
        rw [hs] at rc1
        have HS := Lib.hid hs
        clear hs
        go_enter Try.func51, Try.ntmps51
        go_wp2_with (refine wpList_load_row rfl 26 (.tmp 1) rfl w.heap.size (by rfl) _ _ _ _ R0.out Try.underlying26 rfl Try.infoC ?_)
        refine (V0.out _ M0.out).mono ?_
        rw [HV.out]
        rintro e w1 ⟨rfl, M1⟩
        have HR1 := Lib.hid (M1.heap R0.out (by simp))
        have HM1 := Lib.hid (M0.out.trans M1)
        have hz1 : w.heap.size + 1 ≤ w1.heap.size := by have := M1.size; simp at this; omega
        have cf0 : w1.cell? ⟨w.heap.size, 0, none⟩ = some (.int .i64 f) := (cell_blk HR1.out 0).trans rc0
        have c1 : (w1.alloc (.cells #[.int .u8 f] 5)).cell? ⟨w.heap.size, 1, none⟩ = some (.bool false) := (cell_blk (heap_alloc HR1.out) 1).trans rc1
        have c0 : (w1.alloc (.cells #[.int .u8 f] 5)).cell? ⟨w.heap.size, 0, none⟩ = some (.int .i64 f) := (cell_blk (heap_alloc HR1.out) 0).trans rc0
        have a0 : (w1.alloc (.cells #[.int .u8 f] 5)).cell? ⟨w1.heap.size, 0, none⟩ = some (.int .u8 f) := (cell_blk (heap_alloc_new w1 _) 0).trans rfl
        have f0 : (w1.alloc (.cells #[.int .u8 f] 5)).frozen? ⟨w1.heap.size, 0, none⟩ = false := froz_blk (heap_alloc_new w1 _) 0
        clear M1
        go_wp2_with fail
        have HR2 := Lib.hid (heap_alloc (o' := .cells #[.int .u8 f] 5) HR1.out)
        have HO2 : Hid (OwnB (w1.alloc (.cells #[.int .u8 f] 5)) (w.heap.size + 1) (.slice (some ⟨w1.heap.size, 0, none⟩) 1 1) [f]) := Lib.hid (OwnB.lit w1 hz1 [f] (by unfold maxLen; simp))
        have HM2 := Lib.hid (HM1.out.alloc (.cells #[.int .u8 f] 5))
        have hz2 : w.heap.size + 1 ≤ (w1.alloc (.cells #[.int .u8 f] 5)).heap.size := by simp; omega
        clear c0 c1 a0 f0 cf0 hz1 HR1 HM1
        generalize w1.alloc (.cells #[.int .u8 f] 5) = w2 at HR2 HO2 HM2 hz2 ⊢
        generalize w1.heap.size = g1 at HO2 ⊢
        generalize hgc : w.heap.size = gc at HR2 HO2 hz2 ⊢
        have HGC := Lib.hid hgc
        clear hgc
        have hI := HC.out
        have HIM := Lib.hid hI.m
        have HIB := Lib.hid hI.b
        clear hI
        try dsimp only [Act.put]
        refine heldStart (S := fun W => W.heap[gc]? = some (.cells C.cells 26 (0, 0))) 10 rfl (by kernel_rfl) HR2.out (fun hHeld => ?_)
        refine takeD (i := 0) (d := 24) (v := ?_) rfl rfl (by kernel_rfl) (by kernel_rfl) (by kernel_rfl) (fun _ _ _ h => h) (Or.inl ⟨by rfl, ?_⟩) hHeld ?_
        rotate_left 1
        · (intro w hSw; (try dsimp only at hSw); go_simp; (try with_reducible rfl))
        simp only [List.setIfInBounds_toArray, List.set_cons_zero, List.set_cons_succ]
        refine takeD (i := 1) (d := 25) (v := ?_) rfl rfl (by kernel_rfl) (by kernel_rfl) (by kernel_rfl) (fun _ _ _ h => h) (Or.inl ⟨by rfl, ?_⟩) hHeld ?_
        rotate_left 1
        · (intro w hSw; (try dsimp only at hSw); go_simp; (try with_reducible rfl))
        simp only [List.setIfInBounds_toArray, List.set_cons_zero, List.set_cons_succ]
        refine takeD (i := 2) (d := 26) (v := (.int .i64 C.m)) rfl rfl (by kernel_rfl) (by kernel_rfl) (by kernel_rfl) (fun _ _ _ h => h) (Or.inl ⟨by rfl, fun w hSw => ?_⟩) hHeld ?_
        · have cst := (cell_blk hSw 2).trans (show _ = some (.int .i64 C.m) from rfl)
          go_simp
        simp only [List.setIfInBounds_toArray, List.set_cons_zero, List.set_cons_succ]
        refine takeD (i := 5) (d := 29) (v := ?_) rfl rfl (by kernel_rfl) (by kernel_rfl) (by kernel_rfl) (fun _ _ _ h => h) (Or.inl ⟨by rfl, ?_⟩) hHeld ?_
        rotate_left 1
        · (intro w hSw; (try dsimp only at hSw); go_simp; (try with_reducible rfl))
        simp only [List.setIfInBounds_toArray, List.set_cons_zero, List.set_cons_succ]
        refine takeD (i := 6) (d := 30) (v := (.int .i64 C.b)) rfl rfl (by kernel_rfl) (by kernel_rfl) (by kernel_rfl) (fun _ _ _ h => h) (Or.inl ⟨by rfl, fun w hSw => ?_⟩) hHeld ?_
        · have cst := (cell_blk hSw 3).trans (show _ = some (.int .i64 C.b) from rfl)
          go_simp
        simp only [List.setIfInBounds_toArray, List.set_cons_zero, List.set_cons_succ]
        refine wpAnyH_ready (rs := [3]) (by kernel_rfl) (by simp) ?_
        refine AllReadyH.cons rfl (fun K hK => ?_) AllReadyH.nil
        go_simp
        go_wp2_with (go_at_call 85; refine (write_ok _ C.m 2 HIM.out (by omega)).mono ?_; rintro e w3 ⟨v3, rfl, O3, M3⟩)
        refine hK.out _ _ ?_ (fun hHeld => ?_)
        · exact M3.heap hHeld (by simp)
        clear hK K
        have HO3 := Lib.hid (show OwnB _ _ _ _ from O3)
        have M23 := (Mods.refl.drewN 1).trans M3
        have HO2 := Lib.hid (HO2.out.mods0 M23)
        have HM3 := Lib.hid (HM2.out.trans M23)
        have hz3 : gc + 1 ≤ w3.heap.size := Nat.le_trans hz2 M23.size
        clear O3 M3 M23 HM2 hz2
        refine wpAnyH_ready (rs := [4]) (by kernel_rfl) (by simp) ?_
        refine AllReadyH.cons rfl (fun K hK => ?_) AllReadyH.nil
        refine step_appD (v := (.slice (some ⟨g1, 0, none⟩) 1 1)) (by rfl) 28 rfl (.tmp 24) (.tmp 27) rfl rfl HO2.out rfl HO3.out.rd (by (rw [leL_length]; simp)) (by exact hz3) (fun v4 w4 O4 M4 => ?_)
        refine hK.out _ _ ?_ (fun hHeld => ?_)
        · exact M4.heap hHeld (fun hm => by have := HO2.out.back hm; omega)
        clear hK K
        simp only [List.setIfInBounds_toArray, List.set_cons_zero, List.set_cons_succ]
        have HM4 := Lib.hid (HM3.out.comp M4 (fun k hk => .inr (by have := HO2.out.back hk; have := HGC.out; omega)))
        have hz4 : gc + 1 ≤ w4.heap.size := Nat.le_trans hz3 M4.size
        have HO4 := Lib.hid O4
        clear O4 M4 HM3 HO2 HO3 hz3
        refine wpAnyH_ready (rs := [7]) (by kernel_rfl) (by simp) ?_
        refine AllReadyH.cons rfl (fun K hK => ?_) AllReadyH.nil
        go_simp
        go_wp2_with (go_at_call 85; refine (write_ok _ C.b 2 HIB.out (by omega)).mono ?_; rintro e w5 ⟨v5, rfl, O5, M5⟩)
        refine hK.out _ _ ?_ (fun hHeld => ?_)
        · exact M5.heap hHeld (by simp)
        clear hK K
        have HO5 := Lib.hid (show OwnB _ _ _ _ from O5)
        have HO4 := Lib.hid (HO4.out.mods0 M5)
        have HM5 := Lib.hid (HM4.out.trans M5)
        have hz5 : gc + 1 ≤ w5.heap.size := Nat.le_trans hz4 M5.size
        clear O5 M5 HM4 hz4
        refine wpAnyH_ready (rs := [8]) (by kernel_rfl) (by simp) ?_
        refine AllReadyH.cons rfl (fun K hK => ?_) AllReadyH.nil
        refine step_appD (v := v4) (by rfl) 32 rfl (.tmp 28) (.tmp 31) rfl rfl HO4.out rfl HO5.out.rd (by (simp only [List.length_append, leL_length]; simp)) (by exact hz5) (fun v6 w6 O6 M6 => ?_)
        refine hK.out _ _ ?_ (fun hHeld => ?_)
        · exact M6.heap hHeld (fun hm => by have := HO4.out.back hm; omega)
        clear hK K
        simp only [List.setIfInBounds_toArray, List.set_cons_zero, List.set_cons_succ]
        have HM6 := Lib.hid (HM5.out.comp M6 (fun k hk => .inr (by have := HO4.out.back hk; have := HGC.out; omega)))
        have hz6 : gc + 1 ≤ w6.heap.size := Nat.le_trans hz5 M6.size
        have HO6 := Lib.hid O6
        clear O6 M6 HM5 HO4 HO5 hz5
        refine takeD (i := 9) (d := 4) (v := ?_) rfl rfl (by kernel_rfl) (by kernel_rfl) (by kernel_rfl) (fun _ _ _ h => h) (Or.inl ⟨by rfl, ?_⟩) hHeld ?_
        rotate_left 1
        · (intro w hSw; (try dsimp only at hSw); go_simp; (try with_reducible rfl))
        simp only [List.setIfInBounds_toArray, List.set_cons_zero, List.set_cons_succ]
        refine wpAnyH_done (by kernel_rfl) ?_ _
        have c4 : w6.cell? ⟨gc, 4, none⟩ = some (.int .i64 C.k1) := (cell_blk hHeld 4).trans rfl
        have c5 : w6.cell? ⟨gc, 5, none⟩ = some (.int .i64 C.k2) := (cell_blk hHeld 5).trans rfl
        clear hHeld HC V0 R0 M0 HR2 HIM HIB
        go_wp2_with (at_builtin; refine wpList_appB (by rfl) (.tmp 33) (.tmp 40) rfl (v := v6) (by rfl) (HO6.out.mods0 (Mods.refl.alloc _)) (by rfl) (OwnB.lit w6 (Nat.le_refl _) [C.k1 % 256, C.k2 % 256] (by unfold maxLen; simp)).rd (by simp only [List.length_append, leL_length]; simp) (by simp; omega) ?_; intro v7 w7 O7 M7)
        have HM7 := Lib.hid ((HM6.out.alloc (.cells (u8s [C.k1 % 256, C.k2 % 256]).toArray 5)).comp M7 (fun k hk => .inr (by have := HO6.out.back hk; have := HGC.out; omega)))
        have HE : [f] ++ leL C.m 2 ++ leL C.b 2 ++ [C.k1 % 256, C.k2 % 256] = convL C P := by rw [convL, ← HF.out, if_neg h5, HS.out]; simp
        rw [HE] at O7
        have HO7 := Lib.hid (O7.down (B' := w.heap.size) (by have := HGC.out; omega))
        clear O7 M7 HM6 HO6
        go_wp2
        go_ret2
        exact ⟨_, rfl, HO7.out, HM7.out⟩
      | true =>
        rw [hs] at rc1
        have HS := Lib.hid hs
        clear hs
        go_enter Try.func51, Try.ntmps51
        go_wp2_with (refine wpList_load_row rfl 26 (.tmp 1) rfl w.heap.size (by rfl) _ _ _ _ R0.out Try.underlying26 rfl Try.infoC ?_)
        refine (V0.out _ M0.out).mono ?_
        rw [HV.out]
        rintro e w1 ⟨rfl, M1⟩
        have HR1 := Lib.hid (M1.heap R0.out (by simp))
        have HM1 := Lib.hid (M0.out.trans M1)
        have hz1 : w.heap.size + 1 ≤ w1.heap.size := by have := M1.size; simp at this; omega
        have cf0 : w1.cell? ⟨w.heap.size, 0, none⟩ = some (.int .i64 f) := (cell_blk HR1.out 0).trans rc0
        have c1 : (w1.alloc (.cells #[.int .u8 f] 5)).cell? ⟨w.heap.size, 1, none⟩ = some (.bool true) := (cell_blk (heap_alloc HR1.out) 1).trans rc1
        have c0 : (w1.alloc (.cells #[.int .u8 (f+128)] 5)).cell? ⟨w.heap.size, 0, none⟩ = some (.int .i64 f) := (cell_blk (heap_alloc HR1.out) 0).trans rc0
        have a0 : (w1.alloc (.cells #[.int .u8 f] 5)).cell? ⟨w1.heap.size, 0, none⟩ = some (.int .u8 f) := (cell_blk (heap_alloc_new w1 _) 0).trans rfl
        have f0 : (w1.alloc (.cells #[.int .u8 f] 5)).frozen? ⟨w1.heap.size, 0, none⟩ = false := froz_blk (heap_alloc_new w1 _) 0
        clear M1
        go_wp2_with fail
        have HR2 := Lib.hid (heap_alloc (o' := .cells #[.int .u8 (f+128)] 5) HR1.out)
        have HO2 : Hid (OwnB (w1.alloc (.cells #[.int .u8 (f+128)] 5)) (w.heap.size + 1) (.slice (some ⟨w1.heap.size, 0, none⟩) 1 1) [(f+128)]) := Lib.hid (OwnB.lit w1 hz1 [(f+128)] (by unfold maxLen; simp))
        have HM2 := Lib.hid (HM1.out.alloc (.cells #[.int .u8 (f+128)] 5))
        have hz2 : w.heap.size + 1 ≤ (w1.alloc (.cells #[.int .u8 (f+128)] 5)).heap.size := by simp; omega
        clear c0 c1 a0 f0 cf0 hz1 HR1 HM1
        generalize w1.alloc (.cells #[.int .u8 (f+128)] 5) = w2 at HR2 HO2 HM2 hz2 ⊢
        generalize w1.heap.size = g1 at HO2 ⊢
        generalize hgc : w.heap.size = gc at HR2 HO2 hz2 ⊢
        have HGC := Lib.hid hgc
        clear hgc
        have hI := HC.out
        have HIM := Lib.hid hI.m
        have HIB := Lib.hid hI.b
        clear hI
        try dsimp only [Act.put]
        refine heldStart (S := fun W => W.heap[gc]? = some (.cells C.cells 26 (0, 0))) 10 rfl (by kernel_rfl) HR2.out (fun hHeld => ?_)
        refine takeD (i := 0) (d := 24) (v := ?_) rfl rfl (by kernel_rfl) (by kernel_rfl) (by kernel_rfl) (fun _ _ _ h => h) (Or.inl ⟨by rfl, ?_⟩) hHeld ?_
        rotate_left 1
        · (intro w hSw; (try dsimp only at hSw); go_simp; (try with_reducible rfl))
        simp only [List.setIfInBounds_toArray, List.set_cons_zero, List.set_cons_succ]
        refine takeD (i := 1) (d := 25) (v := ?_) rfl rfl (by kernel_rfl) (by kernel_rfl) (by kernel_rfl) (fun _ _ _ h => h) (Or.inl ⟨by rfl, ?_⟩) hHeld ?_
        rotate_left 1
        · (intro w hSw; (try dsimp only at hSw); go_simp; (try with_reducible rfl))
        simp only [List.setIfInBounds_toArray, List.set_cons_zero, List.set_cons_succ]
        refine takeD (i := 2) (d := 26) (v := (.int .i64 C.m)) rfl rfl (by kernel_rfl) (by kernel_rfl) (by kernel_rfl) (fun _ _ _ h => h) (Or.inl ⟨by rfl, fun w hSw => ?_⟩) hHeld ?_
        · have cst := (cell_blk hSw 2).trans (show _ = some (.int .i64 C.m) from rfl)
          go_simp
        simp only [List.setIfInBounds_toArray, List.set_cons_zero, List.set_cons_succ]
        refine takeD (i := 5) (d := 29) (v := ?_) rfl rfl (by kernel_rfl) (by kernel_rfl) (by kernel_rfl) (fun _ _ _ h => h) (Or.inl ⟨by rfl, ?_⟩) hHeld ?_
        rotate_left 1
        · (intro w hSw; (try dsimp only at hSw); go_simp; (try with_reducible rfl))
        simp only [List.setIfInBounds_toArray, List.set_cons_zero, List.set_cons_succ]
        refine takeD (i := 6) (d := 30) (v := (.int .i64 C.b)) rfl rfl (by kernel_rfl) (by kernel_rfl) (by kernel_rfl) (fun _ _ _ h => h) (Or.inl ⟨by rfl, fun w hSw => ?_⟩) hHeld ?_
        · have cst := (cell_blk hSw 3).trans (show _ = some (.int .i64 C.b) from rfl)
          go_simp
        simp only [List.setIfInBounds_toArray, List.set_cons_zero, List.set_cons_succ]
        refine wpAnyH_ready (rs := [3]) (by kernel_rfl) (by simp) ?_
        refine AllReadyH.cons rfl (fun K hK => ?_) AllReadyH.nil
        go_simp
        go_wp2_with (go_at_call 85; refine (write_ok _ C.m 2 HIM.out (by omega)).mono ?_; rintro e w3 ⟨v3, rfl, O3, M3⟩)
        refine hK.out _ _ ?_ (fun hHeld => ?_)
        · exact M3.heap hHeld (by simp)
        clear hK K
        have HO3 := Lib.hid (show OwnB _ _ _ _ from O3)
        have M23 := (Mods.refl.drewN 1).trans M3
        have HO2 := Lib.hid (HO2.out.mods0 M23)
        have HM3 := Lib.hid (HM2.out.trans M23)
        have hz3 : gc + 1 ≤ w3.heap.size := Nat.le_trans hz2 M23.size
        clear O3 M3 M23 HM2 hz2
        refine wpAnyH_ready (rs := [4]) (by kernel_rfl) (by simp) ?_
        refine AllReadyH.cons rfl (fun K hK => ?_) AllReadyH.nil
        refine step_appD (v := (.slice (some ⟨g1, 0, none⟩) 1 1)) (by rfl) 28 rfl (.tmp 24) (.tmp 27) rfl rfl HO2.out rfl HO3.out.rd (by (rw [leL_length]; simp)) (by exact hz3) (fun v4 w4 O4 M4 => ?_)
        refine hK.out _ _ ?_ (fun hHeld => ?_)
        · exact M4.heap hHeld (fun hm => by have := HO2.out.back hm; omega)
        clear hK K
        simp only [List.setIfInBounds_toArray, List.set_cons_zero, List.set_cons_succ]
        have HM4 := Lib.hid (HM3.out.comp M4 (fun k hk => .inr (by have := HO2.out.back hk; have := HGC.out; omega)))
        have hz4 : gc + 1 ≤ w4.heap.size := Nat.le_trans hz3 M4.size
        have HO4 := Lib.hid O4
        clear O4 M4 HM3 HO2 HO3 hz3
        refine wpAnyH_ready (rs := [7]) (by kernel_rfl) (by simp) ?_
        refine AllReadyH.cons rfl (fun K hK => ?_) AllReadyH.nil
        go_simp
        go_wp2_with (go_at_call 85; refine (write_ok _ C.b 2 HIB.out (by omega)).mono ?_; rintro e w5 ⟨v5, rfl, O5, M5⟩)
        refine hK.out _ _ ?_ (fun hHeld => ?_)
        · exact M5.heap hHeld (by simp)
        clear hK K
        have HO5 := Lib.hid (show OwnB _ _ _ _ from O5)
        have HO4 := Lib.hid (HO4.out.mods0 M5)
        have HM5 := Lib.hid (HM4.out.trans M5)
        have hz5 : gc + 1 ≤ w5.heap.size := Nat.le_trans hz4 M5.size
        clear O5 M5 HM4 hz4
        refine wpAnyH_ready (rs := [8]) (by kernel_rfl) (by simp) ?_
        refine AllReadyH.cons rfl (fun K hK => ?_) AllReadyH.nil
        refine step_appD (v := v4) (by rfl) 32 rfl (.tmp 28) (.tmp 31) rfl rfl HO4.out rfl HO5.out.rd (by (simp only [List.length_append, leL_length]; simp)) (by exact hz5) (fun v6 w6 O6 M6 => ?_)
        refine hK.out _ _ ?_ (fun hHeld => ?_)
        · exact M6.heap hHeld (fun hm => by have := HO4.out.back hm; omega)
        clear hK K
        simp only [List.setIfInBounds_toArray, List.set_cons_zero, List.set_cons_succ]
        have HM6 := Lib.hid (HM5.out.comp M6 (fun k hk => .inr (by have := HO4.out.back hk; have := HGC.out; omega)))
        have hz6 : gc + 1 ≤ w6.heap.size := Nat.le_trans hz5 M6.size
        have HO6 := Lib.hid O6
        clear O6 M6 HM5 HO4 HO5 hz5
        refine takeD (i := 9) (d := 4) (v := ?_) rfl rfl (by kernel_rfl) (by kernel_rfl) (by kernel_rfl) (fun _ _ _ h => h) (Or.inl ⟨by rfl, ?_⟩) hHeld ?_
        rotate_left 1
        · (intro w hSw; (try dsimp only at hSw); go_simp; (try with_reducible rfl))
        simp only [List.setIfInBounds_toArray, List.set_cons_zero, List.set_cons_succ]
        refine wpAnyH_done (by kernel_rfl) ?_ _
        have c4 : w6.cell? ⟨gc, 4, none⟩ = some (.int .i64 C.k1) := (cell_blk hHeld 4).trans rfl
        have c5 : w6.cell? ⟨gc, 5, none⟩ = some (.int .i64 C.k2) := (cell_blk hHeld 5).trans rfl
        clear hHeld HC V0 R0 M0 HR2 HIM HIB
        go_wp2_with (at_builtin; refine wpList_appB (by rfl) (.tmp 33) (.tmp 40) rfl (v := v6) (by rfl) (HO6.out.mods0 (Mods.refl.alloc _)) (by rfl) (OwnB.lit w6 (Nat.le_refl _) [C.k1 % 256, C.k2 % 256] (by unfold maxLen; simp)).rd (by simp only [List.length_append, leL_length]; simp) (by simp; omega) ?_; intro v7 w7 O7 M7)
        have HM7 := Lib.hid ((HM6.out.alloc (.cells (u8s [C.k1 % 256, C.k2 % 256]).toArray 5)).comp M7 (fun k hk => .inr (by have := HO6.out.back hk; have := HGC.out; omega)))
        have HE : [(f+128)] ++ leL C.m 2 ++ leL C.b 2 ++ [C.k1 % 256, C.k2 % 256] = convL C P := by rw [convL, ← HF.out, if_neg h5, HS.out]; simp
        rw [HE] at O7
        have HO7 := Lib.hid (O7.down (B' := w.heap.size) (by have := HGC.out; omega))
        clear O7 M7 HM6 HO6
        go_wp2
        go_ret2
        exact ⟨_, rfl, HO7.out, HM7.out⟩
end Go.Proofs.Ytijjkonephjodaa
