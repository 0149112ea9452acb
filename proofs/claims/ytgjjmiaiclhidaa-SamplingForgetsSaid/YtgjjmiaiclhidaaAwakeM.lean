/- The sanity check of the statements about filters: contract; whether a sensor and a filter are short enough. -/
import Derived.Test.YtgjjmiaiclhidaaSamRun
import Derived.Test.YtgjjmiaiclhidaaBaseE
namespace Go.Proofs.Ytgjjmiaiclhidaa
open Go.RowKit

/-- The sensor of the example. -/
def exM : Sen := ⟨0, 0, 0, ⟨#[116]⟩, 0, 0, false, ⟨1, false, 1, 0, 0, 0, .slice none 0 0⟩, 0, 0, 0, 0, 0, 0, 0, 0, 0, 0, 0, 0, false, 3⟩
theorem exM_is (w : World) : IsSen w exM [] where
  conv := ⟨RdPts.nil w, ⟨by simp, fun i => by simp [default], fun i => by simp [default, I64]⟩, by constructor <;> decide, by constructor <;> decide, by constructor <;> decide, by constructor <;> decide, by constructor <;> decide⟩
  number := by decide
  type := by decide
  unit := by decide
  name := by decide
  eid := by decide
  einst := by decide
  mask := by decide
  raw := fun i => by
    rcases Nat.lt_or_ge i 6 with h | h
    · match i, h with
      | 0, _ | 1, _ | 2, _ | 3, _ | 4, _ | 5, _ => decide
    · unfold Sen.raw; rw [List.getD_eq_getElem?_getD, List.getElem?_eq_none (by simpa using h)]; decide
  hl := by decide
  hu := by decide
  states := by decide
  asrt := by decide
  deas := by decide
  samples := by constructor <;> decide
theorem exM_one : exM.cells.all (·.oneCell') = true := by simp [exM, Sen.cells, Value.oneCell']
set_option maxRecDepth 100000 in
set_option maxHeartbeats 1000000 in
theorem exampleM_ok (w : World) :
    Calls Try.prog 107 #[] w fun e w' => e = .returned (.agg exM.cells) ∧ Mods [] w w' := by
  go_enter Try.func107, Try.ntmps107
  go_wp2_with (refine wpList_store_row (cs := exM.cells) rfl 32 (.tmp 0) (.tmp 2) rfl (heap_alloc_new w _) (by rfl) (by rfl) rfl exM.infoS exM_one ?_; intro w2 R2 M2)
  refine bodyPost_ret (results_cell_row rfl _ _ w.heap.size _ _ _ _ rfl R2 Try.underlying32 rfl exM.infoS) rfl ?_
  exact ⟨rfl, (Mods.refl.alloc _).comp M2 fun k hk => by simp at hk; subst hk; exact .inr (Nat.le_refl _)⟩
def rawM : List Int := [10, 200, 12, 11]
def winM : List (List Int) := [[], [10], [10, 200], [10, 200, 12], [200, 12, 11]]
theorem runM {k : Nat} (hk : k < 4) : fltB exM [] (winM.getD k []) 0 = true ∧ nextW 3 (winM.getD k []) (rawM.getD k 0) = winM.getD (k + 1) [] ∧ rdB exM [] (winM.getD (k + 1) []) 0 = decide (2 ≤ k) ∧ (0 ≤ rawM.getD k 0 ∧ rawM.getD k 0 ≤ 255) ∧ (winM.getD (k + 1) []).length ≤ 3 ∧ (∀ x ∈ winM.getD (k + 1) [], 0 ≤ x ∧ x ≤ 255) ∧ (∀ x ∈ winM.getD k [], 0 ≤ x ∧ x ≤ 255) := by
  match k, hk with
  | 0, _ | 1, _ | 2, _ | 3, _ => exact ⟨by decide +kernel, by decide +kernel, by decide +kernel, by decide, by decide, by decide, by decide⟩
theorem medM {k : Nat} (hk : k < 4) (h2 : 2 ≤ k) : IsMed false (winM.getD (k + 1) []) 12 := by
  match k, hk, h2 with
  | 2, _, _ | 3, _, _ => exact ⟨by decide +kernel, by decide +kernel⟩
theorem readM {k : Nat} {W2 : List Int} {w' : World} (hrb : rdB exM [] W2 0 = decide (2 ≤ k)) (hbm : ∀ x ∈ W2, 0 ≤ x ∧ x ≤ 255) (hmed : 2 ≤ k → IsMed false W2 12) : ∀ e W, ReadRes w' (rdB exM [] W2 0) exM.conv.sgn W2 e W →
    e = .returned (.tuple #[.int .u8 (if 2 ≤ k then (12 : Int) else 0), .bool (decide (2 ≤ k))]) ∧ Mods [] w' W := fun e W h => by
  unfold ReadRes at h
  rw [hrb] at h
  by_cases h2 : 2 ≤ k
  · rw [decide_eq_true h2, if_pos rfl] at h
    obtain ⟨m, rfl, hm, M⟩ := h
    rw [if_pos h2, decide_eq_true h2, ← med_uniq hbm hm (hmed h2)]
    exact ⟨rfl, M⟩
  · rw [decide_eq_false h2, if_neg (by decide)] at h
    rw [if_neg h2, decide_eq_false h2]
    exact h
set_option maxRecDepth 100000 in
set_option maxHeartbeats 8000000 in
theorem awakeM_ok (w : World) :
    Calls Try.prog 63 #[] w fun e w' => e = .returned (.bool true) ∧ Mods [] w w' := by
  have R0 := heap_alloc_new w (.cells #[.slice none 0 0, .int .i64 0] 90)
  go_enter Try.func63, Try.ntmps63
  go_wp2_with fail
  have A1 := Lib.hid (heap_alloc2_old w (.cells #[.slice none 0 0, .int .i64 0] 90) (.cells #[.int .u8 10, .int .u8 200, .int .u8 12, .int .u8 11] 139))
  have A2 := Lib.hid (heap_alloc2_new w (.cells #[.slice none 0 0, .int .i64 0] 90) (.cells #[.int .u8 10, .int .u8 200, .int .u8 12, .int .u8 11] 139))
  have AM := Lib.hid (((Mods.refl (S := []) (w := w)).alloc (.cells #[.slice none 0 0, .int .i64 0] 90)).alloc (.cells #[.int .u8 10, .int .u8 200, .int .u8 12, .int .u8 11] 139))
  have hz1 : ((w.alloc (.cells #[.slice none 0 0, .int .i64 0] 90)).alloc (.cells #[.int .u8 10, .int .u8 200, .int .u8 12, .int .u8 11] 139)).heap.size = w.heap.size + 2 := by simp
  clear R0
  generalize (w.alloc (.cells #[.slice none 0 0, .int .i64 0] 90)).alloc (.cells #[.int .u8 10, .int .u8 200, .int .u8 12, .int .u8 11] 139) = w1 at A1 A2 AM hz1 ⊢
  have HEX := Lib.hid exampleM_ok
  go_loopw [3, 4, 5, 6, 7] (fun i _ _ _ _ wr => ∃ k : Nat, k ≤ 4 ∧ i = .int .i64 k ∧ ∃ win, wr.heap[w.heap.size]? = some (.cells #[win, .int .i64 0] 90 (0, 0)) ∧ Rd wr win (u8s (winM.getD k [])) ∧ (∀ q, win.ownBlock = some q → w.heap.size + 1 < q) ∧ Mods [w.heap.size] w1 wr) (fun i _ _ _ _ _ => 4 - (intOf i).toNat)
  case atStart => exact ⟨0, by omega, rfl, .slice none 0 0, A1.out, Rd.nil _, (fun q hq => by cases hq), Mods.refl⟩
  case round =>
    obtain ⟨k, hk, rfl, win, F, rd, own, M⟩ := hrel
    have HF := Lib.hid F
    have HRD := Lib.hid rd
    have HOW := Lib.hid own
    have HM := Lib.hid M
    have i0 : (0 : Int) ≤ (k : Int) := by omega
    have hzr := M.size
    obtain ⟨aw, cw, rfl⟩ := rd.len
    rw [u8s_length] at HF HRD HOW
    clear F rd own M
    by_cases hlt : k < 4
    · have i1 : (k : Int) < 4 := by omega
      obtain ⟨hf, hnx, hrb, hraw, hl3, hbm2, hbm1⟩ := runM hlt
      have HMED := Lib.hid (fun h2 => medM hlt h2)
      have PE := Lib.hid (fun (W' : World) (M : Mods [] wr W') => show W'.cell? ⟨w.heap.size + 1, k, none⟩ = some (.int .u8 (rawM.getD k 0)) from M.cell (HM.out.cell ((cell_blk A2.out k).trans (by
        match k, hlt with
        | 0, _ | 1, _ | 2, _ | 3, _ => rfl)) (by simp)) (by simp))
      have HFL := Lib.hid (IsFlt.mk (n := 0) HRD.out (bytes_of_mem hbm1) (by
        match k, hlt with
        | 0, _ | 1, _ | 2, _ | 3, _ => decide) ⟨by decide, by decide⟩)
      have ST := Lib.hid (fun W' (M : Mods [] wr W') => samStep_ok W' exM [] _ _ 0 (rawM.getD k 0) true (exM_is W') (HFL.out.mods0 M))
      have eA : stepA (fltB exM [] (winM.getD k []) 0) exM.samples (winM.getD k []) 0 (rawM.getD k 0) true = ((winM.getD (k + 1) [], 0), 0) := by
        rw [hf]
        show ((nextW 3 (winM.getD k []) (rawM.getD k 0), (0 : Int)), (0 : Int)) = _
        rw [hnx]
      rw [eA] at ST
      have HFN := Lib.hid (fun W' win' (rd' : Rd W' win' (u8s (winM.getD (k + 1) []))) => IsFlt.mk (n := 0) rd' (bytes_of_mem hbm2) (by omega) ⟨by decide, by decide⟩)
      have HRB := Lib.hid hrb
      have HBM := Lib.hid hbm2
      clear eA hf hnx hrb hbm1 hbm2 HFL
      generalize rawM.getD k 0 = rk at *
      generalize winM.getD k [] = W1 at *
      generalize hW2 : winM.getD (k + 1) [] = W2 at *
      have HW2 := Lib.hid hW2
      clear hW2
      go_wp2_with fail
      refine heldStart (S := fun W' => Mods [] wr W') 12 rfl (by kernel_rfl) (Mods.refl.drew) (fun hHeld => ?_)
      refine takeD (i := 1) (d := 16) (v := .agg #[.slice aw W1.length cw, .int .i64 0]) rfl rfl (by kernel_rfl) (by kernel_rfl) (by kernel_rfl) (fun _ _ _ h => h) (yieldsIf_load_row rfl 90 (.tmp 1) rfl w.heap.size rfl 90 #[.slice aw W1.length cw, .int .i64 0] (0, 0) _ (fun W M => M.heap HF.out (by simp)) Try.underlying90 rfl Try.infoFl) hHeld ?_
      simp only [List.setIfInBounds_toArray, List.set_cons_zero, List.set_cons_succ]
      refine takeD (i := 2) (d := 17) (v := ?_) rfl rfl (by kernel_rfl) (by kernel_rfl) (by kernel_rfl) (fun _ _ _ h => h) (Or.inl ⟨by rfl, ?_⟩) hHeld ?_
      rotate_left 1
      · (intro w hSw; (try dsimp only at hSw); go_simp; (try with_reducible rfl))
      simp only [List.setIfInBounds_toArray, List.set_cons_zero, List.set_cons_succ]
      refine takeD (i := 3) (d := 18) (v := ?_) rfl rfl (by kernel_rfl) (by kernel_rfl) (by kernel_rfl) (fun _ _ _ h => h) (Or.inl ⟨by rfl, ?_⟩) hHeld ?_
      rotate_left 1
      · (intro w hSw; have ye := PE.out w hSw; go_simp; (try with_reducible rfl))
      simp only [List.setIfInBounds_toArray, List.set_cons_zero, List.set_cons_succ]
      refine takeD (i := 4) (d := 19) (v := ?_) rfl rfl (by kernel_rfl) (by kernel_rfl) (by kernel_rfl) (fun _ _ _ h => h) (Or.inl ⟨by rfl, ?_⟩) hHeld ?_
      rotate_left 1
      · (intro w hSw; have ye := PE.out w hSw; go_simp; (try with_reducible rfl))
      simp only [List.setIfInBounds_toArray, List.set_cons_zero, List.set_cons_succ]
      refine wpAnyH_ready (rs := [0, 9]) (by kernel_rfl) (by simp) (AllReadyH.cons rfl (fun K hK => ?br1) (AllReadyH.cons rfl (fun K hK => ?br2) AllReadyH.nil))
      case br1 =>
        have HZW := Lib.hid (Nat.le_refl wr.heap.size)
        go_simp
        go_wp2_with (go_at_call 107; refine (HEX.out _).mono ?_; rintro e W4 ⟨rfl, M4⟩)
        refine hK.out _ _ ?_ (fun hHeld => ?_)
        · exact hHeld.trans M4
        have hz4 : wr.heap.size ≤ W4.heap.size := Nat.le_trans HZW.out M4.size
        have HM4 := Lib.hid M4
        clear hK K M4
        refine wpAnyH_ready (rs := [5, 9]) (by kernel_rfl) (by simp) (AllReadyH.cons rfl (fun K hK => ?br11) (AllReadyH.cons rfl (fun K hK => ?br12) AllReadyH.nil))
        case br11 =>
          go_simp
          go_wp2_with (go_at_call 64; refine (ST.out _ hHeld).mono ?_; rintro e W5 ⟨win', rfl, rd', own', M5⟩; obtain ⟨aw', cw', rfl⟩ := rd'.len; rw [u8s_length] at rd' own' ⊢; have HRD5 := Lib.hid rd'; have HOW5 := Lib.hid own'; have HM5 := Lib.hid M5; clear rd' own' M5)
          refine hK.out _ _ ?_ (fun hHeld => ?_)
          · exact hHeld.trans HM5.out
          clear hK K
          refine takeD (i := 6) (d := 14) (v := ?_) rfl rfl (by kernel_rfl) (by kernel_rfl) (by kernel_rfl) (fun _ _ _ h => h) (Or.inl ⟨by rfl, ?_⟩) hHeld ?_
          rotate_left 1
          · (intro w hSw; (try dsimp only at hSw); go_simp; (try with_reducible rfl))
          simp only [List.setIfInBounds_toArray, List.set_cons_zero, List.set_cons_succ]
          refine takeD (i := 7) (d := 21) (v := ?_) rfl rfl (by kernel_rfl) (by kernel_rfl) (by kernel_rfl) (fun _ _ _ h => h) (Or.inl ⟨by rfl, ?_⟩) hHeld ?_
          rotate_left 1
          · (intro w hSw; (try dsimp only at hSw); go_simp; (try with_reducible rfl))
          simp only [List.setIfInBounds_toArray, List.set_cons_zero, List.set_cons_succ]
          refine takeD (i := 8) (d := 22) (v := ?_) rfl rfl (by kernel_rfl) (by kernel_rfl) (by kernel_rfl) (fun _ _ _ h => h) (Or.inl ⟨by rfl, ?_⟩) hHeld ?_
          rotate_left 1
          · (intro w hSw; (try dsimp only at hSw); go_simp; (try with_reducible rfl))
          simp only [List.setIfInBounds_toArray, List.set_cons_zero, List.set_cons_succ]
          refine wpAnyH_ready (rs := [9]) (by kernel_rfl) (by simp) ?_
          refine AllReadyH.cons rfl (fun K hK => ?_) AllReadyH.nil
          go_simp
          refine hK.out _ _ ?_ (fun hHeld => ?_)
          · exact hHeld.alloc _
          clear hK K
          have RA := Lib.hid (heap_alloc_new W5 (.cells #[.slice none 0 0, .int .i64 0] 90))
          have HRDA := Lib.hid (HRD5.out.mods0 (Mods.refl.alloc (.cells #[.slice none 0 0, .int .i64 0] 90)))
          have HOWA := Lib.hid (show ∀ q, (Value.slice aw' W2.length cw').ownBlock = some q → wr.heap.size ≤ q from fun q hq => by have h1 := HOW5.out q hq; omega)
          have hgA : wr.heap.size ≤ W5.heap.size := Nat.le_trans hz4 HM5.out.size
          clear HM5 HRD5 HOW5 HM4
          generalize W5.alloc (.cells #[.slice none 0 0, .int .i64 0] 90) = WA at *
          generalize W5.heap.size = gA at *
          refine wpAnyH_ready (rs := [10]) (by kernel_rfl) (by simp) ?_
          refine AllReadyH.cons rfl (fun K hK => ?_) AllReadyH.nil
          refine exec_store rfl rfl rfl RA.out rfl rfl (by rfl) Try.infoFl (by simp [Value.oneCell']) (fun w6 R6 M6 => ?_)
          refine hK.out _ _ ?_ (fun hHeld => ?_)
          · exact hHeld.comp M6 (fun k hk => by simp at hk; exact .inr (by omega))
          clear hK K
          refine takeD (i := 11) (d := 5) (v := ?_) rfl rfl (by kernel_rfl) (by kernel_rfl) (by kernel_rfl) (fun _ _ _ h => h) (Or.inl ⟨by rfl, ?_⟩) hHeld ?_
          rotate_left 1
          · (intro w hSw; (try dsimp only at hSw); go_simp; (try with_reducible rfl))
          simp only [List.setIfInBounds_toArray, List.set_cons_zero, List.set_cons_succ]
          refine wpAnyH_done (by kernel_rfl) ?_ _
          have HM6 := Lib.hid hHeld
          have HR6 := Lib.hid R6
          have HRD6 := Lib.hid (show Rd w6 (.slice aw' W2.length cw') (u8s W2) from HRDA.out.mods M6 (fun hne k hk hm => by simp at hm; exact rd_apart HRDA.out (fun h0 => hne (by rw [h0]; rfl)) RA.out (fun y => by simp) k hk hm))
          have HF6 := Lib.hid (hHeld.heap HF.out (by simp))
          clear hHeld R6 M6
          go_wp2_with (first
            | (refine wpList_load_row rfl _ (.tmp 4) rfl gA (by rfl) _ _ _ _ HR6.out Try.underlying90 rfl Try.infoFl ?_)
            | (refine wpList_store_row (cs := #[.slice aw' W2.length cw', .int .i64 0]) rfl 90 (.tmp 1) (.tmp 25) rfl HF6.out (by rfl) (by rfl) (by rfl) Try.infoFl (by simp [Value.oneCell']) ?_; go_must (intro w8 R8 M8; have HR8 := Lib.hid R8; have HM8 := Lib.hid M8; clear R8 M8)))
          have hgo : ∀ q, (Value.slice aw' W2.length cw').ownBlock = some q → w.heap.size + 1 < q := fun q hq => by have := HOWA.out q hq; omega
          have HRD8 := Lib.hid (HRD6.out.mods HM8.out (fun _ k hk hm => by have := hgo k hk; simp at hm; omega))
          have HGO := Lib.hid hgo
          clear hgo HR6 HF6
          have RD := Lib.hid (fun W' (M : Mods [] w8 W') => (samReading_ok W' exM [] _ W2 0 (exM_is W') (HFN.out W' _ (HRD8.out.mods0 M))).mono (readM HRB.out HBM.out HMED.out))
          generalize hx12 : (if 2 ≤ k then (12 : Int) else 0) = x12 at RD
          have HX12 := Lib.hid hx12
          clear hx12
          generalize hb2 : decide (2 ≤ k) = b2 at RD
          have HB2 := Lib.hid hb2
          clear hb2
          try dsimp only [Act.put]
          refine heldStart (S := fun W' => Mods [] w8 W') 8 rfl (by kernel_rfl) (Mods.refl.drew) (fun hHeld => ?_)
          refine takeD (i := 1) (d := 28) (v := .agg #[.slice aw' W2.length cw', .int .i64 0]) rfl rfl (by kernel_rfl) (by kernel_rfl) (by kernel_rfl) (fun _ _ _ h => h) (yieldsIf_load_row rfl 90 (.tmp 1) rfl w.heap.size rfl 90 #[.slice aw' W2.length cw', .int .i64 0] (0, 0) _ (fun W M => M.heap HR8.out (by simp)) Try.underlying90 rfl Try.infoFl) hHeld ?_
          simp only [List.setIfInBounds_toArray, List.set_cons_zero, List.set_cons_succ]
          refine wpAnyH_ready (rs := [0]) (by kernel_rfl) (by simp) ?_
          refine AllReadyH.cons rfl (fun K hK => ?_) AllReadyH.nil
          go_simp
          go_wp2_with (go_at_call 107; refine (HEX.out _).mono ?_; rintro e W9 ⟨rfl, M9⟩)
          refine hK.out _ _ ?_ (fun hHeld => ?_)
          · exact hHeld.trans M9
          clear hK K
          refine wpAnyH_ready (rs := [2]) (by kernel_rfl) (by simp) ?_
          refine AllReadyH.cons rfl (fun K hK => ?_) AllReadyH.nil
          go_simp
          go_wp2_with (go_at_call 66; refine (RD.out _ hHeld).mono ?_; rintro e W10 ⟨rfl, M10⟩)
          refine hK.out _ _ ?_ (fun hHeld => ?_)
          · exact hHeld.trans M10
          clear hK K
          refine takeD (i := 3) (d := 26) (v := ?_) rfl rfl (by kernel_rfl) (by kernel_rfl) (by kernel_rfl) (fun _ _ _ h => h) (Or.inl ⟨by rfl, ?_⟩) hHeld ?_
          rotate_left 1
          · (intro w hSw; (try dsimp only at hSw); go_simp; (try with_reducible rfl))
          simp only [List.setIfInBounds_toArray, List.set_cons_zero, List.set_cons_succ]
          refine takeD (i := 4) (d := 30) (v := ?_) rfl rfl (by kernel_rfl) (by kernel_rfl) (by kernel_rfl) (fun _ _ _ h => h) (Or.inl ⟨by rfl, ?_⟩) hHeld ?_
          rotate_left 1
          · (intro w hSw; (try dsimp only at hSw); go_simp; (try with_reducible rfl))
          simp only [List.setIfInBounds_toArray, List.set_cons_zero, List.set_cons_succ]
          refine takeD (i := 5) (d := 31) (v := ?_) rfl rfl (by kernel_rfl) (by kernel_rfl) (by kernel_rfl) (fun _ _ _ h => h) (Or.inl ⟨by rfl, ?_⟩) hHeld ?_
          rotate_left 1
          · (intro w hSw; (try dsimp only at hSw); go_simp; (try with_reducible rfl))
          simp only [List.setIfInBounds_toArray, List.set_cons_zero, List.set_cons_succ]
          refine takeD (i := 6) (d := 6) (v := ?_) rfl rfl (by kernel_rfl) (by kernel_rfl) (by kernel_rfl) (fun _ _ _ h => h) (Or.inl ⟨by rfl, ?_⟩) hHeld ?_
          rotate_left 1
          · (intro w hSw; (try dsimp only at hSw); go_simp; (try with_reducible rfl))
          simp only [List.setIfInBounds_toArray, List.set_cons_zero, List.set_cons_succ]
          refine takeD (i := 7) (d := 7) (v := ?_) rfl rfl (by kernel_rfl) (by kernel_rfl) (by kernel_rfl) (fun _ _ _ h => h) (Or.inl ⟨by rfl, ?_⟩) hHeld ?_
          rotate_left 1
          · (intro w hSw; (try dsimp only at hSw); go_simp; (try with_reducible rfl))
          simp only [List.setIfInBounds_toArray, List.set_cons_zero, List.set_cons_succ]
          refine wpAnyH_done (by kernel_rfl) ?_ _
          have HM10 := Lib.hid hHeld
          have hRel : ∃ win, W10.heap[w.heap.size]? = some (.cells #[win, .int .i64 0] 90 (0, 0)) ∧ Rd W10 win (u8s (winM.getD (k + 1) [])) ∧ (∀ q, win.ownBlock = some q → w.heap.size + 1 < q) ∧ Mods [w.heap.size] w1 W10 :=
            ⟨.slice aw' W2.length cw', hHeld.heap HR8.out (by simp), by rw [HW2.out]; exact HRD8.out.mods0 hHeld, HGO.out, (((HM.out.comp0 HM6.out).trans HM8.out).comp0 hHeld)⟩
          have HRel := Lib.hid hRel
          clear hRel hHeld HR8 HRD8 HGO HM6 HM8 M9 M10
          by_cases h2 : 2 ≤ k
          · obtain rfl : b2 = true := by rw [← HB2.out]; exact decide_eq_true h2
            obtain rfl : x12 = 12 := by rw [← HX12.out]; exact if_pos h2
            have q1 : decide ((k : Int) ≥ 2) = true := decide_eq_true (by omega)
            have q2 : (2 : Int) ≤ (k : Int) := by omega
            go_wp2_with fail
            exact ⟨⟨k + 1, by omega, by go_num, HRel.out⟩, by simp only [intOf]; omega⟩
          · obtain rfl : b2 = false := by rw [← HB2.out]; exact decide_eq_false h2
            obtain rfl : x12 = 0 := by rw [← HX12.out]; exact if_neg h2
            have q1 : decide ((k : Int) ≥ 2) = false := decide_eq_false (by omega)
            have q2 : ¬ (2 : Int) ≤ (k : Int) := by omega
            go_wp2_with fail
            exact ⟨⟨k + 1, by omega, by go_num, HRel.out⟩, by simp only [intOf]; omega⟩
        case br12 =>
          go_simp
          refine hK.out _ _ ?_ (fun hHeld => ?_)
          · exact hHeld.alloc _
          clear hK K
          refine wpAnyH_ready (rs := [5]) (by kernel_rfl) (by simp) ?_
          refine AllReadyH.cons rfl (fun K hK => ?_) AllReadyH.nil
          go_simp
          go_wp2_with (go_at_call 64; refine (ST.out _ hHeld).mono ?_; rintro e W5 ⟨win', rfl, rd', own', M5⟩; obtain ⟨aw', cw', rfl⟩ := rd'.len; rw [u8s_length] at rd' own' ⊢; have HRD5 := Lib.hid rd'; have HOW5 := Lib.hid own'; have HM5 := Lib.hid M5; clear rd' own' M5)
          refine hK.out _ _ ?_ (fun hHeld => ?_)
          · exact hHeld.trans HM5.out
          clear hK K
          refine takeD (i := 6) (d := 14) (v := ?_) rfl rfl (by kernel_rfl) (by kernel_rfl) (by kernel_rfl) (fun _ _ _ h => h) (Or.inl ⟨by rfl, ?_⟩) hHeld ?_
          rotate_left 1
          · (intro w hSw; (try dsimp only at hSw); go_simp; (try with_reducible rfl))
          simp only [List.setIfInBounds_toArray, List.set_cons_zero, List.set_cons_succ]
          refine takeD (i := 7) (d := 21) (v := ?_) rfl rfl (by kernel_rfl) (by kernel_rfl) (by kernel_rfl) (fun _ _ _ h => h) (Or.inl ⟨by rfl, ?_⟩) hHeld ?_
          rotate_left 1
          · (intro w hSw; (try dsimp only at hSw); go_simp; (try with_reducible rfl))
          simp only [List.setIfInBounds_toArray, List.set_cons_zero, List.set_cons_succ]
          refine takeD (i := 8) (d := 22) (v := ?_) rfl rfl (by kernel_rfl) (by kernel_rfl) (by kernel_rfl) (fun _ _ _ h => h) (Or.inl ⟨by rfl, ?_⟩) hHeld ?_
          rotate_left 1
          · (intro w hSw; (try dsimp only at hSw); go_simp; (try with_reducible rfl))
          simp only [List.setIfInBounds_toArray, List.set_cons_zero, List.set_cons_succ]
          have RA := Lib.hid (HM5.out.heap (heap_alloc_new W4 (.cells #[.slice none 0 0, .int .i64 0] 90)) (by simp))
          have HRDA := Lib.hid HRD5.out
          have HOWA := Lib.hid (show ∀ q, (Value.slice aw' W2.length cw').ownBlock = some q → wr.heap.size ≤ q from fun q hq => by have h1 := HOW5.out q hq; simp at h1; omega)
          have hgA : wr.heap.size ≤ W4.heap.size := hz4
          clear HM5 HRD5 HOW5 HM4
          generalize W4.heap.size = gA at *
          refine wpAnyH_ready (rs := [10]) (by kernel_rfl) (by simp) ?_
          refine AllReadyH.cons rfl (fun K hK => ?_) AllReadyH.nil
          refine exec_store rfl rfl rfl RA.out rfl rfl (by rfl) Try.infoFl (by simp [Value.oneCell']) (fun w6 R6 M6 => ?_)
          refine hK.out _ _ ?_ (fun hHeld => ?_)
          · exact hHeld.comp M6 (fun k hk => by simp at hk; exact .inr (by omega))
          clear hK K
          refine takeD (i := 11) (d := 5) (v := ?_) rfl rfl (by kernel_rfl) (by kernel_rfl) (by kernel_rfl) (fun _ _ _ h => h) (Or.inl ⟨by rfl, ?_⟩) hHeld ?_
          rotate_left 1
          · (intro w hSw; (try dsimp only at hSw); go_simp; (try with_reducible rfl))
          simp only [List.setIfInBounds_toArray, List.set_cons_zero, List.set_cons_succ]
          refine wpAnyH_done (by kernel_rfl) ?_ _
          have HM6 := Lib.hid hHeld
          have HR6 := Lib.hid R6
          have HRD6 := Lib.hid (show Rd w6 (.slice aw' W2.length cw') (u8s W2) from HRDA.out.mods M6 (fun hne k hk hm => by simp at hm; exact rd_apart HRDA.out (fun h0 => hne (by rw [h0]; rfl)) RA.out (fun y => by simp) k hk hm))
          have HF6 := Lib.hid (hHeld.heap HF.out (by simp))
          clear hHeld R6 M6
          go_wp2_with (first
            | (refine wpList_load_row rfl _ (.tmp 4) rfl gA (by rfl) _ _ _ _ HR6.out Try.underlying90 rfl Try.infoFl ?_)
            | (refine wpList_store_row (cs := #[.slice aw' W2.length cw', .int .i64 0]) rfl 90 (.tmp 1) (.tmp 25) rfl HF6.out (by rfl) (by rfl) (by rfl) Try.infoFl (by simp [Value.oneCell']) ?_; go_must (intro w8 R8 M8; have HR8 := Lib.hid R8; have HM8 := Lib.hid M8; clear R8 M8)))
          have hgo : ∀ q, (Value.slice aw' W2.length cw').ownBlock = some q → w.heap.size + 1 < q := fun q hq => by have := HOWA.out q hq; omega
          have HRD8 := Lib.hid (HRD6.out.mods HM8.out (fun _ k hk hm => by have := hgo k hk; simp at hm; omega))
          have HGO := Lib.hid hgo
          clear hgo HR6 HF6
          have RD := Lib.hid (fun W' (M : Mods [] w8 W') => (samReading_ok W' exM [] _ W2 0 (exM_is W') (HFN.out W' _ (HRD8.out.mods0 M))).mono (readM HRB.out HBM.out HMED.out))
          generalize hx12 : (if 2 ≤ k then (12 : Int) else 0) = x12 at RD
          have HX12 := Lib.hid hx12
          clear hx12
          generalize hb2 : decide (2 ≤ k) = b2 at RD
          have HB2 := Lib.hid hb2
          clear hb2
          try dsimp only [Act.put]
          refine heldStart (S := fun W' => Mods [] w8 W') 8 rfl (by kernel_rfl) (Mods.refl.drew) (fun hHeld => ?_)
          refine takeD (i := 1) (d := 28) (v := .agg #[.slice aw' W2.length cw', .int .i64 0]) rfl rfl (by kernel_rfl) (by kernel_rfl) (by kernel_rfl) (fun _ _ _ h => h) (yieldsIf_load_row rfl 90 (.tmp 1) rfl w.heap.size rfl 90 #[.slice aw' W2.length cw', .int .i64 0] (0, 0) _ (fun W M => M.heap HR8.out (by simp)) Try.underlying90 rfl Try.infoFl) hHeld ?_
          simp only [List.setIfInBounds_toArray, List.set_cons_zero, List.set_cons_succ]
          refine wpAnyH_ready (rs := [0]) (by kernel_rfl) (by simp) ?_
          refine AllReadyH.cons rfl (fun K hK => ?_) AllReadyH.nil
          go_simp
          go_wp2_with (go_at_call 107; refine (HEX.out _).mono ?_; rintro e W9 ⟨rfl, M9⟩)
          refine hK.out _ _ ?_ (fun hHeld => ?_)
          · exact hHeld.trans M9
          clear hK K
          refine wpAnyH_ready (rs := [2]) (by kernel_rfl) (by simp) ?_
          refine AllReadyH.cons rfl (fun K hK => ?_) AllReadyH.nil
          go_simp
          go_wp2_with (go_at_call 66; refine (RD.out _ hHeld).mono ?_; rintro e W10 ⟨rfl, M10⟩)
          refine hK.out _ _ ?_ (fun hHeld => ?_)
          · exact hHeld.trans M10
          clear hK K
          refine takeD (i := 3) (d := 26) (v := ?_) rfl rfl (by kernel_rfl) (by kernel_rfl) (by kernel_rfl) (fun _ _ _ h => h) (Or.inl ⟨by rfl, ?_⟩) hHeld ?_
          rotate_left 1
          · (intro w hSw; (try dsimp only at hSw); go_simp; (try with_reducible rfl))
          simp only [List.setIfInBounds_toArray, List.set_cons_zero, List.set_cons_succ]
          refine takeD (i := 4) (d := 30) (v := ?_) rfl rfl (by kernel_rfl) (by kernel_rfl) (by kernel_rfl) (fun _ _ _ h => h) (Or.inl ⟨by rfl, ?_⟩) hHeld ?_
          rotate_left 1
          · (intro w hSw; (try dsimp only at hSw); go_simp; (try with_reducible rfl))
          simp only [List.setIfInBounds_toArray, List.set_cons_zero, List.set_cons_succ]
          refine takeD (i := 5) (d := 31) (v := ?_) rfl rfl (by kernel_rfl) (by kernel_rfl) (by kernel_rfl) (fun _ _ _ h => h) (Or.inl ⟨by rfl, ?_⟩) hHeld ?_
          rotate_left 1
          · (intro w hSw; (try dsimp only at hSw); go_simp; (try with_reducible rfl))
          simp only [List.setIfInBounds_toArray, List.set_cons_zero, List.set_cons_succ]
          refine takeD (i := 6) (d := 6) (v := ?_) rfl rfl (by kernel_rfl) (by kernel_rfl) (by kernel_rfl) (fun _ _ _ h => h) (Or.inl ⟨by rfl, ?_⟩) hHeld ?_
          rotate_left 1
          · (intro w hSw; (try dsimp only at hSw); go_simp; (try with_reducible rfl))
          simp only [List.setIfInBounds_toArray, List.set_cons_zero, List.set_cons_succ]
          refine takeD (i := 7) (d := 7) (v := ?_) rfl rfl (by kernel_rfl) (by kernel_rfl) (by kernel_rfl) (fun _ _ _ h => h) (Or.inl ⟨by rfl, ?_⟩) hHeld ?_
          rotate_left 1
          · (intro w hSw; (try dsimp only at hSw); go_simp; (try with_reducible rfl))
          simp only [List.setIfInBounds_toArray, List.set_cons_zero, List.set_cons_succ]
          refine wpAnyH_done (by kernel_rfl) ?_ _
          have HM10 := Lib.hid hHeld
          have hRel : ∃ win, W10.heap[w.heap.size]? = some (.cells #[win, .int .i64 0] 90 (0, 0)) ∧ Rd W10 win (u8s (winM.getD (k + 1) [])) ∧ (∀ q, win.ownBlock = some q → w.heap.size + 1 < q) ∧ Mods [w.heap.size] w1 W10 :=
            ⟨.slice aw' W2.length cw', hHeld.heap HR8.out (by simp), by rw [HW2.out]; exact HRD8.out.mods0 hHeld, HGO.out, (((HM.out.comp0 HM6.out).trans HM8.out).comp0 hHeld)⟩
          have HRel := Lib.hid hRel
          clear hRel hHeld HR8 HRD8 HGO HM6 HM8 M9 M10
          by_cases h2 : 2 ≤ k
          · obtain rfl : b2 = true := by rw [← HB2.out]; exact decide_eq_true h2
            obtain rfl : x12 = 12 := by rw [← HX12.out]; exact if_pos h2
            have q1 : decide ((k : Int) ≥ 2) = true := decide_eq_true (by omega)
            have q2 : (2 : Int) ≤ (k : Int) := by omega
            go_wp2_with fail
            exact ⟨⟨k + 1, by omega, by go_num, HRel.out⟩, by simp only [intOf]; omega⟩
          · obtain rfl : b2 = false := by rw [← HB2.out]; exact decide_eq_false h2
            obtain rfl : x12 = 0 := by rw [← HX12.out]; exact if_neg h2
            have q1 : decide ((k : Int) ≥ 2) = false := decide_eq_false (by omega)
            have q2 : ¬ (2 : Int) ≤ (k : Int) := by omega
            go_wp2_with fail
            exact ⟨⟨k + 1, by omega, by go_num, HRel.out⟩, by simp only [intOf]; omega⟩
      case br2 =>
        go_simp
        refine hK.out _ _ ?_ (fun hHeld => ?_)
        · exact hHeld.alloc _
        clear hK K
        have HZW := Lib.hid (show wr.heap.size ≤ (wr.drew.alloc (.cells #[.slice none 0 0, .int .i64 0] 90)).heap.size by simp)
        refine wpAnyH_ready (rs := [0]) (by kernel_rfl) (by simp) ?_
        refine AllReadyH.cons rfl (fun K hK => ?_) AllReadyH.nil
        go_simp
        go_wp2_with (go_at_call 107; refine (HEX.out _).mono ?_; rintro e W4 ⟨rfl, M4⟩)
        refine hK.out _ _ ?_ (fun hHeld => ?_)
        · exact hHeld.trans M4
        have hz4 : wr.heap.size ≤ W4.heap.size := Nat.le_trans HZW.out M4.size
        have HM4 := Lib.hid M4
        clear hK K M4
        refine wpAnyH_ready (rs := [5]) (by kernel_rfl) (by simp) ?_
        refine AllReadyH.cons rfl (fun K hK => ?_) AllReadyH.nil
        go_simp
        go_wp2_with (go_at_call 64; refine (ST.out _ hHeld).mono ?_; rintro e W5 ⟨win', rfl, rd', own', M5⟩; obtain ⟨aw', cw', rfl⟩ := rd'.len; rw [u8s_length] at rd' own' ⊢; have HRD5 := Lib.hid rd'; have HOW5 := Lib.hid own'; have HM5 := Lib.hid M5; clear rd' own' M5)
        refine hK.out _ _ ?_ (fun hHeld => ?_)
        · exact hHeld.trans HM5.out
        clear hK K
        refine takeD (i := 6) (d := 14) (v := ?_) rfl rfl (by kernel_rfl) (by kernel_rfl) (by kernel_rfl) (fun _ _ _ h => h) (Or.inl ⟨by rfl, ?_⟩) hHeld ?_
        rotate_left 1
        · (intro w hSw; (try dsimp only at hSw); go_simp; (try with_reducible rfl))
        simp only [List.setIfInBounds_toArray, List.set_cons_zero, List.set_cons_succ]
        refine takeD (i := 7) (d := 21) (v := ?_) rfl rfl (by kernel_rfl) (by kernel_rfl) (by kernel_rfl) (fun _ _ _ h => h) (Or.inl ⟨by rfl, ?_⟩) hHeld ?_
        rotate_left 1
        · (intro w hSw; (try dsimp only at hSw); go_simp; (try with_reducible rfl))
        simp only [List.setIfInBounds_toArray, List.set_cons_zero, List.set_cons_succ]
        refine takeD (i := 8) (d := 22) (v := ?_) rfl rfl (by kernel_rfl) (by kernel_rfl) (by kernel_rfl) (fun _ _ _ h => h) (Or.inl ⟨by rfl, ?_⟩) hHeld ?_
        rotate_left 1
        · (intro w hSw; (try dsimp only at hSw); go_simp; (try with_reducible rfl))
        simp only [List.setIfInBounds_toArray, List.set_cons_zero, List.set_cons_succ]
        have RA := Lib.hid (show W5.heap[wr.heap.size]? = _ from HM5.out.heap (HM4.out.heap (heap_alloc_new wr.drew (.cells #[.slice none 0 0, .int .i64 0] 90)) (by simp)) (by simp))
        have HRDA := Lib.hid HRD5.out
        have HOWA := Lib.hid (show ∀ q, (Value.slice aw' W2.length cw').ownBlock = some q → wr.heap.size ≤ q from fun q hq => by have h1 := HOW5.out q hq; omega)
        obtain ⟨gA, hgA2⟩ : ∃ gA, gA = wr.heap.size := ⟨_, rfl⟩
        have hgA : wr.heap.size ≤ gA := by omega
        clear HM5 HRD5 HOW5 HM4
        rw [← hgA2] at RA ⊢
        clear hgA2
        refine wpAnyH_ready (rs := [10]) (by kernel_rfl) (by simp) ?_
        refine AllReadyH.cons rfl (fun K hK => ?_) AllReadyH.nil
        refine exec_store rfl rfl rfl RA.out rfl rfl (by rfl) Try.infoFl (by simp [Value.oneCell']) (fun w6 R6 M6 => ?_)
        refine hK.out _ _ ?_ (fun hHeld => ?_)
        · exact hHeld.comp M6 (fun k hk => by simp at hk; exact .inr (by omega))
        clear hK K
        refine takeD (i := 11) (d := 5) (v := ?_) rfl rfl (by kernel_rfl) (by kernel_rfl) (by kernel_rfl) (fun _ _ _ h => h) (Or.inl ⟨by rfl, ?_⟩) hHeld ?_
        rotate_left 1
        · (intro w hSw; (try dsimp only at hSw); go_simp; (try with_reducible rfl))
        simp only [List.setIfInBounds_toArray, List.set_cons_zero, List.set_cons_succ]
        refine wpAnyH_done (by kernel_rfl) ?_ _
        have HM6 := Lib.hid hHeld
        have HR6 := Lib.hid R6
        have HRD6 := Lib.hid (show Rd w6 (.slice aw' W2.length cw') (u8s W2) from HRDA.out.mods M6 (fun hne k hk hm => by simp at hm; exact rd_apart HRDA.out (fun h0 => hne (by rw [h0]; rfl)) RA.out (fun y => by simp) k hk hm))
        have HF6 := Lib.hid (hHeld.heap HF.out (by simp))
        clear hHeld R6 M6
        go_wp2_with (first
          | (refine wpList_load_row rfl _ (.tmp 4) rfl gA (by rfl) _ _ _ _ HR6.out Try.underlying90 rfl Try.infoFl ?_)
          | (refine wpList_store_row (cs := #[.slice aw' W2.length cw', .int .i64 0]) rfl 90 (.tmp 1) (.tmp 25) rfl HF6.out (by rfl) (by rfl) (by rfl) Try.infoFl (by simp [Value.oneCell']) ?_; go_must (intro w8 R8 M8; have HR8 := Lib.hid R8; have HM8 := Lib.hid M8; clear R8 M8)))
        have hgo : ∀ q, (Value.slice aw' W2.length cw').ownBlock = some q → w.heap.size + 1 < q := fun q hq => by have := HOWA.out q hq; omega
        have HRD8 := Lib.hid (HRD6.out.mods HM8.out (fun _ k hk hm => by have := hgo k hk; simp at hm; omega))
        have HGO := Lib.hid hgo
        clear hgo HR6 HF6
        have RD := Lib.hid (fun W' (M : Mods [] w8 W') => (samReading_ok W' exM [] _ W2 0 (exM_is W') (HFN.out W' _ (HRD8.out.mods0 M))).mono (readM HRB.out HBM.out HMED.out))
        generalize hx12 : (if 2 ≤ k then (12 : Int) else 0) = x12 at RD
        have HX12 := Lib.hid hx12
        clear hx12
        generalize hb2 : decide (2 ≤ k) = b2 at RD
        have HB2 := Lib.hid hb2
        clear hb2
        try dsimp only [Act.put]
        refine heldStart (S := fun W' => Mods [] w8 W') 8 rfl (by kernel_rfl) (Mods.refl.drew) (fun hHeld => ?_)
        refine takeD (i := 1) (d := 28) (v := .agg #[.slice aw' W2.length cw', .int .i64 0]) rfl rfl (by kernel_rfl) (by kernel_rfl) (by kernel_rfl) (fun _ _ _ h => h) (yieldsIf_load_row rfl 90 (.tmp 1) rfl w.heap.size rfl 90 #[.slice aw' W2.length cw', .int .i64 0] (0, 0) _ (fun W M => M.heap HR8.out (by simp)) Try.underlying90 rfl Try.infoFl) hHeld ?_
        simp only [List.setIfInBounds_toArray, List.set_cons_zero, List.set_cons_succ]
        refine wpAnyH_ready (rs := [0]) (by kernel_rfl) (by simp) ?_
        refine AllReadyH.cons rfl (fun K hK => ?_) AllReadyH.nil
        go_simp
        go_wp2_with (go_at_call 107; refine (HEX.out _).mono ?_; rintro e W9 ⟨rfl, M9⟩)
        refine hK.out _ _ ?_ (fun hHeld => ?_)
        · exact hHeld.trans M9
        clear hK K
        refine wpAnyH_ready (rs := [2]) (by kernel_rfl) (by simp) ?_
        refine AllReadyH.cons rfl (fun K hK => ?_) AllReadyH.nil
        go_simp
        go_wp2_with (go_at_call 66; refine (RD.out _ hHeld).mono ?_; rintro e W10 ⟨rfl, M10⟩)
        refine hK.out _ _ ?_ (fun hHeld => ?_)
        · exact hHeld.trans M10
        clear hK K
        refine takeD (i := 3) (d := 26) (v := ?_) rfl rfl (by kernel_rfl) (by kernel_rfl) (by kernel_rfl) (fun _ _ _ h => h) (Or.inl ⟨by rfl, ?_⟩) hHeld ?_
        rotate_left 1
        · (intro w hSw; (try dsimp only at hSw); go_simp; (try with_reducible rfl))
        simp only [List.setIfInBounds_toArray, List.set_cons_zero, List.set_cons_succ]
        refine takeD (i := 4) (d := 30) (v := ?_) rfl rfl (by kernel_rfl) (by kernel_rfl) (by kernel_rfl) (fun _ _ _ h => h) (Or.inl ⟨by rfl, ?_⟩) hHeld ?_
        rotate_left 1
        · (intro w hSw; (try dsimp only at hSw); go_simp; (try with_reducible rfl))
        simp only [List.setIfInBounds_toArray, List.set_cons_zero, List.set_cons_succ]
        refine takeD (i := 5) (d := 31) (v := ?_) rfl rfl (by kernel_rfl) (by kernel_rfl) (by kernel_rfl) (fun _ _ _ h => h) (Or.inl ⟨by rfl, ?_⟩) hHeld ?_
        rotate_left 1
        · (intro w hSw; (try dsimp only at hSw); go_simp; (try with_reducible rfl))
        simp only [List.setIfInBounds_toArray, List.set_cons_zero, List.set_cons_succ]
        refine takeD (i := 6) (d := 6) (v := ?_) rfl rfl (by kernel_rfl) (by kernel_rfl) (by kernel_rfl) (fun _ _ _ h => h) (Or.inl ⟨by rfl, ?_⟩) hHeld ?_
        rotate_left 1
        · (intro w hSw; (try dsimp only at hSw); go_simp; (try with_reducible rfl))
        simp only [List.setIfInBounds_toArray, List.set_cons_zero, List.set_cons_succ]
        refine takeD (i := 7) (d := 7) (v := ?_) rfl rfl (by kernel_rfl) (by kernel_rfl) (by kernel_rfl) (fun _ _ _ h => h) (Or.inl ⟨by rfl, ?_⟩) hHeld ?_
        rotate_left 1
        · (intro w hSw; (try dsimp only at hSw); go_simp; (try with_reducible rfl))
        simp only [List.setIfInBounds_toArray, List.set_cons_zero, List.set_cons_succ]
        refine wpAnyH_done (by kernel_rfl) ?_ _
        have HM10 := Lib.hid hHeld
        have hRel : ∃ win, W10.heap[w.heap.size]? = some (.cells #[win, .int .i64 0] 90 (0, 0)) ∧ Rd W10 win (u8s (winM.getD (k + 1) [])) ∧ (∀ q, win.ownBlock = some q → w.heap.size + 1 < q) ∧ Mods [w.heap.size] w1 W10 :=
          ⟨.slice aw' W2.length cw', hHeld.heap HR8.out (by simp), by rw [HW2.out]; exact HRD8.out.mods0 hHeld, HGO.out, (((HM.out.comp0 HM6.out).trans HM8.out).comp0 hHeld)⟩
        have HRel := Lib.hid hRel
        clear hRel hHeld HR8 HRD8 HGO HM6 HM8 M9 M10
        by_cases h2 : 2 ≤ k
        · obtain rfl : b2 = true := by rw [← HB2.out]; exact decide_eq_true h2
          obtain rfl : x12 = 12 := by rw [← HX12.out]; exact if_pos h2
          have q1 : decide ((k : Int) ≥ 2) = true := decide_eq_true (by omega)
          have q2 : (2 : Int) ≤ (k : Int) := by omega
          go_wp2_with fail
          exact ⟨⟨k + 1, by omega, by go_num, HRel.out⟩, by simp only [intOf]; omega⟩
        · obtain rfl : b2 = false := by rw [← HB2.out]; exact decide_eq_false h2
          obtain rfl : x12 = 0 := by rw [← HX12.out]; exact if_neg h2
          have q1 : decide ((k : Int) ≥ 2) = false := decide_eq_false (by omega)
          have q2 : ¬ (2 : Int) ≤ (k : Int) := by omega
          go_wp2_with fail
          exact ⟨⟨k + 1, by omega, by go_num, HRel.out⟩, by simp only [intOf]; omega⟩
    · have hjl : k = 4 := by omega
      subst hjl
      have HRT := Lib.hid (AM.out.comp HM.out (fun k hk => by simp at hk; exact .inr (by omega)))
      go_wp2_with fail
      go_ret
      exact ⟨rfl, HRT.out⟩
end Go.Proofs.Ytgjjmiaiclhidaa
