/- The event log's header: contract. -/
import Derived.Test.YtkdadnlleepkfaaLgC
namespace Go.Proofs.Ytkdadnlleepkfaa
open Go.RowKit
set_option linter.unusedVariables false
set_option linter.unusedSimpArgs false

def hdCells (h : Hd) : Array Value := #[.int .i64 (h.q : Nat), .int .i64 (h.t : Nat), .int .u16 (h.id : Nat)]
theorem Try.sizeHd : (Try.prog.info? 92).map (·.size) = some 3 := by kernel_rfl
theorem hdCells_one (h : Hd) : (hdCells h).all (·.oneCell') = true := by simp [hdCells, Value.oneCell']
def okB (f : Nat → Nat) (n j : Nat) (h : Hd) : Bool := decide (f 10 = 0 ∧ okHd n j h)
set_option maxRecDepth 100000 in
set_option maxHeartbeats 8000000 in
theorem header_ok (w : World) (gl : Nat) (T : TypeId) (cs : Array Value) (hgl : w.heap[gl]? = some (.cells cs T (0, 0))) (n : Nat) (hn : 2 ≤ n ∧ n ≤ 16) (hcn : cs[2]? = some (.int .i64 (n : Nat))) (v : Value) (A : List Int) (hv : Rd w v (u8s A)) (hb : Bytes A) (hl : 64 ≤ A.length) (j : Nat) (hj : j < n) :
    Calls Try.prog 49 #[.pointer (some ⟨gl, 0, none⟩), v, .int .i64 (j : Nat)] w fun e w' =>
      e = .returned (.tuple #[.agg (hdCells (rawHd (fun i => (A.getD i 0).toNat) 0)), .bool (okB (fun i => (A.getD i 0).toNat) n j (rawHd (fun i => (A.getD i 0).toNat) 0))]) ∧ Mods [] w w' := by
  have HV := Lib.hid hv
  have HB := Lib.hid hb
  obtain ⟨ad, cap, rfl, h1, h2, hc⟩ := hv.u8
  have h2 : cap ≤ 9223372036854775807 := h2
  obtain ⟨bb, off, rfl, x0⟩ := hc 0 (by omega)
  have hx : ∀ i, i < A.length → w.cell? ⟨bb, off + i, none⟩ = some (.int .u8 ((A.getD i 0).toNat : Nat)) := fun i hi => by
    obtain ⟨b', o', he, hx⟩ := hc i hi
    cases he
    have := hb i
    rw [hx, show ((A.getD i 0).toNat : Int) = A.getD i 0 by omega]
  have hn8 : ∀ i, (A.getD i 0).toNat < 256 := fun i => by have := hb i; omega
  obtain ⟨f, hf⟩ : ∃ f : Nat → Nat, f = fun i => (A.getD i 0).toNat := ⟨_, rfl⟩
  have hfi : ∀ i, (A.getD i 0).toNat = f i := fun i => by rw [hf]
  rw [← hf]
  simp only [hfi] at hx hn8
  have HX := Lib.hid hx
  have HN := Lib.hid hn8
  have HF := Lib.hid hf
  have HFI := Lib.hid hfi
  have M0 := Lib.hid ((Mods.refl (S := []) (w := w)).alloc (.cells #[.int .i64 0, .int .i64 0, .int .u16 0] 92))
  have B0 := Lib.hid (heap_alloc_new w (.cells #[.int .i64 0, .int .i64 0, .int .u16 0] 92))
  have HGL := Lib.hid hgl
  have HCN := Lib.hid hcn
  clear hx hn8 hc hv hb x0 hgl hcn hf hfi
  go_enter Try.func49, Try.ntmps49
  go_upto_region 1 with (fail)
  generalize w.alloc (.cells #[.int .i64 0, .int .i64 0, .int .u16 0] 92) = w0 at B0 M0 ⊢
  generalize hg0 : w.heap.size = g0 at B0 ⊢
  have HG0 := Lib.hid (Nat.le_of_eq hg0)
  clear hg0
  have HXM := Lib.hid (fun W (M : Mods [] w0 W) i (hi : i < A.length) => M.cell (M0.out.cell (HX.out i hi) (by simp)) (by simp))
  have HR4 := Lib.hid (fun W (M : Mods [] w0 W) => (read4_ok W _ A ((HV.out.mods0 M0.out).mods0 M) HB.out (by omega)).mono (fun e w' ⟨h1, n, h2⟩ => (⟨h1, by rw [h2]; exact Mods.refl.drewN n⟩ : _ ∧ Mods [] W w')))
  have hd4 : Rd w (.slice (some ⟨bb, off + 4, none⟩) (A.length - 4) (cap - 4)) (u8s (A.drop 4)) := by
    refine ⟨_, cap - 4, by rw [u8s_length, List.length_drop], by rw [u8s_length, List.length_drop]; omega, by unfold maxLen; omega, fun i hi => ?_⟩
    rw [u8s_length, List.length_drop] at hi
    refine ⟨bb, off + 4, rfl, ?_⟩
    have := HX.out (4 + i) (by omega)
    rw [Nat.add_assoc, this, u8s_getD _ _ (by rw [List.length_drop]; omega)]
    have hb := HB.out (4 + i)
    have e : (A.drop 4).getD i 0 = A.getD (4 + i) 0 := by simp [List.getD_eq_getElem?_getD, List.getElem?_drop]
    rw [e, ← HFI.out, show ((A.getD (4 + i) 0).toNat : Int) = A.getD (4 + i) 0 by omega]
  have HD4 := Lib.hid hd4
  have hbd : Bytes (A.drop 4) := fun i => by
    have := HB.out (4 + i)
    simpa [List.getD_eq_getElem?_getD, List.getElem?_drop] using this
  have HR5 := Lib.hid (fun W (M : Mods [] w0 W) => (read4_ok W _ (A.drop 4) ((HD4.out.mods0 M0.out).mods0 M) hbd (by rw [List.length_drop]; omega)).mono (fun e w' ⟨h1, n, h2⟩ => (⟨h1, by rw [h2]; exact Mods.refl.drewN n⟩ : _ ∧ Mods [] W w')))
  have e4 : (fun i => ((A.drop 4).getD i 0).toNat) = fun i => (A.getD (4 + i) 0).toNat := by funext i; simp [List.getD_eq_getElem?_getD, List.getElem?_drop]
  rw [e4] at HR5
  have el : le4 (fun i => (A.getD (4 + i) 0).toNat) 0 = le4 (fun i => (A.getD i 0).toNat) 4 := by unfold le4; simp only [Nat.zero_add, Nat.add_zero, Nat.reduceAdd]
  rw [el] at HR5
  rw [← HF.out] at HR4 HR5
  clear hd4 hbd e4 el
  have b8 := HN.out 8
  have b9 := HN.out 9
  have hl4 : (4 : Int) ≤ (A.length : Int) := by omega
  have hc4 : ¬ cap = 4 := by omega
  have i8 : (8 : Int) < (A.length : Int) := by omega
  have i9 : (9 : Int) < (A.length : Int) := by omega
  obtain ⟨q, hq⟩ : ∃ q, q = le4 f 0 := ⟨_, rfl⟩
  obtain ⟨t, ht⟩ : ∃ t, t = le4 f 4 := ⟨_, rfl⟩
  have HQT := Lib.hid (And.intro hq ht)
  rw [← hq] at HR4
  rw [← ht] at HR5
  have q32 : q < 4294967296 := by rw [hq]; unfold le4; have := HN.out 0; have := HN.out 1; have := HN.out 2; have := HN.out 3; simp only [Nat.zero_add]; omega
  have t32 : t < 4294967296 := by rw [ht]; unfold le4; have := HN.out 4; have := HN.out 5; have := HN.out 6; have := HN.out 7; simp only [Nat.reduceAdd]; omega
  clear hq ht
  have hz0 := M0.out.size
  have HH : Hid (∀ (g : Nat) (W : World) (x : Int), x = bits .or .u16 (IntKind.u16.wrap (f 8 : Nat)) (IntKind.u16.wrap (IntKind.u16.wrap (f 9 : Nat) * 256)) → W.heap[g]? = some (.cells #[.int .i64 (q : Nat), .int .i64 (t : Nat), .int .u16 x] 92 (0, 0)) → W.heap[g]? = some (.cells (hdCells (rawHd f 0)) 92 (0, 0))) := Lib.hid (fun g W x hx h => by
    have e : x = (((rawHd f 0).id : Nat) : Int) := by
      have c8 := HN.out 8
      have c9 := HN.out 9
      have e16 : ∀ i, IntKind.u16.wrap ((f i : Nat) : Int) = ((f i : Nat) : Int) := fun i => by have := HN.out i; rw [IntKind.wrap_u16]; omega
      have g16 : IntKind.u16.wrap (((f 9 : Nat) : Int) * 256) = ((f 9 : Nat) : Int) * 256 := by rw [IntKind.wrap_u16]; omega
      rw [hx, e16, e16, g16, join16 _ _ c8 c9]
      unfold rawHd le2
      simp only [Nat.zero_add, Nat.reduceAdd]
    rw [e, HQT.out.1, HQT.out.2] at h
    exact h)
  go_cut [8] (fun u wx => ∃ g, u = .pointer (some ⟨g, 0, none⟩) ∧ wx.heap[g]? = some (.cells (hdCells (rawHd f 0)) 92 (0, 0)) ∧ w.heap.size ≤ g ∧ g ≠ g0 ∧ Mods [] w0 wx)
  case first =>
    refine heldStart (S := fun W => Mods [] w0 W) 18 rfl (by kernel_rfl) Mods.refl.drew (fun hHeld => ?_)
    refine takeD (i := 0) (d := 10) (v := ?_) rfl rfl (by kernel_rfl) (by kernel_rfl) (by kernel_rfl) (fun _ _ _ h => h) (Or.inl ⟨by rfl, ?_⟩) hHeld ?_
    rotate_left 1
    · (intro w hSw; (try dsimp only at hSw); go_simp; (try with_reducible rfl))
    simp only [List.setIfInBounds_toArray, List.set_cons_zero, List.set_cons_succ]
    refine takeD (i := 2) (d := 12) (v := ?_) rfl rfl (by kernel_rfl) (by kernel_rfl) (by kernel_rfl) (fun _ _ _ h => h) (Or.inl ⟨by rfl, ?_⟩) hHeld ?_
    rotate_left 1
    · (intro w hSw; (try dsimp only at hSw); go_simp; (try with_reducible rfl))
    simp only [List.setIfInBounds_toArray, List.set_cons_zero, List.set_cons_succ]
    refine takeD (i := 3) (d := 13) (v := ?_) rfl rfl (by kernel_rfl) (by kernel_rfl) (by kernel_rfl) (fun _ _ _ h => h) (Or.inl ⟨by rfl, ?_⟩) hHeld ?_
    rotate_left 1
    · (intro w hSw; (try dsimp only at hSw); go_simp; (try with_reducible rfl))
    simp only [List.setIfInBounds_toArray, List.set_cons_zero, List.set_cons_succ]
    refine takeD (i := 5) (d := 15) (v := ?_) rfl rfl (by kernel_rfl) (by kernel_rfl) (by kernel_rfl) (fun _ _ _ h => h) (Or.inl ⟨by rfl, ?_⟩) hHeld ?_
    rotate_left 1
    · (intro w hSw; (try dsimp only at hSw); go_simp; (try with_reducible rfl))
    simp only [List.setIfInBounds_toArray, List.set_cons_zero, List.set_cons_succ]
    refine takeD (i := 6) (d := 16) (v := ?_) rfl rfl (by kernel_rfl) (by kernel_rfl) (by kernel_rfl) (fun _ _ _ h => h) (Or.inl ⟨by rfl, ?_⟩) hHeld ?_
    rotate_left 1
    · (intro w hSw; (try dsimp only at hSw); go_simp; (try with_reducible rfl))
    simp only [List.setIfInBounds_toArray, List.set_cons_zero, List.set_cons_succ]
    refine takeD (i := 7) (d := 17) (v := .int .u8 (f 8 : Nat)) rfl rfl (by kernel_rfl) (by kernel_rfl) (by kernel_rfl) (fun _ _ _ h => h) (Or.inl ⟨by rfl, fun w hSw => ?_⟩) hHeld ?_
    · have cst := HXM.out w hSw 8 (by omega)
      go_simp
    simp only [List.setIfInBounds_toArray, List.set_cons_zero, List.set_cons_succ]
    refine takeD (i := 8) (d := 18) (v := ?_) rfl rfl (by kernel_rfl) (by kernel_rfl) (by kernel_rfl) (fun _ _ _ h => h) (Or.inl ⟨by rfl, ?_⟩) hHeld ?_
    rotate_left 1
    · (intro w hSw; (try dsimp only at hSw); go_simp; (try with_reducible rfl))
    simp only [List.setIfInBounds_toArray, List.set_cons_zero, List.set_cons_succ]
    refine takeD (i := 9) (d := 19) (v := ?_) rfl rfl (by kernel_rfl) (by kernel_rfl) (by kernel_rfl) (fun _ _ _ h => h) (Or.inl ⟨by rfl, ?_⟩) hHeld ?_
    rotate_left 1
    · (intro w hSw; (try dsimp only at hSw); go_simp; (try with_reducible rfl))
    simp only [List.setIfInBounds_toArray, List.set_cons_zero, List.set_cons_succ]
    refine takeD (i := 10) (d := 20) (v := ?_) rfl rfl (by kernel_rfl) (by kernel_rfl) (by kernel_rfl) (fun _ _ _ h => h) (Or.inl ⟨by rfl, ?_⟩) hHeld ?_
    rotate_left 1
    · (intro w hSw; (try dsimp only at hSw); go_simp; (try with_reducible rfl))
    simp only [List.setIfInBounds_toArray, List.set_cons_zero, List.set_cons_succ]
    refine takeD (i := 11) (d := 21) (v := .int .u8 (f 9 : Nat)) rfl rfl (by kernel_rfl) (by kernel_rfl) (by kernel_rfl) (fun _ _ _ h => h) (Or.inl ⟨by rfl, fun w hSw => ?_⟩) hHeld ?_
    · have cst := HXM.out w hSw 9 (by omega)
      go_simp
    simp only [List.setIfInBounds_toArray, List.set_cons_zero, List.set_cons_succ]
    refine takeD (i := 12) (d := 22) (v := ?_) rfl rfl (by kernel_rfl) (by kernel_rfl) (by kernel_rfl) (fun _ _ _ h => h) (Or.inl ⟨by rfl, ?_⟩) hHeld ?_
    rotate_left 1
    · (intro w hSw; (try dsimp only at hSw); go_simp; (try with_reducible rfl))
    simp only [List.setIfInBounds_toArray, List.set_cons_zero, List.set_cons_succ]
    refine takeD (i := 13) (d := 23) (v := ?_) rfl rfl (by kernel_rfl) (by kernel_rfl) (by kernel_rfl) (fun _ _ _ h => h) (Or.inl ⟨by rfl, ?_⟩) hHeld ?_
    rotate_left 1
    · (intro w hSw; (try dsimp only at hSw); go_simp; (try with_reducible rfl))
    simp only [List.setIfInBounds_toArray, List.set_cons_zero, List.set_cons_succ]
    refine takeD (i := 14) (d := 24) (v := ?_) rfl rfl (by kernel_rfl) (by kernel_rfl) (by kernel_rfl) (fun _ _ _ h => h) (Or.inl ⟨by rfl, ?_⟩) hHeld ?_
    rotate_left 1
    · (intro w hSw; (try dsimp only at hSw); go_simp; (try with_reducible rfl))
    simp only [List.setIfInBounds_toArray, List.set_cons_zero, List.set_cons_succ]
    refine wpAnyH_ready (rs := [1, 16]) (by kernel_rfl) (by simp) (AllReadyH.cons rfl (fun K hK => ?_) (AllReadyH.cons rfl (fun K hK => ?_) AllReadyH.nil))
    · skip
      go_simp
      go_wp2_with (go_at_call 82; refine (HR4.out _ hHeld).mono ?_; rintro e WA ⟨rfl, MA⟩)
      refine hK.out _ _ (hHeld.trans MA) (fun hHeld => ?_)
      clear hK K
      refine wpAnyH_ready (rs := [4, 16]) (by kernel_rfl) (by simp) (AllReadyH.cons rfl (fun K hK => ?_) (AllReadyH.cons rfl (fun K hK => ?_) AllReadyH.nil))
      · skip
        go_simp
        go_wp2_with (go_at_call 82; refine (HR5.out _ hHeld).mono ?_; rintro e WA ⟨rfl, MA⟩)
        refine hK.out _ _ (hHeld.trans MA) (fun hHeld => ?_)
        clear hK K
        refine takeD (i := 15) (d := 25) (v := ?_) rfl rfl (by kernel_rfl) (by kernel_rfl) (by kernel_rfl) (fun _ _ _ h => h) (Or.inl ⟨by rfl, ?_⟩) hHeld ?_
        rotate_left 1
        · (intro w hSw; (try dsimp only at hSw); go_simp; (try with_reducible rfl))
        simp only [List.setIfInBounds_toArray, List.set_cons_zero, List.set_cons_succ]
        refine wpAnyH_ready (rs := [16]) (by kernel_rfl) (by simp) ?_
        refine AllReadyH.cons rfl (fun K hK => ?_) AllReadyH.nil
        have HZA := heap_alloc_new WA (.cells #[.int .i64 0, .int .i64 0, .int .u16 0] 92)
        have HGA := hHeld.size
        go_simp
        refine hK.out _ _ (hHeld.alloc _) (fun hHeld => ?_)
        clear hK K
        refine wpAnyH_ready (rs := [17]) (by kernel_rfl) (by simp) ?_
        refine AllReadyH.cons rfl (fun K hK => ?_) AllReadyH.nil
        refine exec_store rfl rfl rfl HZA rfl rfl (by rfl) Try.sizeHd (by simp [Value.oneCell']) (fun W3 R3 M3 => ?_)
        have M30 := hHeld.comp M3 (fun k hk => by simp at hk; subst hk; exact .inr HGA)
        refine hK.out _ _ M30 (fun hHeld => ?_)
        clear hK K
        refine wpAnyH_done (by kernel_rfl) ?_ _
        go_wp2_with fail
        go_meet
        exact ⟨_, rfl, HH.out _ _ _ rfl R3, Nat.le_trans hz0 HGA, by have := lt_of_block B0.out; omega, M30⟩
      · have HZA := heap_alloc_new WA (.cells #[.int .i64 0, .int .i64 0, .int .u16 0] 92)
        have HGA := hHeld.size
        go_simp
        refine hK.out _ _ (hHeld.alloc _) (fun hHeld => ?_)
        clear hK K
        refine wpAnyH_ready (rs := [4]) (by kernel_rfl) (by simp) ?_
        refine AllReadyH.cons rfl (fun K hK => ?_) AllReadyH.nil
        go_simp
        go_wp2_with (go_at_call 82; refine (HR5.out _ hHeld).mono ?_; rintro e WB ⟨rfl, MB⟩)
        refine hK.out _ _ (hHeld.trans MB) (fun hHeld => ?_)
        clear hK K
        have HZA := MB.heap HZA (by simp)
        refine takeD (i := 15) (d := 25) (v := ?_) rfl rfl (by kernel_rfl) (by kernel_rfl) (by kernel_rfl) (fun _ _ _ h => h) (Or.inl ⟨by rfl, ?_⟩) hHeld ?_
        rotate_left 1
        · (intro w hSw; (try dsimp only at hSw); go_simp; (try with_reducible rfl))
        simp only [List.setIfInBounds_toArray, List.set_cons_zero, List.set_cons_succ]
        refine wpAnyH_ready (rs := [17]) (by kernel_rfl) (by simp) ?_
        refine AllReadyH.cons rfl (fun K hK => ?_) AllReadyH.nil
        refine exec_store rfl rfl rfl HZA rfl rfl (by rfl) Try.sizeHd (by simp [Value.oneCell']) (fun W3 R3 M3 => ?_)
        have M30 := hHeld.comp M3 (fun k hk => by simp at hk; subst hk; exact .inr HGA)
        refine hK.out _ _ M30 (fun hHeld => ?_)
        clear hK K
        refine wpAnyH_done (by kernel_rfl) ?_ _
        go_wp2_with fail
        go_meet
        exact ⟨_, rfl, HH.out _ _ _ rfl R3, Nat.le_trans hz0 HGA, by have := lt_of_block B0.out; omega, M30⟩
    · have HZA := heap_alloc_new w0.drew (.cells #[.int .i64 0, .int .i64 0, .int .u16 0] 92)
      have HGA : w0.heap.size ≤ w0.drew.heap.size := Nat.le_refl _
      go_simp
      refine hK.out _ _ (hHeld.alloc _) (fun hHeld => ?_)
      clear hK K
      refine wpAnyH_ready (rs := [1]) (by kernel_rfl) (by simp) ?_
      refine AllReadyH.cons rfl (fun K hK => ?_) AllReadyH.nil
      go_simp
      go_wp2_with (go_at_call 82; refine (HR4.out _ hHeld).mono ?_; rintro e WA ⟨rfl, MA⟩)
      refine hK.out _ _ (hHeld.trans MA) (fun hHeld => ?_)
      clear hK K
      have HZA := MA.heap HZA (by simp)
      refine wpAnyH_ready (rs := [4]) (by kernel_rfl) (by simp) ?_
      refine AllReadyH.cons rfl (fun K hK => ?_) AllReadyH.nil
      go_simp
      go_wp2_with (go_at_call 82; refine (HR5.out _ hHeld).mono ?_; rintro e WB ⟨rfl, MB⟩)
      refine hK.out _ _ (hHeld.trans MB) (fun hHeld => ?_)
      clear hK K
      have HZA := MB.heap HZA (by simp)
      refine takeD (i := 15) (d := 25) (v := ?_) rfl rfl (by kernel_rfl) (by kernel_rfl) (by kernel_rfl) (fun _ _ _ h => h) (Or.inl ⟨by rfl, ?_⟩) hHeld ?_
      rotate_left 1
      · (intro w hSw; (try dsimp only at hSw); go_simp; (try with_reducible rfl))
      simp only [List.setIfInBounds_toArray, List.set_cons_zero, List.set_cons_succ]
      refine wpAnyH_ready (rs := [17]) (by kernel_rfl) (by simp) ?_
      refine AllReadyH.cons rfl (fun K hK => ?_) AllReadyH.nil
      refine exec_store rfl rfl rfl HZA rfl rfl (by rfl) Try.sizeHd (by simp [Value.oneCell']) (fun W3 R3 M3 => ?_)
      have M30 := hHeld.comp M3 (fun k hk => by simp at hk; subst hk; exact .inr HGA)
      refine hK.out _ _ M30 (fun hHeld => ?_)
      clear hK K
      refine wpAnyH_done (by kernel_rfl) ?_ _
      go_wp2_with fail
      go_meet
      exact ⟨_, rfl, HH.out _ _ _ rfl R3, Nat.le_trans hz0 HGA, by have := lt_of_block B0.out; omega, M30⟩
  case rest =>
    obtain ⟨g4, rfl, hR4, hg4, hg40, hM4⟩ := hcut
    generalize wc = w4 at hR4 hM4 ⊢
    obtain ⟨idn, hid⟩ : ∃ x, x = (rawHd f 0).id := ⟨_, rfl⟩
    have he : rawHd f 0 = ⟨q, t, idn⟩ := by rw [HQT.out.1, HQT.out.2, hid]; rfl
    have hid16 : idn < 65536 := by rw [hid]; unfold rawHd le2; have := HN.out 8; have := HN.out 9; simp only [Nat.zero_add, Nat.reduceAdd]; omega
    have HE := Lib.hid he
    rw [he] at hR4
    have HR := Lib.hid hR4
    have HM := Lib.hid hM4
    have x10 := HXM.out w4 hM4 10 (by omega)
    have c0 := (cell_blk HR.out 0).trans (show _ = some (Value.int .i64 (q : Nat)) from rfl)
    have cn := ((cell_blk (hM4.heap (M0.out.heap HGL.out (by simp)) (by simp)) 2).trans HCN.out)
    have i10 : (10 : Int) < (A.length : Int) := by omega
    obtain ⟨n1, n2⟩ := hn
    have z0 : (0 : Int) ≤ (q : Int) := by omega
    have z1 : (q : Int) < 4294967296 := by omega
    have z2 : (2 : Int) ≤ (n : Int) := by omega
    have z3 : (n : Int) ≤ 16 := by omega
    have z4 : ¬ (n : Int) = 0 := by omega
    clear hR4 hM4 he hid b8 b9 i8 i9
    go_upto_region 2 with (fail)
    go_cut [9] (fun u wx => u = .bool (decide (f 10 = 0 ∧ 1 ≤ q ∧ q ≤ 2147483648 ∧ (q - 1) % n = j)) ∧ Mods [] w4 wx)
    case first =>
      by_cases a1 : f 10 = 0
      · have d1 : (((f 10 : Nat) : Int) == 0) = true := by simp [a1]
        by_cases a2 : 1 ≤ q
        · have d2 : decide ((q : Int) ≥ 1) = true := decide_eq_true (by omega)
          by_cases a3 : q ≤ 2147483648
          · have d3 : decide ((q : Int) ≤ 2147483648) = true := decide_eq_true (by omega)
            have hT : ((q : Int) - 1).tmod (n : Int) = (((q - 1) % n : Nat) : Int) := by rw [Int.tmod_eq_emod_of_nonneg (by omega), Int.natCast_emod]; congr 1; omega
            have HV := Lib.hid (show ((((q - 1 : Nat) : Int) % (n : Int)) == (j : Int)) = decide (f 10 = 0 ∧ 1 ≤ q ∧ q ≤ 2147483648 ∧ (q - 1) % n = j) by
              rw [← Int.natCast_emod, Bool.eq_iff_iff, beq_iff_eq, decide_eq_true_eq]
              exact ⟨fun h => ⟨a1, a2, a3, by omega⟩, fun h => by have := h.2.2.2; omega⟩)
            go_wp2_with fail
            go_quiet (fail)
            go_wp2_with fail
            go_meet
            exact ⟨by rw [← HV.out], Mods.refl.drewN _⟩
          · have d3 : decide ((q : Int) ≤ 2147483648) = false := decide_eq_false (by omega)
            have HV := Lib.hid (show decide (f 10 = 0 ∧ 1 ≤ q ∧ q ≤ 2147483648 ∧ (q - 1) % n = j) = false from decide_eq_false (fun h => a3 h.2.2.1))
            clear a3
            go_wp2_with fail
            go_quiet (fail)
            go_wp2_with fail
            go_meet
            exact ⟨by rw [HV.out], Mods.refl.drewN _⟩
        · have d2 : decide ((q : Int) ≥ 1) = false := decide_eq_false (by omega)
          have HV := Lib.hid (show decide (f 10 = 0 ∧ 1 ≤ q ∧ q ≤ 2147483648 ∧ (q - 1) % n = j) = false from decide_eq_false (fun h => a2 h.2.1))
          clear a2
          go_wp2_with fail
          go_quiet (fail)
          go_wp2_with fail
          go_meet
          exact ⟨by rw [HV.out], Mods.refl.drewN _⟩
      · have d1 : (((f 10 : Nat) : Int) == 0) = false := by simp [a1]
        have HV := Lib.hid (show decide (f 10 = 0 ∧ 1 ≤ q ∧ q ≤ 2147483648 ∧ (q - 1) % n = j) = false from decide_eq_false (fun h => a1 h.1))
        clear a1
        go_wp2_with fail
        go_quiet (fail)
        go_wp2_with fail
        go_meet
        exact ⟨by rw [HV.out], Mods.refl.drewN _⟩
    case rest =>
      obtain ⟨rfl, hM5⟩ := hcut
      generalize hb1 : decide (f 10 = 0 ∧ 1 ≤ q ∧ q ≤ 2147483648 ∧ (q - 1) % n = j) = b1
      have HB1 := Lib.hid hb1
      clear hb1 x10 c0 cn i10
      have HR5 := Lib.hid (hM5.heap HR.out (by simp))
      have HM5 := Lib.hid (HM.out.trans hM5)
      generalize wc = w5 at HR5 HM5 ⊢
      have c0 := (cell_blk HR5.out 0).trans (show _ = some (Value.int .i64 (q : Nat)) from rfl)
      have c1 := (cell_blk HR5.out 1).trans (show _ = some (Value.int .i64 (t : Nat)) from rfl)
      have cn := ((cell_blk (HM5.out.heap (M0.out.heap HGL.out (by simp)) (by simp)) 2).trans HCN.out)
      have y0 : (0 : Int) ≤ (t : Int) := by omega
      have y1 : (t : Int) < 4294967296 := by omega
      clear hM5
      go_upto_region 3 with (fail)
      go_cut [9] (fun u wx => u = .bool (b1 && decide (1 ≤ t ∧ t ≤ q ∧ q - t ≤ n - 2)) ∧ Mods [] w5 wx)
      case first =>
        cases b1 with
        | false =>
          have HV := Lib.hid (show (false && decide (1 ≤ t ∧ t ≤ q ∧ q - t ≤ n - 2)) = false from rfl)
          clear y0
          go_wp2_with fail
          go_quiet (fail)
          go_wp2_with fail
          go_meet
          exact ⟨by rw [HV.out], Mods.refl.drewN _⟩
        | true =>
          by_cases a1 : 1 ≤ t
          · have d1 : decide ((t : Int) ≥ 1) = true := decide_eq_true (by omega)
            by_cases a2 : t ≤ q
            · have d2 : decide ((t : Int) ≤ (q : Int)) = true := decide_eq_true (by omega)
              have HV := Lib.hid (show decide ((q : Int) - (t : Int) ≤ (n : Int) - 2) = (true && decide (1 ≤ t ∧ t ≤ q ∧ q - t ≤ n - 2)) by
                rw [Bool.true_and, Bool.eq_iff_iff, decide_eq_true_eq, decide_eq_true_eq]
                exact ⟨fun h => ⟨a1, a2, by omega⟩, fun h => by have := h.2.2; omega⟩)
              go_wp2_with fail
              go_quiet (fail)
              go_wp2_with fail
              go_meet
              exact ⟨by rw [← HV.out], Mods.refl.drewN _⟩
            · have d2 : decide ((t : Int) ≤ (q : Int)) = false := decide_eq_false (by omega)
              have HV := Lib.hid (show (true && decide (1 ≤ t ∧ t ≤ q ∧ q - t ≤ n - 2)) = false by rw [decide_eq_false (fun h => a2 h.2.1)]; rfl)
              have d2' : decide (t ≤ q) = false := decide_eq_false a2
              have a3 : ¬ (t : Int) ≤ (q : Int) := by omega
              have dum : True := trivial
              clear dum
              go_wp2_with fail
              go_quiet (fail)
              go_wp2_with fail
              go_meet
              exact ⟨by rw [HV.out], Mods.refl.drewN _⟩
          · have d1 : decide ((t : Int) ≥ 1) = false := decide_eq_false (by omega)
            have HV := Lib.hid (show (true && decide (1 ≤ t ∧ t ≤ q ∧ q - t ≤ n - 2)) = false by rw [decide_eq_false (fun h => a1 h.1)]; rfl)
            clear a1
            go_wp2_with fail
            go_quiet (fail)
            go_wp2_with fail
            go_meet
            exact ⟨by rw [HV.out], Mods.refl.drewN _⟩
      case rest =>
        obtain ⟨rfl, hM6⟩ := hcut
        have HB2 : Hid ((b1 && decide (1 ≤ t ∧ t ≤ q ∧ q - t ≤ n - 2)) = (b1 && decide (1 ≤ t ∧ t ≤ q ∧ q - t ≤ n - 2))) := Lib.hid rfl
        generalize hb2 : (b1 && decide (1 ≤ t ∧ t ≤ q ∧ q - t ≤ n - 2)) = b2
        have HB2 := Lib.hid hb2
        clear hb2 c0 c1 cn
        have HR6 := Lib.hid (hM6.heap HR5.out (by simp))
        have HM6 := Lib.hid (HM5.out.trans hM6)
        generalize wc = w6 at HR6 HM6 ⊢
        have c2 := (cell_blk HR6.out 2).trans (show _ = some (Value.int .u16 (idn : Nat)) from rfl)
        clear hM6
        have c0 := (cell_blk HR6.out 0).trans (show _ = some (Value.int .i64 (q : Nat)) from rfl)
        have c1 := (cell_blk HR6.out 1).trans (show _ = some (Value.int .i64 (t : Nat)) from rfl)
        have HB6 := Lib.hid (HM6.out.heap B0.out (by simp))
        have b0 := (cell_blk HB6.out 0).trans (show _ = some (Value.int .i64 0) from rfl)
        have b1' := (cell_blk HB6.out 1).trans (show _ = some (Value.int .i64 0) from rfl)
        have b2' := (cell_blk HB6.out 2).trans (show _ = some (Value.int .u16 0) from rfl)
        have ff := fun i => froz_blk HB6.out i
        have HVV := Lib.hid (show okB f n j (rawHd f 0) = (b2 && decide (1 ≤ idn ∧ idn ≤ 65534)) by
          rw [HE.out, ← HB2.out, ← HB1.out]
          unfold okB okHd
          rw [Bool.eq_iff_iff]
          simp only [decide_eq_true_eq, Bool.and_eq_true]
          exact ⟨fun ⟨a, b, c, d, e, g, h, i, k⟩ => ⟨⟨⟨a, b, c, d⟩, e, g, h⟩, i, k⟩, fun ⟨⟨⟨a, b, c, d⟩, e, g, h⟩, i, k⟩ => ⟨a, b, c, d, e, g, h, i, k⟩⟩)
        have u0 : (0 : Int) ≤ (idn : Int) := by omega
        have u1 : (idn : Int) < 65536 := by omega
        have hne : g0 ≠ g4 := fun h => hg40 h.symm
        have HRZ : Hid ((((w6.setCell ⟨g0, 0, none⟩ (.int .i64 (q : Nat))).setCell ⟨g0, 1, none⟩ (.int .i64 (t : Nat))).setCell ⟨g0, 2, none⟩ (.int .u16 (idn : Nat))).drew.heap[g0]? = some (.cells (hdCells ⟨q, t, idn⟩) 92 (0, 0))) := Lib.hid (heap_setCell (i := 2) (v := .int .u16 (idn : Nat)) (heap_setCell (i := 1) (v := .int .i64 (t : Nat)) (heap_setCell (i := 0) (v := .int .i64 (q : Nat)) HB6.out)))
        have HMZ : Hid (Mods [] w (((w6.setCell ⟨g0, 0, none⟩ (.int .i64 (q : Nat))).setCell ⟨g0, 1, none⟩ (.int .i64 (t : Nat))).setCell ⟨g0, 2, none⟩ (.int .u16 (idn : Nat))).drew) := Lib.hid (((((M0.out.trans HM6.out).setCell (p := ⟨g0, 0, none⟩) (.inr HG0.out) _).setCell (p := ⟨g0, 1, none⟩) (.inr HG0.out) _).setCell (p := ⟨g0, 2, none⟩) (.inr HG0.out) _).drew)
        cases b2 with
        | false =>
          have HVB := Lib.hid (show (false && decide (1 ≤ idn ∧ idn ≤ 65534)) = false from rfl)
          go_wp2_with fail
          go_region
          go_wp2_with fail
          refine bodyPost_ret (results_cell_row2 rfl _ _ g0 _ _ _ _ rfl HRZ.out Try.underlying92 rfl Try.sizeHd) rfl ?_
          refine ⟨?_, HMZ.out⟩
          rw [HVV.out, HE.out]
          first | rfl | (simp only [HVB.out]; rfl)
        | true =>
          by_cases a1 : 1 ≤ idn
          · have d1 : decide ((idn : Int) ≥ 1) = true := decide_eq_true (by omega)
            by_cases a2 : idn ≤ 65534
            · have d2 : decide ((idn : Int) ≤ 65534) = true := decide_eq_true (by omega)
              have HVB := Lib.hid (show (true && decide (1 ≤ idn ∧ idn ≤ 65534)) = true by rw [decide_eq_true (⟨a1, a2⟩ : 1 ≤ idn ∧ idn ≤ 65534)]; rfl)
              go_wp2_with fail
              go_region
              go_wp2_with fail
              refine bodyPost_ret (results_cell_row2 rfl _ _ g0 _ _ _ _ rfl HRZ.out Try.underlying92 rfl Try.sizeHd) rfl ?_
              refine ⟨?_, HMZ.out⟩
              rw [HVV.out, HE.out]
              first | rfl | (simp only [HVB.out]; rfl)
            · have d2 : decide ((idn : Int) ≤ 65534) = false := decide_eq_false (by omega)
              have HVB := Lib.hid (show (true && decide (1 ≤ idn ∧ idn ≤ 65534)) = false by rw [decide_eq_false (fun h => a2 h.2)]; rfl)
              go_wp2_with fail
              go_region
              go_wp2_with fail
              refine bodyPost_ret (results_cell_row2 rfl _ _ g0 _ _ _ _ rfl HRZ.out Try.underlying92 rfl Try.sizeHd) rfl ?_
              refine ⟨?_, HMZ.out⟩
              rw [HVV.out, HE.out]
              first | rfl | (simp only [HVB.out]; rfl)
          · have d1 : decide ((idn : Int) ≥ 1) = false := decide_eq_false (by omega)
            have HVB := Lib.hid (show (true && decide (1 ≤ idn ∧ idn ≤ 65534)) = false by rw [decide_eq_false (fun h => a1 h.1)]; rfl)
            go_wp2_with fail
            go_region
            go_wp2_with fail
            refine bodyPost_ret (results_cell_row2 rfl _ _ g0 _ _ _ _ rfl HRZ.out Try.underlying92 rfl Try.sizeHd) rfl ?_
            refine ⟨?_, HMZ.out⟩
            rw [HVV.out, HE.out]
            first | rfl | (simp only [HVB.out]; rfl)
end Go.Proofs.Ytkdadnlleepkfaa
