/- sensor.rest of a discrete sensor: contract. -/
import Derived.Test.YtijjkonephjodaaSenDec0
import Derived.Test.YtijjkonephjodaaEnA
import Derived.Test.YtijjkonephjodaaRrg
import Derived.Test.YtijjkonephjodaaKinds
namespace Go.Proofs.Ytijjkonephjodaa
open Go.RowKit

/-- What rest gives. -/
def RestRes (w : World) (S : Sen) (B : List Int) (e : Ending) (w' : World) : Prop :=
  if restErr S.disc B = 0 then ∃ pv, e = .returned (.tuple #[.agg (restS S B pv).cells, .int .i64 0]) ∧ OwnPts w' w.heap.size pv (restP S.disc B) ∧ Mods [] w w'
  else (∃ S' : Sen, S'.conv.pts.oneCell' = true ∧ e = .returned (.tuple #[.agg S'.cells, .int .i64 (restErr S.disc B)])) ∧ Mods [] w w'
set_option maxRecDepth 100000 in
set_option maxHeartbeats 4000000 in
theorem rest_dcut (w : World) (S : Sen) (v : Value) (B : List Int) (hv : Rd w v (u8s B)) (hb : Bytes B) (hp : S.conv.pts.oneCell' = true) (hd : S.disc = true) (hl : B.length ≠ 6) :
    Calls Try.prog 58 #[.agg S.cells, v] w fun e w' => RestRes w S B e w' := by
  have HV := Lib.hid hv
  have HB := Lib.hid hb
  have HE := Lib.hid (show ∀ (S' : Sen) W, restErr S.disc B ≠ 0 → S'.conv.pts.oneCell' = true → Mods [] w W → RestRes w S B (.returned (.tuple #[.agg S'.cells, .int .i64 (restErr S.disc B)])) W from fun S' W h h1 M => by unfold RestRes; rw [if_neg h]; exact ⟨⟨S', h1, rfl⟩, M⟩)
  have HRE := Lib.hid (show restErr S.disc B = if S.disc then (if B.length < 6 then 4 else if 6 < B.length then 6 else 0)
    else if errC B ≠ 0 then errC B else if (B.drop (lenC B).1.toNat).length < 13 then 4 else if 13 < (B.drop (lenC B).1.toNat).length then 6 else 0 from rfl)
  obtain ⟨ad, cap, rfl, h1, h2, -⟩ := hv.u8
  have h3 : cap ≤ 9223372036854775807 := h2
  clear hv hb h2
  obtain ⟨_, _, _, _, _, _, x6⟩ := S.headc
  have R0 := Lib.hid (heap_alloc (o' := .cells zS.cells 32) (heap_alloc_new w (.cells S.cells 32)))
  have R1 := heap_alloc_new (w.alloc (.cells S.cells 32)) (.cells zS.cells 32)
  rw [World.size_alloc] at R1
  replace R1 := Lib.hid R1
  have M0 := Lib.hid (((Mods.refl (S := []) (w := w)).alloc (.cells S.cells 32)).alloc (.cells zS.cells 32))
  rw [hd] at x6 HRE
  by_cases h6 : B.length < 6
  · have HR := Lib.hid (show restErr S.disc B = 4 by rw [hd, HRE.out, if_pos rfl, if_pos h6])
    have d1 : decide ((B.length : Int) < 6) = true := decide_eq_true (by omega)
    clear hl h6 hd
    go_enter Try.func58, Try.ntmps58
    go_wp2_with (first
      | (refine wpList_load_sen rfl (.tmp 2) rfl (SenBox.mk R0.out) (by rfl) ?_)
      | (refine wpList_store_row (cs := S.cells) rfl 32 (.tmp 4) (.tmp 33) rfl R1.out (by rfl) (by rfl) rfl (Sen.infoS _) (Sen.one _ hp) ?_; intro w9 R9 M9))
    have HMX := M0.out.comp M9 (fun k hk => by simp at hk; exact .inr (by omega))
    refine bodyPost_ret (results_cell_row2 rfl _ _ (w.heap.size + 1) _ _ _ _ rfl R9 Try.underlying32 rfl (Sen.infoS _)) rfl ?_
    have := HE.out _ _ (by rw [HR.out]; decide) hp HMX
    rw [HR.out] at this
    exact this
  · have HR := Lib.hid (show restErr S.disc B = 6 by rw [hd, HRE.out, if_pos rfl, if_neg h6, if_pos (by omega)])
    have d1 : decide ((B.length : Int) < 6) = false := decide_eq_false (by omega)
    have d2 : decide ((B.length : Int) > 6) = true := decide_eq_true (by omega)
    clear hl h6 hd
    go_enter Try.func58, Try.ntmps58
    go_wp2_with (first
      | (refine wpList_load_sen rfl (.tmp 2) rfl (SenBox.mk R0.out) (by rfl) ?_)
      | (refine wpList_store_row (cs := S.cells) rfl 32 (.tmp 4) (.tmp 39) rfl R1.out (by rfl) (by rfl) rfl (Sen.infoS _) (Sen.one _ hp) ?_; intro w9 R9 M9))
    have HMX := M0.out.comp M9 (fun k hk => by simp at hk; exact .inr (by omega))
    refine bodyPost_ret (results_cell_row2 rfl _ _ (w.heap.size + 1) _ _ _ _ rfl R9 Try.underlying32 rfl (Sen.infoS _)) rfl ?_
    have := HE.out _ _ (by rw [HR.out]; decide) hp HMX
    rw [HR.out] at this
    exact this
set_option maxRecDepth 100000 in
set_option maxHeartbeats 4000000 in
theorem rest_disc (w : World) (S : Sen) (v : Value) (B : List Int) (hv : Rd w v (u8s B)) (hb : Bytes B) (hp : S.conv.pts.oneCell' = true) (hd : S.disc = true) (hl : B.length = 6) :
    Calls Try.prog 58 #[.agg S.cells, v] w fun e w' => RestRes w S B e w' := by
  have HV := Lib.hid hv
  have HB := Lib.hid hb
  have HE := Lib.hid (show ∀ (S' : Sen) W, restErr S.disc B ≠ 0 → S'.conv.pts.oneCell' = true → Mods [] w W → RestRes w S B (.returned (.tuple #[.agg S'.cells, .int .i64 (restErr S.disc B)])) W from fun S' W h h1 M => by unfold RestRes; rw [if_neg h]; exact ⟨⟨S', h1, rfl⟩, M⟩)
  have HRE := Lib.hid (show restErr S.disc B = if S.disc then (if B.length < 6 then 4 else if 6 < B.length then 6 else 0)
    else if errC B ≠ 0 then errC B else if (B.drop (lenC B).1.toNat).length < 13 then 4 else if 13 < (B.drop (lenC B).1.toNat).length then 6 else 0 from rfl)
  obtain ⟨ad, cap, rfl, h1, h2, -⟩ := hv.u8
  have h3 : cap ≤ 9223372036854775807 := h2
  clear hv hb h2
  obtain ⟨_, _, _, _, _, _, x6⟩ := S.headc
  have R0 := Lib.hid (heap_alloc (o' := .cells zS.cells 32) (heap_alloc_new w (.cells S.cells 32)))
  have R1 := heap_alloc_new (w.alloc (.cells S.cells 32)) (.cells zS.cells 32)
  rw [World.size_alloc] at R1
  replace R1 := Lib.hid R1
  have M0 := Lib.hid (((Mods.refl (S := []) (w := w)).alloc (.cells S.cells 32)).alloc (.cells zS.cells 32))
  rw [hd] at x6 HRE
  have HR := Lib.hid (show restErr S.disc B = 0 by rw [hd, HRE.out, if_pos rfl, if_neg (by omega), if_neg (by omega)])
  have HRS := Lib.hid (show ∀ pv, restS S B pv = { S with states := w16 B 0, asrt := w16 B 2, deas := w16 B 4 } from fun _ => by unfold restS; rw [if_pos hd])
  have HRP := Lib.hid (show restP S.disc B = [] by unfold restP; rw [if_pos hd])
  obtain ⟨bb, off, rfl⟩ : ∃ bb off, ad = some ⟨bb, off, none⟩ := by
    obtain ⟨_, _, he, _, _, hc⟩ := HV.out.u8
    obtain ⟨b, o, h, _⟩ := hc 0 (by omega)
    injection he with he1
    exact ⟨b, o, he1.trans h⟩
  have k2 : ¬ cap = 2 := by omega
  have k4 : ¬ cap = 4 := by omega
  have HW : Hid (∀ W i, Mods [] w W → i + 2 ≤ 6 → Calls Try.prog 91 #[.slice (some ⟨bb, off + i, none⟩) (6 - i) (cap - i)] W fun e w' => e = .returned (.int .u16 (w16 B i : Nat)) ∧ ∃ n, w' = W.drewN n) := Lib.hid (fun W i M hi => by
    have := (HV.out.mods0 M).sub i 6 (by omega) (by omega)
    have h := word_ok W _ _ this ((HB.out.drop i).take _) (by simp; omega)
    have e : w16 ((B.drop i).take (6 - i)) 0 = w16 B i := by
      unfold w16
      simp [List.getD_eq_getElem?_getD, show 0 < 6 - i by omega, show 1 < 6 - i by omega]
    rwa [e] at h)
  have i6 : (B.length : Int) = 6 := by omega
  have e6 : B.length = 6 := hl
  rw [e6] at HV
  clear hl hd HRE
  go_enter Try.func58, Try.ntmps58
  rw [e6]
  go_wp2_with fail
  refine (HW.out _ 0 M0.out (by omega)).mono ?_
  rintro e w2 ⟨rfl, n2, hw2⟩
  have HM2 : Hid (Mods [] w w2) := Lib.hid (by rw [hw2]; exact M0.out.drewN _)
  have HG2 : Hid (w2.heap[w.heap.size]? = some (.cells S.cells 32 (0, 0))) := Lib.hid (by rw [hw2]; exact R0.out)
  have HR2 : Hid (w2.heap[w.heap.size + 1]? = some (.cells zS.cells 32 (0, 0))) := Lib.hid (by rw [hw2]; exact R1.out)
  clear hw2 R0 R1 M0
  obtain ⟨_, _, x23, x24, x25, _, _⟩ := S.restc
  have cx : w2.cell? ⟨w.heap.size, 23, none⟩ = some (.int .u16 S.states) := (cell_blk HG2.out 23).trans rfl
  have fx : w2.frozen? ⟨w.heap.size, 23, none⟩ = false := froz_blk HG2.out 23
  have HM3 := Lib.hid (HM2.out.setCell (p := ⟨w.heap.size, 23, none⟩) (.inr (Nat.le_refl _)) (.int .u16 (w16 B 0 : Nat)))
  have HG3 : Hid ((w2.setCell ⟨w.heap.size, 23, none⟩ (.int .u16 (w16 B 0 : Nat))).heap[w.heap.size]? = some (.cells { S with states := w16 B 0 }.cells 32 (0, 0))) := Lib.hid (heap_setCell (i := 23) (v := .int .u16 (w16 B 0 : Nat)) HG2.out)
  have HR3 := Lib.hid (heap_setCell_ne (a := ⟨w.heap.size, 23, none⟩) (v := .int .u16 (w16 B 0 : Nat)) HR2.out (by simp))
  clear HM2 HG2 HR2 x23
  go_wp2_with fail
  clear cx fx
  have hq2 : IntKind.i64.wrap 2 = 2 := by decide
  have hq4 : IntKind.i64.wrap 4 = 4 := by decide
  obtain ⟨S2, hS2⟩ : ∃ S2 : Sen, S2 = { S with states := w16 B 0 } := ⟨_, rfl⟩
  rw [← hS2] at HG3
  have HS2 := Lib.hid hS2
  clear hS2
  generalize w2.setCell ⟨w.heap.size, 23, none⟩ (.int .u16 (w16 B 0 : Nat)) = w3 at HM3 HG3 HR3 ⊢
  try dsimp only [Act.put]
  refine heldStart (S := fun W => Mods [] w W) 14 rfl (by kernel_rfl) HM3.out.drew (fun hHeld => ?_)
  refine takeD (i := 0) (d := 62) (v := ?_) rfl rfl (by kernel_rfl) (by kernel_rfl) (by kernel_rfl) (fun _ _ _ h => h) (Or.inl ⟨by rfl, ?_⟩) hHeld ?_
  rotate_left 1
  · (intro w hSw; (try dsimp only at hSw); go_simp; (try with_reducible rfl))
  simp only [List.setIfInBounds_toArray, List.set_cons_zero, List.set_cons_succ]
  refine takeD (i := 1) (d := 63) (v := ?_) rfl rfl (by kernel_rfl) (by kernel_rfl) (by kernel_rfl) (fun _ _ _ h => h) (Or.inl ⟨by rfl, ?_⟩) hHeld ?_
  rotate_left 1
  · (intro w hSw; (try dsimp only at hSw); go_simp; (try with_reducible rfl))
  simp only [List.setIfInBounds_toArray, List.set_cons_zero, List.set_cons_succ]
  refine takeD (i := 2) (d := 64) (v := ?_) rfl rfl (by kernel_rfl) (by kernel_rfl) (by kernel_rfl) (fun _ _ _ h => h) (Or.inl ⟨by rfl, ?_⟩) hHeld ?_
  rotate_left 1
  · (intro w hSw; (try dsimp only at hSw); go_simp; (try with_reducible rfl))
  simp only [List.setIfInBounds_toArray, List.set_cons_zero, List.set_cons_succ]
  refine takeD (i := 3) (d := 65) (v := ?_) rfl rfl (by kernel_rfl) (by kernel_rfl) (by kernel_rfl) (fun _ _ _ h => h) (Or.inl ⟨by rfl, ?_⟩) hHeld ?_
  rotate_left 1
  · (intro w hSw; (try dsimp only at hSw); go_simp; (try with_reducible rfl))
  simp only [List.setIfInBounds_toArray, List.set_cons_zero, List.set_cons_succ]
  refine takeD (i := 5) (d := 67) (v := ?_) rfl rfl (by kernel_rfl) (by kernel_rfl) (by kernel_rfl) (fun _ _ _ h => h) (Or.inl ⟨by rfl, ?_⟩) hHeld ?_
  rotate_left 1
  · (intro w hSw; (try dsimp only at hSw); go_simp; (try with_reducible rfl))
  simp only [List.setIfInBounds_toArray, List.set_cons_zero, List.set_cons_succ]
  refine takeD (i := 6) (d := 68) (v := ?_) rfl rfl (by kernel_rfl) (by kernel_rfl) (by kernel_rfl) (fun _ _ _ h => h) (Or.inl ⟨by rfl, ?_⟩) hHeld ?_
  rotate_left 1
  · (intro w hSw; (try dsimp only at hSw); go_simp; (try with_reducible rfl))
  simp only [List.setIfInBounds_toArray, List.set_cons_zero, List.set_cons_succ]
  refine takeD (i := 7) (d := 69) (v := ?_) rfl rfl (by kernel_rfl) (by kernel_rfl) (by kernel_rfl) (fun _ _ _ h => h) (Or.inl ⟨by rfl, ?_⟩) hHeld ?_
  rotate_left 1
  · (intro w hSw; (try dsimp only at hSw); go_simp; (try with_reducible rfl))
  simp only [List.setIfInBounds_toArray, List.set_cons_zero, List.set_cons_succ]
  refine takeD (i := 8) (d := 70) (v := ?_) rfl rfl (by kernel_rfl) (by kernel_rfl) (by kernel_rfl) (fun _ _ _ h => h) (Or.inl ⟨by rfl, ?_⟩) hHeld ?_
  rotate_left 1
  · (intro w hSw; (try dsimp only at hSw); go_simp; (try with_reducible rfl))
  simp only [List.setIfInBounds_toArray, List.set_cons_zero, List.set_cons_succ]
  refine wpAnyH_ready (rs := [4]) (by kernel_rfl) (by simp) ?_
  refine AllReadyH.cons rfl (fun K hK => ?_) AllReadyH.nil
  go_simp
  go_wp2_with (go_at_call 91; refine (HW.out _ 2 hHeld (by omega)).mono ?_; rintro e w4 ⟨rfl, n4, rfl⟩)
  refine hK.out _ _ ?_ (fun hHeld => ?_)
  · exact HM3.out.drewN _
  clear hK K
  refine takeD (i := 10) (d := 72) (v := ?_) rfl rfl (by kernel_rfl) (by kernel_rfl) (by kernel_rfl) (fun _ _ _ h => h) (Or.inl ⟨by rfl, ?_⟩) hHeld ?_
  rotate_left 1
  · (intro w hSw; (try dsimp only at hSw); go_simp; (try with_reducible rfl))
  simp only [List.setIfInBounds_toArray, List.set_cons_zero, List.set_cons_succ]
  refine wpAnyH_ready (rs := [9]) (by kernel_rfl) (by simp) ?_
  refine AllReadyH.cons rfl (fun K hK => ?_) AllReadyH.nil
  go_simp
  go_wp2_with (go_at_call 91; refine (HW.out _ 4 hHeld (by omega)).mono ?_; rintro e w5 ⟨rfl, n5, rfl⟩)
  refine hK.out _ _ ?_ (fun hHeld => ?_)
  · exact HM3.out.drewN _
  clear hK K
  have G5 : (w3.drewN (1 + n4 + n5)).heap[w.heap.size]? = _ := HG3.out
  have R5 : (w3.drewN (1 + n4 + n5)).heap[w.heap.size + 1]? = _ := HR3.out
  clear HG3 HR3 HM3
  generalize w3.drewN (1 + n4 + n5) = w5 at hHeld G5 R5 ⊢
  have HS : Hid (S2.asrt = S.asrt ∧ S2.deas = S.deas) := Lib.hid (by rw [HS2.out]; exact ⟨rfl, rfl⟩)
  have cx : w5.cell? ⟨w.heap.size, 24, none⟩ = some (.int .u16 (S2.asrt : Nat)) := (cell_blk G5 24).trans rfl
  have fx : w5.frozen? ⟨w.heap.size, 24, none⟩ = false := froz_blk G5 24
  refine wpAnyH_ready (rs := [11]) (by kernel_rfl) (by simp) ?_
  refine AllReadyH.cons rfl (fun K hK => ?_) AllReadyH.nil
  go_simp
  refine hK.out _ _ ?_ (fun hHeld => ?_)
  · exact hHeld.setCell (.inr (Nat.le_refl _)) _
  clear hK K
  have G6 := heap_setCell (i := 24) (v := .int .u16 (w16 B 2 : Nat)) G5
  have R6 := heap_setCell_ne (a := ⟨w.heap.size, 24, none⟩) (v := .int .u16 (w16 B 2 : Nat)) R5 (by simp)
  clear cx fx G5 R5
  generalize w5.setCell ⟨w.heap.size, 24, none⟩ (.int .u16 (w16 B 2 : Nat)) = w6 at G6 R6 hHeld ⊢
  have cx : w6.cell? ⟨w.heap.size, 25, none⟩ = some (.int .u16 (S2.deas : Nat)) := (cell_blk G6 25).trans rfl
  have fx : w6.frozen? ⟨w.heap.size, 25, none⟩ = false := froz_blk G6 25
  refine takeD (i := 12) (d := 73) (v := ?_) rfl rfl (by kernel_rfl) (by kernel_rfl) (by kernel_rfl) (fun _ _ _ h => h) (Or.inl ⟨by rfl, ?_⟩) hHeld ?_
  rotate_left 1
  · (intro w hSw; (try dsimp only at hSw); go_simp; (try with_reducible rfl))
  simp only [List.setIfInBounds_toArray, List.set_cons_zero, List.set_cons_succ]
  refine wpAnyH_ready (rs := [13]) (by kernel_rfl) (by simp) ?_
  refine AllReadyH.cons rfl (fun K hK => ?_) AllReadyH.nil
  go_simp
  refine hK.out _ _ ?_ (fun hHeld => ?_)
  · exact hHeld.setCell (.inr (Nat.le_refl _)) _
  clear hK K
  have G7 := heap_setCell (i := 25) (v := .int .u16 (w16 B 4 : Nat)) G6
  have R7 := heap_setCell_ne (a := ⟨w.heap.size, 25, none⟩) (v := .int .u16 (w16 B 4 : Nat)) R6 (by simp)
  clear cx fx G6 R6
  generalize w6.setCell ⟨w.heap.size, 25, none⟩ (.int .u16 (w16 B 4 : Nat)) = w7 at G7 R7 hHeld ⊢
  refine wpAnyH_done (by kernel_rfl) ?_ _
  have HM7 := Lib.hid hHeld
  obtain ⟨S4, hS4⟩ : ∃ S4 : Sen, S4 = { S with states := w16 B 0, asrt := w16 B 2, deas := w16 B 4 } := ⟨_, rfl⟩
  have HG7 : Hid (w7.heap[w.heap.size]? = some (.cells S4.cells 32 (0, 0))) := Lib.hid (by rw [G7, hS4, HS2.out]; rfl)
  have HR7 := Lib.hid R7
  have hp4 : S4.conv.pts.oneCell' = true := by rw [hS4]; exact hp
  have HS4 := Lib.hid hS4
  clear hHeld G7 R7 hS4
  go_wp2_with (first
    | (refine wpList_load_sen rfl (.tmp 2) rfl (SenBox.mk HG7.out) (by rfl) ?_)
    | (refine wpList_store_row (cs := S4.cells) rfl 32 (.tmp 4) (.tmp 74) rfl HR7.out (by rfl) (by rfl) rfl (Sen.infoS _) (Sen.one _ hp4) ?_; intro w9 R9 M9))
  have HM9 := HM7.out.comp M9 (fun k hk => by simp at hk; exact .inr (by omega))
  refine bodyPost_ret (results_cell_row2 rfl _ _ (w.heap.size + 1) _ _ _ _ rfl R9 Try.underlying32 rfl (Sen.infoS _)) rfl ?_
  show RestRes w S B _ w9
  unfold RestRes
  rw [if_pos HR.out, HRP.out]
  exact ⟨.slice none 0 0, by rw [HRS.out, ← HS4.out]; rfl, OwnPts.nil _ _, HM9⟩
end Go.Proofs.Ytijjkonephjodaa
