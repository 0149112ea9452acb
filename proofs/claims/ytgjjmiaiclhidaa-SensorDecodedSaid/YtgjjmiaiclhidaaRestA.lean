/- sensor.rest of an analog sensor: contract. -/
import Derived.Test.YtgjjmiaiclhidaaRestD
import Derived.Test.YtgjjmiaiclhidaaBytesP
import Derived.Test.YtgjjmiaiclhidaaMadeSen
import Derived.Laws.Cover3
namespace Go.Proofs.Ytgjjmiaiclhidaa
open Go.RowKit

/-- A part of a block stored, in a drawn region. -/
theorem exec_store_part {P : Program} {ops : Array Oper} {o : Oper} {a : Act} {w : World} {K : Act → World → Prop} {Q : Exit → Act → World → Prop} {E : Prop} (hgd : o.guard = none) (hd : o.dst = none) {ty : TypeId} {x y : Operand} (ho : o.op = .store ty x y)
    {g : Nat} {c0 cs : Array Value} {T : TypeId} (hg : w.heap[g]? = some (.cells c0 T (0, 0))) (off : Nat) (hx : a.eval x = .pointer (some ⟨g, off, none⟩)) (hy : a.eval y = .agg cs) (hs : off + cs.size ≤ c0.size)
    (hi : (P.info? ty).map (·.size) = some cs.size) (h1 : cs.all (·.oneCell') = true) (h : ∀ W, W.heap[g]? = some (.cells (setAll c0 off cs.toList) T (0, 0)) → Mods [g] w W → K a W) : if Region.wanted o (yielded ops a.tmps) = true then Oper.wp P o a w K Q else E := by
  rw [if_pos (by simp [Region.wanted, hgd])]
  have e : a.put o.dst undef = a := by rw [hd]; rfl
  refine wp_store_mid ty x y ho g off cs hx hy ?_ hi h1 (by rw [e]; exact h _ (heap_setCells _ _ _ _ hg) (Mods.setCells _ _ _))
  intro j hj
  refine ⟨?_, froz_blk hg _⟩
  rw [cell_blk hg, Array.getElem?_eq_getElem (by omega)]
  rfl
theorem restErr_ana {B : List Int} : restErr false B = if errC B ≠ 0 then errC B else if (B.drop (lenC B).1.toNat).length < 13 then 4 else if 13 < (B.drop (lenC B).1.toNat).length then 6 else 0 := rfl
set_option maxRecDepth 100000 in
set_option maxHeartbeats 4000000 in
theorem rest_aerr (w : World) (S : Sen) (v : Value) (B : List Int) (hv : Rd w v (u8s B)) (hb : Bytes B) (hp : S.conv.pts.oneCell' = true) (hd : S.disc = false) (hl : errC B ≠ 0) :
    Calls Try.prog 83 #[.agg S.cells, v] w fun e w' => RestRes w S B e w' := by
  have HDC := Lib.hid (fun W (M : Mods [] w W) => convDec_ok W v B (hv.mods0 M) hb)
  have HV := Lib.hid hv
  have HB := Lib.hid hb
  have HE := Lib.hid (show ∀ (S' : Sen) W, restErr S.disc B ≠ 0 → S'.conv.pts.oneCell' = true → Mods [] w W → RestRes w S B (.returned (.tuple #[.agg S'.cells, .int .i64 (restErr S.disc B)])) W from fun S' W h h1 M => by unfold RestRes; rw [if_neg h]; exact ⟨⟨S', h1, rfl⟩, M⟩)
  have HRE := Lib.hid (show restErr S.disc B = if S.disc then (if B.length < 6 then 4 else if 6 < B.length then 6 else 0)
    else if errC B ≠ 0 then errC B else if (B.drop (lenC B).1.toNat).length < 13 then 4 else if 13 < (B.drop (lenC B).1.toNat).length then 6 else 0 from rfl)
  obtain ⟨ad, cap, rfl, h1, h2, -⟩ := hv.u8
  have h3 : cap ≤ 9223372036854775807 := h2
  clear hv hb h2
  obtain ⟨_, _, _, _, _, _, x6⟩ := S.headc
  have R0 := Lib.hid (heap_alloc (o' := .cells zS.cells 32) (heap_alloc_new w (.cells S.cells 32)))
  have R1 := heap_alloc_new (w.alloc (.cells S.cells 32)) (.cells zS.cells 32)
  rw [World.size_alloc] at R1
  replace R1 := Lib.hid R1
  have M0 := Lib.hid (((Mods.refl (S := []) (w := w)).alloc (.cells S.cells 32)).alloc (.cells zS.cells 32))
  rw [hd] at x6 HRE
  have HR := Lib.hid (show restErr S.disc B = errC B by rw [hd, restErr_ana, if_pos hl])
  have HL := Lib.hid hl
  have hne : (errC B != 0) = true := by simpa using hl
  clear hl hd
  go_enter Try.func83, Try.ntmps83
  go_wp2_with fail
  refine (HDC.out _ M0.out).mono ?_
  rintro e w5 h5
  unfold DecRes at h5
  rw [if_neg HL.out] at h5
  obtain ⟨rfl, M5⟩ := h5
  have HM5 := Lib.hid (M0.out.trans M5)
  have HG5 := Lib.hid (M5.heap R0.out (by simp))
  have HR5 := Lib.hid (M5.heap R1.out (by simp))
  clear M5
  generalize errC B = ec at *
  go_wp2_with (first
    | (refine wpList_load_sen rfl (.tmp 2) rfl (SenBox.mk HG6.out) (by rfl) ?_)
    | (refine wpList_store_row (cs := zK.cells) rfl 26 (.tmp 7) (.tmp 16) rfl (heap_alloc_new w5 _) (by rfl) (by rfl) (by rfl) (Conv.infoCC zK) zK_one ?_; intro w6 R6 M6; have HF6 := Lib.hid (fresh M6); have HM6 := Lib.hid (HM5.out.trans HF6.out); have HG6 := Lib.hid (HF6.out.heap HG5.out (by simp)); have HR6 := Lib.hid (HF6.out.heap HR5.out (by simp)); clear R6 M6)
    | (refine wpList_store_row (cs := S.cells) rfl 32 (.tmp 4) (.tmp 21) rfl HR6.out (by rfl) (by rfl) rfl (Sen.infoS _) (Sen.one _ hp) ?_; intro w9 R9 M9))
  have HMX := HM6.out.comp M9 (fun k hk => by simp at hk; exact .inr (by omega))
  refine bodyPost_ret (results_cell_row2 rfl _ _ (w.heap.size + 1) _ _ _ _ rfl R9 Try.underlying32 rfl (Sen.infoS _)) rfl ?_
  have := HE.out S w9 (by rw [HR.out]; exact HL.out) hp HMX
  rw [HR.out] at this
  exact this
set_option maxRecDepth 100000 in
set_option maxHeartbeats 4000000 in
theorem rest_acut (w : World) (S : Sen) (v : Value) (B : List Int) (hv : Rd w v (u8s B)) (hb : Bytes B) (hd : S.disc = false) (hl : errC B = 0) (hc : (B.drop (lenC B).1.toNat).length ≠ 13) :
    Calls Try.prog 83 #[.agg S.cells, v] w fun e w' => RestRes w S B e w' := by
  have HDC := Lib.hid (fun W (M : Mods [] w W) => convDec_ok W v B (hv.mods0 M) hb)
  obtain ⟨hz1, hz2, hz3⟩ := errC_zero hl
  obtain ⟨hB0, -, hcase⟩ := lenC_facts hz1
  obtain ⟨nn, hnn⟩ : ∃ nn : Nat, (lenC B).1 = (nn : Int) := ⟨(lenC B).1.toNat, by have := hb 1; omega⟩
  have HV := Lib.hid hv
  have HB := Lib.hid hb
  have HE := Lib.hid (show ∀ (S' : Sen) W, restErr S.disc B ≠ 0 → S'.conv.pts.oneCell' = true → Mods [] w W → RestRes w S B (.returned (.tuple #[.agg S'.cells, .int .i64 (restErr S.disc B)])) W from fun S' W h h1 M => by unfold RestRes; rw [if_neg h]; exact ⟨⟨S', h1, rfl⟩, M⟩)
  have HRE := Lib.hid (show restErr S.disc B = if S.disc then (if B.length < 6 then 4 else if 6 < B.length then 6 else 0)
    else if errC B ≠ 0 then errC B else if (B.drop (lenC B).1.toNat).length < 13 then 4 else if 13 < (B.drop (lenC B).1.toNat).length then 6 else 0 from rfl)
  obtain ⟨ad, cap, rfl, h1, h2, -⟩ := hv.u8
  have h3 : cap ≤ 9223372036854775807 := h2
  clear hv hb h2
  obtain ⟨_, _, _, _, _, _, x6⟩ := S.headc
  have R0 := Lib.hid (heap_alloc (o' := .cells zS.cells 32) (heap_alloc_new w (.cells S.cells 32)))
  have R1 := heap_alloc_new (w.alloc (.cells S.cells 32)) (.cells zS.cells 32)
  rw [World.size_alloc] at R1
  replace R1 := Lib.hid R1
  have M0 := Lib.hid (((Mods.refl (S := []) (w := w)).alloc (.cells S.cells 32)).alloc (.cells zS.cells 32))
  rw [hd] at x6 HRE
  have HRT := Lib.hid (show restErr S.disc B = if (B.drop nn).length < 13 then 4 else if 13 < (B.drop nn).length then 6 else 0 by rw [hd, restErr_ana, if_neg (fun h => h hl), hnn, Int.toNat_natCast])
  have HRS := Lib.hid (show ∀ pv, restS S B pv = ana13 S (decC B pv) (B.drop nn) from fun pv => by unfold restS; rw [if_neg (by rw [hd]; decide), hnn, Int.toNat_natCast])
  have HRP := Lib.hid (show restP S.disc B = decP B by unfold restP; rw [if_neg (by rw [hd]; decide)])
  rw [hnn] at hz2
  have hnB : nn ≤ B.length := by omega
  have hB1 : 0 < B.length := List.length_pos_iff.2 hB0
  obtain ⟨bb, off, rfl, HCB⟩ : ∃ bb off, ad = some ⟨bb, off, none⟩ ∧ Hid (∀ W, Mods [] w W → ∀ i, i < B.length → W.cell? ⟨bb, off + i, none⟩ = some (.int .u8 (B.getD i 0))) := by
    obtain ⟨_, _, he, _, _, hc⟩ := HV.out.u8
    injection he with he1 _ _
    obtain ⟨b, o, h, _⟩ := hc 0 hB1
    refine ⟨b, o, he1.trans h, Lib.hid fun W M i hi => ?_⟩
    obtain ⟨b', o', h', hx⟩ := hc i hi
    rw [h] at h'
    cases h'
    exact M.cell hx (by simp)
  have HZ := Lib.hid hl
  have HNN := Lib.hid hnn
  have n0 : (0 : Int) ≤ (nn : Int) := by omega
  have n1 : (nn : Int) ≤ (B.length : Int) := by omega
  have n2 : (nn : Int) ≤ (cap : Int) := by omega
  have eR : (B.drop nn).length = B.length - nn := List.length_drop
  rw [eR] at HRT
  clear hl hz1 hz2 hz3 hcase hnn hB0 hd HRE
  rw [HNN.out, Int.toNat_natCast, eR] at hc
  by_cases h13 : B.length - nn < 13
  · have HR := Lib.hid (show restErr S.disc B = 4 by rw [HRT.out, if_pos h13])
    have d1 : decide (((B.length - nn : Nat) : Int) < 13) = true := decide_eq_true (by omega)
    have d1' : decide ((B.length : Int) - (nn : Int) < 13) = true := decide_eq_true (by omega)
    by_cases hcap : cap = nn
    · subst hcap
      go_enter Try.func83, Try.ntmps83
      go_wp2_with fail
      refine (HDC.out _ M0.out).mono ?_
      rintro e w5 h5
      unfold DecRes at h5
      rw [if_pos HZ.out] at h5
      obtain ⟨pv, rfl, OP5, M5⟩ := h5
      rw [HNN.out]
      have HO5 := Lib.hid OP5
      have HM5 := Lib.hid (M0.out.trans M5)
      have HG5 := Lib.hid (M5.heap R0.out (by simp))
      have HR5 := Lib.hid (M5.heap R1.out (by simp))
      have hw5 := M5.size
      simp only [World.size_alloc] at hw5
      have hpv : (decC B pv).pts = pv := by unfold decC; split <;> rfl
      have hpc : (decC B pv).pts.oneCell' = true := by rw [hpv]; exact OP5.rd.one
      clear OP5 M5 hpv
      obtain ⟨CC, hCC⟩ : ∃ CC, CC = decC B pv := ⟨_, rfl⟩
      rw [← hCC] at hpc ⊢
      have HCC := Lib.hid hCC
      clear hCC
      go_wp2_with (refine wpList_store_row (cs := CC.cells) rfl 26 (.tmp 7) (.tmp 16) rfl (heap_alloc_new w5 _) (by rfl) (by rfl) (by rfl) (Conv.infoCC _) (Conv.one _ hpc) ?_; intro w6 R6 M6; have HF6 := Lib.hid (fresh M6); have HQ6 := Lib.hid R6; have HG6 := Lib.hid (HF6.out.heap HG5.out (by simp)); have HR6 := Lib.hid (HF6.out.heap HR5.out (by simp)); clear R6 M6)
      have HM6 := Lib.hid (HM5.out.trans HF6.out)
      have HK6 := Lib.hid (HF6.out.nil (S := [w.heap.size, w.heap.size + 1]))
      clear HF6 HG5 HR5 HM5
      have hg7 : w.heap.size + 1 < w5.heap.size := by omega
      generalize w5.heap.size = g7 at HQ6 hg7 ⊢
      refine heldStart (S := fun W => Mods [] w W ∧ W.heap[g7]? = some (.cells CC.cells 26 (0, 0))) 8 rfl (by kernel_rfl) ⟨HM6.out.drew, HQ6.out⟩ (fun hHeld => ?_)
      refine takeD (i := 0) (d := 23) (v := .agg (CC).cells) rfl rfl (by kernel_rfl) (by kernel_rfl) (by kernel_rfl) (fun _ _ _ h => h) (yieldsIf_load_row rfl 26 (.tmp 7) rfl g7 rfl 26 (CC).cells (0, 0) _ (fun w h=>h.2) Try.underlying26 rfl (Conv.infoCC _)) hHeld ?_
      simp only [List.setIfInBounds_toArray, List.set_cons_zero, List.set_cons_succ]
      refine takeD (i := 1) (d := 24) (v := ?_) rfl rfl (by kernel_rfl) (by kernel_rfl) (by kernel_rfl) (fun _ _ _ h => h) (Or.inl ⟨by rfl, ?_⟩) hHeld ?_
      rotate_left 1
      · (intro w hSw; (try dsimp only at hSw); go_simp; (try with_reducible rfl))
      simp only [List.setIfInBounds_toArray, List.set_cons_zero, List.set_cons_succ]
      refine takeD (i := 2) (d := 25) (v := ?_) rfl rfl (by kernel_rfl) (by kernel_rfl) (by kernel_rfl) (fun _ _ _ h => h) (Or.inl ⟨by rfl, ?_⟩) hHeld ?_
      rotate_left 1
      · (intro w hSw; (try dsimp only at hSw); go_simp; (try with_reducible rfl))
      simp only [List.setIfInBounds_toArray, List.set_cons_zero, List.set_cons_succ]
      refine takeD (i := 3) (d := 26) (v := ?_) rfl rfl (by kernel_rfl) (by kernel_rfl) (by kernel_rfl) (fun _ _ _ h => h) (Or.inl ⟨by rfl, ?_⟩) hHeld ?_
      rotate_left 1
      · (intro w hSw; (try dsimp only at hSw); go_simp; (try with_reducible rfl))
      simp only [List.setIfInBounds_toArray, List.set_cons_zero, List.set_cons_succ]
      refine takeD (i := 4) (d := 27) (v := ?_) rfl rfl (by kernel_rfl) (by kernel_rfl) (by kernel_rfl) (fun _ _ _ h => h) (Or.inl ⟨by rfl, ?_⟩) hHeld ?_
      rotate_left 1
      · (intro w hSw; (try dsimp only at hSw); go_simp; (try with_reducible rfl))
      simp only [List.setIfInBounds_toArray, List.set_cons_zero, List.set_cons_succ]
      refine wpAnyH_ready (rs := [5]) (by kernel_rfl) (by simp) ?_
      refine AllReadyH.cons rfl (fun K hK => ?_) AllReadyH.nil
      refine exec_store_part rfl rfl rfl (show w6.drew.heap[w.heap.size]? = _ from HG6.out) 7 rfl rfl (by show 7 + 7 ≤ 28; omega) (Conv.infoCC _) (Conv.one _ hpc) (fun w7 R7 M7 => ?_)
      rw [setAll_conv] at R7
      refine hK.out _ _ ?_ (fun hHeld => ?_)
      · exact ⟨hHeld.1.comp M7 (fun k hk => by simp at hk; exact .inr (by omega)), M7.heap hHeld.2 (by simp; omega)⟩
      clear hK K
      refine takeD (i := 6) (d := 1) (v := ?_) rfl rfl (by kernel_rfl) (by kernel_rfl) (by kernel_rfl) (fun _ _ _ h => h) (Or.inl ⟨by rfl, ?_⟩) hHeld ?_
      rotate_left 1
      · (intro w hSw; (try dsimp only at hSw); go_simp; (try with_reducible rfl))
      simp only [List.setIfInBounds_toArray, List.set_cons_zero, List.set_cons_succ]
      refine takeD (i := 7) (d := 6) (v := ?_) rfl rfl (by kernel_rfl) (by kernel_rfl) (by kernel_rfl) (fun _ _ _ h => h) (Or.inl ⟨by rfl, ?_⟩) hHeld ?_
      rotate_left 1
      · (intro w hSw; (try dsimp only at hSw); go_simp; (try with_reducible rfl))
      simp only [List.setIfInBounds_toArray, List.set_cons_zero, List.set_cons_succ]
      refine wpAnyH_done (by kernel_rfl) ?_ _
      have HM7 := Lib.hid hHeld.1
      have HG7 := Lib.hid R7
      have HR7 := Lib.hid (M7.heap (show w6.drew.heap[w.heap.size + 1]? = _ from HR6.out) (by simp))
      have HK7 := Lib.hid (show Mods [w.heap.size, w.heap.size + 1] w5 w7 from HK6.out.drew.comp M7 (fun k hk => by simp at hk; exact .inl (by simp; omega)))
      clear hHeld R7 M7 HK6 HM6 HG6 HR6 HQ6
      go_wp2_with (first
        | (refine wpList_load_sen rfl (.tmp 2) rfl (SenBox.mk (S := { S with conv := CC }) HG7.out) (by rfl) ?_)
        | (refine wpList_store_row (cs := ({ S with conv := CC } : Sen).cells) rfl 32 (.tmp 4) (.tmp 33) rfl HR7.out (by rfl) (by rfl) rfl (Sen.infoS _) (Sen.one _ hpc) ?_; intro w9 R9 M9))
      have HMX := HM7.out.comp M9 (fun k hk => by simp at hk; exact .inr (by omega))
      refine bodyPost_ret (results_cell_row2 rfl _ _ (w.heap.size + 1) _ _ _ _ rfl R9 Try.underlying32 rfl (Sen.infoS _)) rfl ?_
      have := HE.out { S with conv := CC } w9 (by rw [HR.out]; decide) hpc HMX
      rw [HR.out] at this
      exact this
    · skip
      go_enter Try.func83, Try.ntmps83
      go_wp2_with fail
      refine (HDC.out _ M0.out).mono ?_
      rintro e w5 h5
      unfold DecRes at h5
      rw [if_pos HZ.out] at h5
      obtain ⟨pv, rfl, OP5, M5⟩ := h5
      rw [HNN.out]
      have HO5 := Lib.hid OP5
      have HM5 := Lib.hid (M0.out.trans M5)
      have HG5 := Lib.hid (M5.heap R0.out (by simp))
      have HR5 := Lib.hid (M5.heap R1.out (by simp))
      have hw5 := M5.size
      simp only [World.size_alloc] at hw5
      have hpv : (decC B pv).pts = pv := by unfold decC; split <;> rfl
      have hpc : (decC B pv).pts.oneCell' = true := by rw [hpv]; exact OP5.rd.one
      clear OP5 M5 hpv
      obtain ⟨CC, hCC⟩ : ∃ CC, CC = decC B pv := ⟨_, rfl⟩
      rw [← hCC] at hpc ⊢
      have HCC := Lib.hid hCC
      clear hCC
      go_wp2_with (refine wpList_store_row (cs := CC.cells) rfl 26 (.tmp 7) (.tmp 16) rfl (heap_alloc_new w5 _) (by rfl) (by rfl) (by rfl) (Conv.infoCC _) (Conv.one _ hpc) ?_; intro w6 R6 M6; have HF6 := Lib.hid (fresh M6); have HQ6 := Lib.hid R6; have HG6 := Lib.hid (HF6.out.heap HG5.out (by simp)); have HR6 := Lib.hid (HF6.out.heap HR5.out (by simp)); clear R6 M6)
      have HM6 := Lib.hid (HM5.out.trans HF6.out)
      have HK6 := Lib.hid (HF6.out.nil (S := [w.heap.size, w.heap.size + 1]))
      clear HF6 HG5 HR5 HM5
      have hg7 : w.heap.size + 1 < w5.heap.size := by omega
      generalize w5.heap.size = g7 at HQ6 hg7 ⊢
      refine heldStart (S := fun W => Mods [] w W ∧ W.heap[g7]? = some (.cells CC.cells 26 (0, 0))) 8 rfl (by kernel_rfl) ⟨HM6.out.drew, HQ6.out⟩ (fun hHeld => ?_)
      refine takeD (i := 0) (d := 23) (v := .agg (CC).cells) rfl rfl (by kernel_rfl) (by kernel_rfl) (by kernel_rfl) (fun _ _ _ h => h) (yieldsIf_load_row rfl 26 (.tmp 7) rfl g7 rfl 26 (CC).cells (0, 0) _ (fun w h=>h.2) Try.underlying26 rfl (Conv.infoCC _)) hHeld ?_
      simp only [List.setIfInBounds_toArray, List.set_cons_zero, List.set_cons_succ]
      refine takeD (i := 1) (d := 24) (v := ?_) rfl rfl (by kernel_rfl) (by kernel_rfl) (by kernel_rfl) (fun _ _ _ h => h) (Or.inl ⟨by rfl, ?_⟩) hHeld ?_
      rotate_left 1
      · (intro w hSw; (try dsimp only at hSw); go_simp; (try with_reducible rfl))
      simp only [List.setIfInBounds_toArray, List.set_cons_zero, List.set_cons_succ]
      refine takeD (i := 2) (d := 25) (v := ?_) rfl rfl (by kernel_rfl) (by kernel_rfl) (by kernel_rfl) (fun _ _ _ h => h) (Or.inl ⟨by rfl, ?_⟩) hHeld ?_
      rotate_left 1
      · (intro w hSw; (try dsimp only at hSw); go_simp; (try with_reducible rfl))
      simp only [List.setIfInBounds_toArray, List.set_cons_zero, List.set_cons_succ]
      refine takeD (i := 3) (d := 26) (v := ?_) rfl rfl (by kernel_rfl) (by kernel_rfl) (by kernel_rfl) (fun _ _ _ h => h) (Or.inl ⟨by rfl, ?_⟩) hHeld ?_
      rotate_left 1
      · (intro w hSw; (try dsimp only at hSw); go_simp; (try with_reducible rfl))
      simp only [List.setIfInBounds_toArray, List.set_cons_zero, List.set_cons_succ]
      refine takeD (i := 4) (d := 27) (v := ?_) rfl rfl (by kernel_rfl) (by kernel_rfl) (by kernel_rfl) (fun _ _ _ h => h) (Or.inl ⟨by rfl, ?_⟩) hHeld ?_
      rotate_left 1
      · (intro w hSw; (try dsimp only at hSw); go_simp; (try with_reducible rfl))
      simp only [List.setIfInBounds_toArray, List.set_cons_zero, List.set_cons_succ]
      refine wpAnyH_ready (rs := [5]) (by kernel_rfl) (by simp) ?_
      refine AllReadyH.cons rfl (fun K hK => ?_) AllReadyH.nil
      refine exec_store_part rfl rfl rfl (show w6.drew.heap[w.heap.size]? = _ from HG6.out) 7 rfl rfl (by show 7 + 7 ≤ 28; omega) (Conv.infoCC _) (Conv.one _ hpc) (fun w7 R7 M7 => ?_)
      rw [setAll_conv] at R7
      refine hK.out _ _ ?_ (fun hHeld => ?_)
      · exact ⟨hHeld.1.comp M7 (fun k hk => by simp at hk; exact .inr (by omega)), M7.heap hHeld.2 (by simp; omega)⟩
      clear hK K
      refine takeD (i := 6) (d := 1) (v := ?_) rfl rfl (by kernel_rfl) (by kernel_rfl) (by kernel_rfl) (fun _ _ _ h => h) (Or.inl ⟨by rfl, ?_⟩) hHeld ?_
      rotate_left 1
      · (intro w hSw; (try dsimp only at hSw); go_simp; (try with_reducible rfl))
      simp only [List.setIfInBounds_toArray, List.set_cons_zero, List.set_cons_succ]
      refine takeD (i := 7) (d := 6) (v := ?_) rfl rfl (by kernel_rfl) (by kernel_rfl) (by kernel_rfl) (fun _ _ _ h => h) (Or.inl ⟨by rfl, ?_⟩) hHeld ?_
      rotate_left 1
      · (intro w hSw; (try dsimp only at hSw); go_simp; (try with_reducible rfl))
      simp only [List.setIfInBounds_toArray, List.set_cons_zero, List.set_cons_succ]
      refine wpAnyH_done (by kernel_rfl) ?_ _
      have HM7 := Lib.hid hHeld.1
      have HG7 := Lib.hid R7
      have HR7 := Lib.hid (M7.heap (show w6.drew.heap[w.heap.size + 1]? = _ from HR6.out) (by simp))
      have HK7 := Lib.hid (show Mods [w.heap.size, w.heap.size + 1] w5 w7 from HK6.out.drew.comp M7 (fun k hk => by simp at hk; exact .inl (by simp; omega)))
      clear hHeld R7 M7 HK6 HM6 HG6 HR6 HQ6
      go_wp2_with (first
        | (refine wpList_load_sen rfl (.tmp 2) rfl (SenBox.mk (S := { S with conv := CC }) HG7.out) (by rfl) ?_)
        | (refine wpList_store_row (cs := ({ S with conv := CC } : Sen).cells) rfl 32 (.tmp 4) (.tmp 33) rfl HR7.out (by rfl) (by rfl) rfl (Sen.infoS _) (Sen.one _ hpc) ?_; intro w9 R9 M9))
      have HMX := HM7.out.comp M9 (fun k hk => by simp at hk; exact .inr (by omega))
      refine bodyPost_ret (results_cell_row2 rfl _ _ (w.heap.size + 1) _ _ _ _ rfl R9 Try.underlying32 rfl (Sen.infoS _)) rfl ?_
      have := HE.out { S with conv := CC } w9 (by rw [HR.out]; decide) hpc HMX
      rw [HR.out] at this
      exact this
  · have HR := Lib.hid (show restErr S.disc B = 6 by rw [HRT.out, if_neg h13, if_pos (by omega)])
    have d1 : decide (((B.length - nn : Nat) : Int) < 13) = false := decide_eq_false (by omega)
    have d1' : decide ((B.length : Int) - (nn : Int) < 13) = false := decide_eq_false (by omega)
    have d2 : decide (((B.length - nn : Nat) : Int) > 13) = true := decide_eq_true (by omega)
    have d2' : decide ((B.length : Int) - (nn : Int) > 13) = true := decide_eq_true (by omega)
    have hcap : ¬ cap = nn := by omega
    go_enter Try.func83, Try.ntmps83
    go_wp2_with fail
    refine (HDC.out _ M0.out).mono ?_
    rintro e w5 h5
    unfold DecRes at h5
    rw [if_pos HZ.out] at h5
    obtain ⟨pv, rfl, OP5, M5⟩ := h5
    rw [HNN.out]
    have HO5 := Lib.hid OP5
    have HM5 := Lib.hid (M0.out.trans M5)
    have HG5 := Lib.hid (M5.heap R0.out (by simp))
    have HR5 := Lib.hid (M5.heap R1.out (by simp))
    have hw5 := M5.size
    simp only [World.size_alloc] at hw5
    have hpv : (decC B pv).pts = pv := by unfold decC; split <;> rfl
    have hpc : (decC B pv).pts.oneCell' = true := by rw [hpv]; exact OP5.rd.one
    clear OP5 M5 hpv
    obtain ⟨CC, hCC⟩ : ∃ CC, CC = decC B pv := ⟨_, rfl⟩
    rw [← hCC] at hpc ⊢
    have HCC := Lib.hid hCC
    clear hCC
    go_wp2_with (refine wpList_store_row (cs := CC.cells) rfl 26 (.tmp 7) (.tmp 16) rfl (heap_alloc_new w5 _) (by rfl) (by rfl) (by rfl) (Conv.infoCC _) (Conv.one _ hpc) ?_; intro w6 R6 M6; have HF6 := Lib.hid (fresh M6); have HQ6 := Lib.hid R6; have HG6 := Lib.hid (HF6.out.heap HG5.out (by simp)); have HR6 := Lib.hid (HF6.out.heap HR5.out (by simp)); clear R6 M6)
    have HM6 := Lib.hid (HM5.out.trans HF6.out)
    have HK6 := Lib.hid (HF6.out.nil (S := [w.heap.size, w.heap.size + 1]))
    clear HF6 HG5 HR5 HM5
    have hg7 : w.heap.size + 1 < w5.heap.size := by omega
    generalize w5.heap.size = g7 at HQ6 hg7 ⊢
    refine heldStart (S := fun W => Mods [] w W ∧ W.heap[g7]? = some (.cells CC.cells 26 (0, 0))) 8 rfl (by kernel_rfl) ⟨HM6.out.drew, HQ6.out⟩ (fun hHeld => ?_)
    refine takeD (i := 0) (d := 23) (v := .agg (CC).cells) rfl rfl (by kernel_rfl) (by kernel_rfl) (by kernel_rfl) (fun _ _ _ h => h) (yieldsIf_load_row rfl 26 (.tmp 7) rfl g7 rfl 26 (CC).cells (0, 0) _ (fun w h=>h.2) Try.underlying26 rfl (Conv.infoCC _)) hHeld ?_
    simp only [List.setIfInBounds_toArray, List.set_cons_zero, List.set_cons_succ]
    refine takeD (i := 1) (d := 24) (v := ?_) rfl rfl (by kernel_rfl) (by kernel_rfl) (by kernel_rfl) (fun _ _ _ h => h) (Or.inl ⟨by rfl, ?_⟩) hHeld ?_
    rotate_left 1
    · (intro w hSw; (try dsimp only at hSw); go_simp; (try with_reducible rfl))
    simp only [List.setIfInBounds_toArray, List.set_cons_zero, List.set_cons_succ]
    refine takeD (i := 2) (d := 25) (v := ?_) rfl rfl (by kernel_rfl) (by kernel_rfl) (by kernel_rfl) (fun _ _ _ h => h) (Or.inl ⟨by rfl, ?_⟩) hHeld ?_
    rotate_left 1
    · (intro w hSw; (try dsimp only at hSw); go_simp; (try with_reducible rfl))
    simp only [List.setIfInBounds_toArray, List.set_cons_zero, List.set_cons_succ]
    refine takeD (i := 3) (d := 26) (v := ?_) rfl rfl (by kernel_rfl) (by kernel_rfl) (by kernel_rfl) (fun _ _ _ h => h) (Or.inl ⟨by rfl, ?_⟩) hHeld ?_
    rotate_left 1
    · (intro w hSw; (try dsimp only at hSw); go_simp; (try with_reducible rfl))
    simp only [List.setIfInBounds_toArray, List.set_cons_zero, List.set_cons_succ]
    refine takeD (i := 4) (d := 27) (v := ?_) rfl rfl (by kernel_rfl) (by kernel_rfl) (by kernel_rfl) (fun _ _ _ h => h) (Or.inl ⟨by rfl, ?_⟩) hHeld ?_
    rotate_left 1
    · (intro w hSw; (try dsimp only at hSw); go_simp; (try with_reducible rfl))
    simp only [List.setIfInBounds_toArray, List.set_cons_zero, List.set_cons_succ]
    refine wpAnyH_ready (rs := [5]) (by kernel_rfl) (by simp) ?_
    refine AllReadyH.cons rfl (fun K hK => ?_) AllReadyH.nil
    refine exec_store_part rfl rfl rfl (show w6.drew.heap[w.heap.size]? = _ from HG6.out) 7 rfl rfl (by show 7 + 7 ≤ 28; omega) (Conv.infoCC _) (Conv.one _ hpc) (fun w7 R7 M7 => ?_)
    rw [setAll_conv] at R7
    refine hK.out _ _ ?_ (fun hHeld => ?_)
    · exact ⟨hHeld.1.comp M7 (fun k hk => by simp at hk; exact .inr (by omega)), M7.heap hHeld.2 (by simp; omega)⟩
    clear hK K
    refine takeD (i := 6) (d := 1) (v := ?_) rfl rfl (by kernel_rfl) (by kernel_rfl) (by kernel_rfl) (fun _ _ _ h => h) (Or.inl ⟨by rfl, ?_⟩) hHeld ?_
    rotate_left 1
    · (intro w hSw; (try dsimp only at hSw); go_simp; (try with_reducible rfl))
    simp only [List.setIfInBounds_toArray, List.set_cons_zero, List.set_cons_succ]
    refine takeD (i := 7) (d := 6) (v := ?_) rfl rfl (by kernel_rfl) (by kernel_rfl) (by kernel_rfl) (fun _ _ _ h => h) (Or.inl ⟨by rfl, ?_⟩) hHeld ?_
    rotate_left 1
    · (intro w hSw; (try dsimp only at hSw); go_simp; (try with_reducible rfl))
    simp only [List.setIfInBounds_toArray, List.set_cons_zero, List.set_cons_succ]
    refine wpAnyH_done (by kernel_rfl) ?_ _
    have HM7 := Lib.hid hHeld.1
    have HG7 := Lib.hid R7
    have HR7 := Lib.hid (M7.heap (show w6.drew.heap[w.heap.size + 1]? = _ from HR6.out) (by simp))
    have HK7 := Lib.hid (show Mods [w.heap.size, w.heap.size + 1] w5 w7 from HK6.out.drew.comp M7 (fun k hk => by simp at hk; exact .inl (by simp; omega)))
    clear hHeld R7 M7 HK6 HM6 HG6 HR6 HQ6
    go_wp2_with (first
      | (refine wpList_load_sen rfl (.tmp 2) rfl (SenBox.mk (S := { S with conv := CC }) HG7.out) (by rfl) ?_)
      | (refine wpList_store_row (cs := ({ S with conv := CC } : Sen).cells) rfl 32 (.tmp 4) (.tmp 39) rfl HR7.out (by rfl) (by rfl) rfl (Sen.infoS _) (Sen.one _ hpc) ?_; intro w9 R9 M9))
    have HMX := HM7.out.comp M9 (fun k hk => by simp at hk; exact .inr (by omega))
    refine bodyPost_ret (results_cell_row2 rfl _ _ (w.heap.size + 1) _ _ _ _ rfl R9 Try.underlying32 rfl (Sen.infoS _)) rfl ?_
    have := HE.out { S with conv := CC } w9 (by rw [HR.out]; decide) hpc HMX
    rw [HR.out] at this
    exact this
end Go.Proofs.Ytgjjmiaiclhidaa
