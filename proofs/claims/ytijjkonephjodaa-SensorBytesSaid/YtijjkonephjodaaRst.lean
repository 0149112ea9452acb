/- Joined texts. sensor.rest of an analog sensor: contract. | sensor.rest of an analog sensor whose bytes are enough: contract. | sensor.Decode: contract. -/
import Derived.Test.YtijjkonephjodaaRestD
import Derived.Test.YtijjkonephjodaaBkx
import Derived.Test.YtijjkonephjodaaMadeSen
import Derived.Laws.Cover3
import Derived.Test.YtijjkonephjodaaSenDecP
namespace Go.Proofs.Ytijjkonephjodaa
open Go.RowKit

/-- A part of a block stored, in a drawn region. -/
theorem exec_store_part {P : Program} {ops : Array Oper} {o : Oper} {a : Act} {w : World} {K : Act → World → Prop} {Q : Exit → Act → World → Prop} {E : Prop} (hgd : o.guard = none) (hd : o.dst = none) {ty : TypeId} {x y : Operand} (ho : o.op = .store ty x y)
    {g : Nat} {c0 cs : Array Value} {T : TypeId} (hg : w.heap[g]? = some (.cells c0 T (0, 0))) (off : Nat) (hx : a.eval x = .pointer (some ⟨g, off, none⟩)) (hy : a.eval y = .agg cs) (hs : off + cs.size ≤ c0.size)
    (hi : (P.info? ty).map (·.size) = some cs.size) (h1 : cs.all (·.oneCell') = true) (h : ∀ W, W.heap[g]? = some (.cells (setAll c0 off cs.toList) T (0, 0)) → Mods [g] w W → K a W) : if Region.wanted o (yielded ops a.tmps) = true then Oper.wp P o a w K Q else E := by
  rw [if_pos (by simp [Region.wanted, hgd])]
  have e : a.put o.dst undef = a := by rw [hd]; rfl
  refine wp_store_mid ty x y ho g off cs hx hy ?_ hi h1 (by rw [e]; exact h _ (heap_setCells _ _ _ _ hg) (Mods.setCells _ _ _))
  intro j hj
  refine ⟨?_, froz_blk hg _⟩
  rw [cell_blk hg, Array.getElem?_eq_getElem (by omega)]
  rfl
theorem restErr_ana {B : List Int} : restErr false B = if errC B ≠ 0 then errC B else if (B.drop (lenC B).1.toNat).length < 13 then 4 else if 13 < (B.drop (lenC B).1.toNat).length then 6 else 0 := rfl
set_option maxRecDepth 100000 in
set_option maxHeartbeats 4000000 in
theorem rest_aerr (w : World) (S : Sen) (v : Value) (B : List Int) (hv : Rd w v (u8s B)) (hb : Bytes B) (hp : S.conv.pts.oneCell' = true) (hd : S.disc = false) (hl : errC B ≠ 0) :
    Calls Try.prog 58 #[.agg S.cells, v] w fun e w' => RestRes w S B e w' := by
  have HDC := Lib.hid (fun W (M : Mods [] w W) => convDec_ok W v B (hv.mods0 M) hb)
  have HV := Lib.hid hv
  have HB := Lib.hid hb
  have HE := Lib.hid (show ∀ (S' : Sen) W, restErr S.disc B ≠ 0 → S'.conv.pts.oneCell' = true → Mods [] w W → RestRes w S B (.returned (.tuple #[.agg S'.cells, .int .i64 (restErr S.disc B)])) W from fun S' W h h1 M => by unfold RestRes; rw [if_neg h]; exact ⟨⟨S', h1, rfl⟩, M⟩)
  have HRE := Lib.hid (show restErr S.disc B = if S.disc then (if B.length < 6 then 4 else if 6 < B.length then 6 else 0)
    else if errC B ≠ 0 then errC B else if (B.drop (lenC B).1.toNat).length < 13 then 4 else if 13 < (B.drop (lenC B).1.toNat).length then 6 else 0 from rfl)
  obtain ⟨ad, cap, rfl, h1, h2, -⟩ := hv.u8
  have h3 : cap ≤ 9223372036854775807 := h2
  clear hv hb h2
  obtain ⟨_, _, _, _, _, _, x6⟩ := S.headc
  have R0 := Lib.hid (heap_alloc (o' := .cells zS.cells 32) (heap_alloc_new w (.cells S.cells 32)))
  have R1 := heap_alloc_new (w.alloc (.cells S.cells 32)) (.cells zS.cells 32)
  rw [World.size_alloc] at R1
  replace R1 := Lib.hid R1
  have M0 := Lib.hid (((Mods.refl (S := []) (w := w)).alloc (.cells S.cells 32)).alloc (.cells zS.cells 32))
  rw [hd] at x6 HRE
  have HR := Lib.hid (show restErr S.disc B = errC B by rw [hd, restErr_ana, if_pos hl])
  have HL := Lib.hid hl
  have hne : (errC B != 0) = true := by simpa using hl
  clear hl hd
  go_enter Try.func58, Try.ntmps58
  go_wp2_with fail
  refine (HDC.out _ M0.out).mono ?_
  rintro e w5 h5
  unfold DecRes at h5
  rw [if_neg HL.out] at h5
  obtain ⟨rfl, M5⟩ := h5
  have HM5 := Lib.hid (M0.out.trans M5)
  have HG5 := Lib.hid (M5.heap R0.out (by simp))
  have HR5 := Lib.hid (M5.heap R1.out (by simp))
  clear M5
  generalize errC B = ec at *
  go_wp2_with (first
    | (refine wpList_load_sen rfl (.tmp 2) rfl (SenBox.mk HG6.out) (by rfl) ?_)
    | (refine wpList_store_row (cs := zK.cells) rfl 26 (.tmp 7) (.tmp 16) rfl (heap_alloc_new w5 _) (by rfl) (by rfl) (by rfl) (Conv.infoCC zK) zK_one ?_; intro w6 R6 M6; have HF6 := Lib.hid (fresh M6); have HM6 := Lib.hid (HM5.out.trans HF6.out); have HG6 := Lib.hid (HF6.out.heap HG5.out (by simp)); have HR6 := Lib.hid (HF6.out.heap HR5.out (by simp)); clear R6 M6)
    | (refine wpList_store_row (cs := S.cells) rfl 32 (.tmp 4) (.tmp 21) rfl HR6.out (by rfl) (by rfl) rfl (Sen.infoS _) (Sen.one _ hp) ?_; intro w9 R9 M9))
  have HMX := HM6.out.comp M9 (fun k hk => by simp at hk; exact .inr (by omega))
  refine bodyPost_ret (results_cell_row2 rfl _ _ (w.heap.size + 1) _ _ _ _ rfl R9 Try.underlying32 rfl (Sen.infoS _)) rfl ?_
  have := HE.out S w9 (by rw [HR.out]; exact HL.out) hp HMX
  rw [HR.out] at this
  exact this
set_option maxRecDepth 100000 in
set_option maxHeartbeats 4000000 in
theorem rest_acut (w : World) (S : Sen) (v : Value) (B : List Int) (hv : Rd w v (u8s B)) (hb : Bytes B) (hd : S.disc = false) (hl : errC B = 0) (hc : (B.drop (lenC B).1.toNat).length ≠ 13) :
    Calls Try.prog 58 #[.agg S.cells, v] w fun e w' => RestRes w S B e w' := by
  have HDC := Lib.hid (fun W (M : Mods [] w W) => convDec_ok W v B (hv.mods0 M) hb)
  obtain ⟨hz1, hz2, hz3⟩ := errC_zero hl
  obtain ⟨hB0, -, hcase⟩ := lenC_facts hz1
  obtain ⟨nn, hnn⟩ : ∃ nn : Nat, (lenC B).1 = (nn : Int) := ⟨(lenC B).1.toNat, by have := hb 1; omega⟩
  have HV := Lib.hid hv
  have HB := Lib.hid hb
  have HE := Lib.hid (show ∀ (S' : Sen) W, restErr S.disc B ≠ 0 → S'.conv.pts.oneCell' = true → Mods [] w W → RestRes w S B (.returned (.tuple #[.agg S'.cells, .int .i64 (restErr S.disc B)])) W from fun S' W h h1 M => by unfold RestRes; rw [if_neg h]; exact ⟨⟨S', h1, rfl⟩, M⟩)
  have HRE := Lib.hid (show restErr S.disc B = if S.disc then (if B.length < 6 then 4 else if 6 < B.length then 6 else 0)
    else if errC B ≠ 0 then errC B else if (B.drop (lenC B).1.toNat).length < 13 then 4 else if 13 < (B.drop (lenC B).1.toNat).length then 6 else 0 from rfl)
  obtain ⟨ad, cap, rfl, h1, h2, -⟩ := hv.u8
  have h3 : cap ≤ 9223372036854775807 := h2
  clear hv hb h2
  obtain ⟨_, _, _, _, _, _, x6⟩ := S.headc
  have R0 := Lib.hid (heap_alloc (o' := .cells zS.cells 32) (heap_alloc_new w (.cells S.cells 32)))
  have R1 := heap_alloc_new (w.alloc (.cells S.cells 32)) (.cells zS.cells 32)
  rw [World.size_alloc] at R1
  replace R1 := Lib.hid R1
  have M0 := Lib.hid (((Mods.refl (S := []) (w := w)).alloc (.cells S.cells 32)).alloc (.cells zS.cells 32))
  rw [hd] at x6 HRE
  have HRT := Lib.hid (show restErr S.disc B = if (B.drop nn).length < 13 then 4 else if 13 < (B.drop nn).length then 6 else 0 by rw [hd, restErr_ana, if_neg (fun h => h hl), hnn, Int.toNat_natCast])
  have HRS := Lib.hid (show ∀ pv, restS S B pv = ana13 S (decC B pv) (B.drop nn) from fun pv => by unfold restS; rw [if_neg (by rw [hd]; decide), hnn, Int.toNat_natCast])
  have HRP := Lib.hid (show restP S.disc B = decP B by unfold restP; rw [if_neg (by rw [hd]; decide)])
  rw [hnn] at hz2
  have hnB : nn ≤ B.length := by omega
  have hB1 : 0 < B.length := List.length_pos_iff.2 hB0
  obtain ⟨bb, off, rfl, HCB⟩ : ∃ bb off, ad = some ⟨bb, off, none⟩ ∧ Hid (∀ W, Mods [] w W → ∀ i, i < B.length → W.cell? ⟨bb, off + i, none⟩ = some (.int .u8 (B.getD i 0))) := by
    obtain ⟨_, _, he, _, _, hc⟩ := HV.out.u8
    injection he with he1 _ _
    obtain ⟨b, o, h, _⟩ := hc 0 hB1
    refine ⟨b, o, he1.trans h, Lib.hid fun W M i hi => ?_⟩
    obtain ⟨b', o', h', hx⟩ := hc i hi
    rw [h] at h'
    cases h'
    exact M.cell hx (by simp)
  have HZ := Lib.hid hl
  have HNN := Lib.hid hnn
  have n0 : (0 : Int) ≤ (nn : Int) := by omega
  have n1 : (nn : Int) ≤ (B.length : Int) := by omega
  have n2 : (nn : Int) ≤ (cap : Int) := by omega
  have eR : (B.drop nn).length = B.length - nn := List.length_drop
  rw [eR] at HRT
  clear hl hz1 hz2 hz3 hcase hnn hB0 hd HRE
  rw [HNN.out, Int.toNat_natCast, eR] at hc
  by_cases h13 : B.length - nn < 13
  · have HR := Lib.hid (show restErr S.disc B = 4 by rw [HRT.out, if_pos h13])
    have d1 : decide (((B.length - nn : Nat) : Int) < 13) = true := decide_eq_true (by omega)
    have d1' : decide ((B.length : Int) - (nn : Int) < 13) = true := decide_eq_true (by omega)
    by_cases hcap : cap = nn
    · subst hcap
      go_enter Try.func58, Try.ntmps58
      go_wp2_with fail
      refine (HDC.out _ M0.out).mono ?_
      rintro e w5 h5
      unfold DecRes at h5
      rw [if_pos HZ.out] at h5
      obtain ⟨pv, rfl, OP5, M5⟩ := h5
      rw [HNN.out]
      have HO5 := Lib.hid OP5
      have HM5 := Lib.hid (M0.out.trans M5)
      have HG5 := Lib.hid (M5.heap R0.out (by simp))
      have HR5 := Lib.hid (M5.heap R1.out (by simp))
      have hw5 := M5.size
      simp only [World.size_alloc] at hw5
      have hpv : (decC B pv).pts = pv := by unfold decC; split <;> rfl
      have hpc : (decC B pv).pts.oneCell' = true := by rw [hpv]; exact OP5.rd.one
      clear OP5 M5 hpv
      obtain ⟨CC, hCC⟩ : ∃ CC, CC = decC B pv := ⟨_, rfl⟩
      rw [← hCC] at hpc ⊢
      have HCC := Lib.hid hCC
      clear hCC
      go_wp2_with (refine wpList_store_row (cs := CC.cells) rfl 26 (.tmp 7) (.tmp 16) rfl (heap_alloc_new w5 _) (by rfl) (by rfl) (by rfl) (Conv.infoCC _) (Conv.one _ hpc) ?_; intro w6 R6 M6; have HF6 := Lib.hid (fresh M6); have HQ6 := Lib.hid R6; have HG6 := Lib.hid (HF6.out.heap HG5.out (by simp)); have HR6 := Lib.hid (HF6.out.heap HR5.out (by simp)); clear R6 M6)
      have HM6 := Lib.hid (HM5.out.trans HF6.out)
      have HK6 := Lib.hid (HF6.out.nil (S := [w.heap.size, w.heap.size + 1]))
      clear HF6 HG5 HR5 HM5
      have hg7 : w.heap.size + 1 < w5.heap.size := by omega
      generalize w5.heap.size = g7 at HQ6 hg7 ⊢
      refine heldStart (S := fun W => Mods [] w W ∧ W.heap[g7]? = some (.cells CC.cells 26 (0, 0))) 8 rfl (by kernel_rfl) ⟨HM6.out.drew, HQ6.out⟩ (fun hHeld => ?_)
      refine takeD (i := 0) (d := 23) (v := .agg (CC).cells) rfl rfl (by kernel_rfl) (by kernel_rfl) (by kernel_rfl) (fun _ _ _ h => h) (yieldsIf_load_row rfl 26 (.tmp 7) rfl g7 rfl 26 (CC).cells (0, 0) _ (fun w h=>h.2) Try.underlying26 rfl (Conv.infoCC _)) hHeld ?_
      simp only [List.setIfInBounds_toArray, List.set_cons_zero, List.set_cons_succ]
      refine takeD (i := 1) (d := 24) (v := ?_) rfl rfl (by kernel_rfl) (by kernel_rfl) (by kernel_rfl) (fun _ _ _ h => h) (Or.inl ⟨by rfl, ?_⟩) hHeld ?_
      rotate_left 1
      · (intro w hSw; (try dsimp only at hSw); go_simp; (try with_reducible rfl))
      simp only [List.setIfInBounds_toArray, List.set_cons_zero, List.set_cons_succ]
      refine takeD (i := 2) (d := 25) (v := ?_) rfl rfl (by kernel_rfl) (by kernel_rfl) (by kernel_rfl) (fun _ _ _ h => h) (Or.inl ⟨by rfl, ?_⟩) hHeld ?_
      rotate_left 1
      · (intro w hSw; (try dsimp only at hSw); go_simp; (try with_reducible rfl))
      simp only [List.setIfInBounds_toArray, List.set_cons_zero, List.set_cons_succ]
      refine takeD (i := 3) (d := 26) (v := ?_) rfl rfl (by kernel_rfl) (by kernel_rfl) (by kernel_rfl) (fun _ _ _ h => h) (Or.inl ⟨by rfl, ?_⟩) hHeld ?_
      rotate_left 1
      · (intro w hSw; (try dsimp only at hSw); go_simp; (try with_reducible rfl))
      simp only [List.setIfInBounds_toArray, List.set_cons_zero, List.set_cons_succ]
      refine takeD (i := 4) (d := 27) (v := ?_) rfl rfl (by kernel_rfl) (by kernel_rfl) (by kernel_rfl) (fun _ _ _ h => h) (Or.inl ⟨by rfl, ?_⟩) hHeld ?_
      rotate_left 1
      · (intro w hSw; (try dsimp only at hSw); go_simp; (try with_reducible rfl))
      simp only [List.setIfInBounds_toArray, List.set_cons_zero, List.set_cons_succ]
      refine wpAnyH_ready (rs := [5]) (by kernel_rfl) (by simp) ?_
      refine AllReadyH.cons rfl (fun K hK => ?_) AllReadyH.nil
      refine exec_store_part rfl rfl rfl (show w6.drew.heap[w.heap.size]? = _ from HG6.out) 7 rfl rfl (by show 7 + 7 ≤ 28; omega) (Conv.infoCC _) (Conv.one _ hpc) (fun w7 R7 M7 => ?_)
      rw [setAll_conv] at R7
      refine hK.out _ _ ?_ (fun hHeld => ?_)
      · exact ⟨hHeld.1.comp M7 (fun k hk => by simp at hk; exact .inr (by omega)), M7.heap hHeld.2 (by simp; omega)⟩
      clear hK K
      refine takeD (i := 6) (d := 1) (v := ?_) rfl rfl (by kernel_rfl) (by kernel_rfl) (by kernel_rfl) (fun _ _ _ h => h) (Or.inl ⟨by rfl, ?_⟩) hHeld ?_
      rotate_left 1
      · (intro w hSw; (try dsimp only at hSw); go_simp; (try with_reducible rfl))
      simp only [List.setIfInBounds_toArray, List.set_cons_zero, List.set_cons_succ]
      refine takeD (i := 7) (d := 6) (v := ?_) rfl rfl (by kernel_rfl) (by kernel_rfl) (by kernel_rfl) (fun _ _ _ h => h) (Or.inl ⟨by rfl, ?_⟩) hHeld ?_
      rotate_left 1
      · (intro w hSw; (try dsimp only at hSw); go_simp; (try with_reducible rfl))
      simp only [List.setIfInBounds_toArray, List.set_cons_zero, List.set_cons_succ]
      refine wpAnyH_done (by kernel_rfl) ?_ _
      have HM7 := Lib.hid hHeld.1
      have HG7 := Lib.hid R7
      have HR7 := Lib.hid (M7.heap (show w6.drew.heap[w.heap.size + 1]? = _ from HR6.out) (by simp))
      have HK7 := Lib.hid (show Mods [w.heap.size, w.heap.size + 1] w5 w7 from HK6.out.drew.comp M7 (fun k hk => by simp at hk; exact .inl (by simp; omega)))
      clear hHeld R7 M7 HK6 HM6 HG6 HR6 HQ6
      go_wp2_with (first
        | (refine wpList_load_sen rfl (.tmp 2) rfl (SenBox.mk (S := { S with conv := CC }) HG7.out) (by rfl) ?_)
        | (refine wpList_store_row (cs := ({ S with conv := CC } : Sen).cells) rfl 32 (.tmp 4) (.tmp 33) rfl HR7.out (by rfl) (by rfl) rfl (Sen.infoS _) (Sen.one _ hpc) ?_; intro w9 R9 M9))
      have HMX := HM7.out.comp M9 (fun k hk => by simp at hk; exact .inr (by omega))
      refine bodyPost_ret (results_cell_row2 rfl _ _ (w.heap.size + 1) _ _ _ _ rfl R9 Try.underlying32 rfl (Sen.infoS _)) rfl ?_
      have := HE.out { S with conv := CC } w9 (by rw [HR.out]; decide) hpc HMX
      rw [HR.out] at this
      exact this
    · skip
      go_enter Try.func58, Try.ntmps58
      go_wp2_with fail
      refine (HDC.out _ M0.out).mono ?_
      rintro e w5 h5
      unfold DecRes at h5
      rw [if_pos HZ.out] at h5
      obtain ⟨pv, rfl, OP5, M5⟩ := h5
      rw [HNN.out]
      have HO5 := Lib.hid OP5
      have HM5 := Lib.hid (M0.out.trans M5)
      have HG5 := Lib.hid (M5.heap R0.out (by simp))
      have HR5 := Lib.hid (M5.heap R1.out (by simp))
      have hw5 := M5.size
      simp only [World.size_alloc] at hw5
      have hpv : (decC B pv).pts = pv := by unfold decC; split <;> rfl
      have hpc : (decC B pv).pts.oneCell' = true := by rw [hpv]; exact OP5.rd.one
      clear OP5 M5 hpv
      obtain ⟨CC, hCC⟩ : ∃ CC, CC = decC B pv := ⟨_, rfl⟩
      rw [← hCC] at hpc ⊢
      have HCC := Lib.hid hCC
      clear hCC
      go_wp2_with (refine wpList_store_row (cs := CC.cells) rfl 26 (.tmp 7) (.tmp 16) rfl (heap_alloc_new w5 _) (by rfl) (by rfl) (by rfl) (Conv.infoCC _) (Conv.one _ hpc) ?_; intro w6 R6 M6; have HF6 := Lib.hid (fresh M6); have HQ6 := Lib.hid R6; have HG6 := Lib.hid (HF6.out.heap HG5.out (by simp)); have HR6 := Lib.hid (HF6.out.heap HR5.out (by simp)); clear R6 M6)
      have HM6 := Lib.hid (HM5.out.trans HF6.out)
      have HK6 := Lib.hid (HF6.out.nil (S := [w.heap.size, w.heap.size + 1]))
      clear HF6 HG5 HR5 HM5
      have hg7 : w.heap.size + 1 < w5.heap.size := by omega
      generalize w5.heap.size = g7 at HQ6 hg7 ⊢
      refine heldStart (S := fun W => Mods [] w W ∧ W.heap[g7]? = some (.cells CC.cells 26 (0, 0))) 8 rfl (by kernel_rfl) ⟨HM6.out.drew, HQ6.out⟩ (fun hHeld => ?_)
      refine takeD (i := 0) (d := 23) (v := .agg (CC).cells) rfl rfl (by kernel_rfl) (by kernel_rfl) (by kernel_rfl) (fun _ _ _ h => h) (yieldsIf_load_row rfl 26 (.tmp 7) rfl g7 rfl 26 (CC).cells (0, 0) _ (fun w h=>h.2) Try.underlying26 rfl (Conv.infoCC _)) hHeld ?_
      simp only [List.setIfInBounds_toArray, List.set_cons_zero, List.set_cons_succ]
      refine takeD (i := 1) (d := 24) (v := ?_) rfl rfl (by kernel_rfl) (by kernel_rfl) (by kernel_rfl) (fun _ _ _ h => h) (Or.inl ⟨by rfl, ?_⟩) hHeld ?_
      rotate_left 1
      · (intro w hSw; (try dsimp only at hSw); go_simp; (try with_reducible rfl))
      simp only [List.setIfInBounds_toArray, List.set_cons_zero, List.set_cons_succ]
      refine takeD (i := 2) (d := 25) (v := ?_) rfl rfl (by kernel_rfl) (by kernel_rfl) (by kernel_rfl) (fun _ _ _ h => h) (Or.inl ⟨by rfl, ?_⟩) hHeld ?_
      rotate_left 1
      · (intro w hSw; (try dsimp only at hSw); go_simp; (try with_reducible rfl))
      simp only [List.setIfInBounds_toArray, List.set_cons_zero, List.set_cons_succ]
      refine takeD (i := 3) (d := 26) (v := ?_) rfl rfl (by kernel_rfl) (by kernel_rfl) (by kernel_rfl) (fun _ _ _ h => h) (Or.inl ⟨by rfl, ?_⟩) hHeld ?_
      rotate_left 1
      · (intro w hSw; (try dsimp only at hSw); go_simp; (try with_reducible rfl))
      simp only [List.setIfInBounds_toArray, List.set_cons_zero, List.set_cons_succ]
      refine takeD (i := 4) (d := 27) (v := ?_) rfl rfl (by kernel_rfl) (by kernel_rfl) (by kernel_rfl) (fun _ _ _ h => h) (Or.inl ⟨by rfl, ?_⟩) hHeld ?_
      rotate_left 1
      · (intro w hSw; (try dsimp only at hSw); go_simp; (try with_reducible rfl))
      simp only [List.setIfInBounds_toArray, List.set_cons_zero, List.set_cons_succ]
      refine wpAnyH_ready (rs := [5]) (by kernel_rfl) (by simp) ?_
      refine AllReadyH.cons rfl (fun K hK => ?_) AllReadyH.nil
      refine exec_store_part rfl rfl rfl (show w6.drew.heap[w.heap.size]? = _ from HG6.out) 7 rfl rfl (by show 7 + 7 ≤ 28; omega) (Conv.infoCC _) (Conv.one _ hpc) (fun w7 R7 M7 => ?_)
      rw [setAll_conv] at R7
      refine hK.out _ _ ?_ (fun hHeld => ?_)
      · exact ⟨hHeld.1.comp M7 (fun k hk => by simp at hk; exact .inr (by omega)), M7.heap hHeld.2 (by simp; omega)⟩
      clear hK K
      refine takeD (i := 6) (d := 1) (v := ?_) rfl rfl (by kernel_rfl) (by kernel_rfl) (by kernel_rfl) (fun _ _ _ h => h) (Or.inl ⟨by rfl, ?_⟩) hHeld ?_
      rotate_left 1
      · (intro w hSw; (try dsimp only at hSw); go_simp; (try with_reducible rfl))
      simp only [List.setIfInBounds_toArray, List.set_cons_zero, List.set_cons_succ]
      refine takeD (i := 7) (d := 6) (v := ?_) rfl rfl (by kernel_rfl) (by kernel_rfl) (by kernel_rfl) (fun _ _ _ h => h) (Or.inl ⟨by rfl, ?_⟩) hHeld ?_
      rotate_left 1
      · (intro w hSw; (try dsimp only at hSw); go_simp; (try with_reducible rfl))
      simp only [List.setIfInBounds_toArray, List.set_cons_zero, List.set_cons_succ]
      refine wpAnyH_done (by kernel_rfl) ?_ _
      have HM7 := Lib.hid hHeld.1
      have HG7 := Lib.hid R7
      have HR7 := Lib.hid (M7.heap (show w6.drew.heap[w.heap.size + 1]? = _ from HR6.out) (by simp))
      have HK7 := Lib.hid (show Mods [w.heap.size, w.heap.size + 1] w5 w7 from HK6.out.drew.comp M7 (fun k hk => by simp at hk; exact .inl (by simp; omega)))
      clear hHeld R7 M7 HK6 HM6 HG6 HR6 HQ6
      go_wp2_with (first
        | (refine wpList_load_sen rfl (.tmp 2) rfl (SenBox.mk (S := { S with conv := CC }) HG7.out) (by rfl) ?_)
        | (refine wpList_store_row (cs := ({ S with conv := CC } : Sen).cells) rfl 32 (.tmp 4) (.tmp 33) rfl HR7.out (by rfl) (by rfl) rfl (Sen.infoS _) (Sen.one _ hpc) ?_; intro w9 R9 M9))
      have HMX := HM7.out.comp M9 (fun k hk => by simp at hk; exact .inr (by omega))
      refine bodyPost_ret (results_cell_row2 rfl _ _ (w.heap.size + 1) _ _ _ _ rfl R9 Try.underlying32 rfl (Sen.infoS _)) rfl ?_
      have := HE.out { S with conv := CC } w9 (by rw [HR.out]; decide) hpc HMX
      rw [HR.out] at this
      exact this
  · have HR := Lib.hid (show restErr S.disc B = 6 by rw [HRT.out, if_neg h13, if_pos (by omega)])
    have d1 : decide (((B.length - nn : Nat) : Int) < 13) = false := decide_eq_false (by omega)
    have d1' : decide ((B.length : Int) - (nn : Int) < 13) = false := decide_eq_false (by omega)
    have d2 : decide (((B.length - nn : Nat) : Int) > 13) = true := decide_eq_true (by omega)
    have d2' : decide ((B.length : Int) - (nn : Int) > 13) = true := decide_eq_true (by omega)
    have hcap : ¬ cap = nn := by omega
    go_enter Try.func58, Try.ntmps58
    go_wp2_with fail
    refine (HDC.out _ M0.out).mono ?_
    rintro e w5 h5
    unfold DecRes at h5
    rw [if_pos HZ.out] at h5
    obtain ⟨pv, rfl, OP5, M5⟩ := h5
    rw [HNN.out]
    have HO5 := Lib.hid OP5
    have HM5 := Lib.hid (M0.out.trans M5)
    have HG5 := Lib.hid (M5.heap R0.out (by simp))
    have HR5 := Lib.hid (M5.heap R1.out (by simp))
    have hw5 := M5.size
    simp only [World.size_alloc] at hw5
    have hpv : (decC B pv).pts = pv := by unfold decC; split <;> rfl
    have hpc : (decC B pv).pts.oneCell' = true := by rw [hpv]; exact OP5.rd.one
    clear OP5 M5 hpv
    obtain ⟨CC, hCC⟩ : ∃ CC, CC = decC B pv := ⟨_, rfl⟩
    rw [← hCC] at hpc ⊢
    have HCC := Lib.hid hCC
    clear hCC
    go_wp2_with (refine wpList_store_row (cs := CC.cells) rfl 26 (.tmp 7) (.tmp 16) rfl (heap_alloc_new w5 _) (by rfl) (by rfl) (by rfl) (Conv.infoCC _) (Conv.one _ hpc) ?_; intro w6 R6 M6; have HF6 := Lib.hid (fresh M6); have HQ6 := Lib.hid R6; have HG6 := Lib.hid (HF6.out.heap HG5.out (by simp)); have HR6 := Lib.hid (HF6.out.heap HR5.out (by simp)); clear R6 M6)
    have HM6 := Lib.hid (HM5.out.trans HF6.out)
    have HK6 := Lib.hid (HF6.out.nil (S := [w.heap.size, w.heap.size + 1]))
    clear HF6 HG5 HR5 HM5
    have hg7 : w.heap.size + 1 < w5.heap.size := by omega
    generalize w5.heap.size = g7 at HQ6 hg7 ⊢
    refine heldStart (S := fun W => Mods [] w W ∧ W.heap[g7]? = some (.cells CC.cells 26 (0, 0))) 8 rfl (by kernel_rfl) ⟨HM6.out.drew, HQ6.out⟩ (fun hHeld => ?_)
    refine takeD (i := 0) (d := 23) (v := .agg (CC).cells) rfl rfl (by kernel_rfl) (by kernel_rfl) (by kernel_rfl) (fun _ _ _ h => h) (yieldsIf_load_row rfl 26 (.tmp 7) rfl g7 rfl 26 (CC).cells (0, 0) _ (fun w h=>h.2) Try.underlying26 rfl (Conv.infoCC _)) hHeld ?_
    simp only [List.setIfInBounds_toArray, List.set_cons_zero, List.set_cons_succ]
    refine takeD (i := 1) (d := 24) (v := ?_) rfl rfl (by kernel_rfl) (by kernel_rfl) (by kernel_rfl) (fun _ _ _ h => h) (Or.inl ⟨by rfl, ?_⟩) hHeld ?_
    rotate_left 1
    · (intro w hSw; (try dsimp only at hSw); go_simp; (try with_reducible rfl))
    simp only [List.setIfInBounds_toArray, List.set_cons_zero, List.set_cons_succ]
    refine takeD (i := 2) (d := 25) (v := ?_) rfl rfl (by kernel_rfl) (by kernel_rfl) (by kernel_rfl) (fun _ _ _ h => h) (Or.inl ⟨by rfl, ?_⟩) hHeld ?_
    rotate_left 1
    · (intro w hSw; (try dsimp only at hSw); go_simp; (try with_reducible rfl))
    simp only [List.setIfInBounds_toArray, List.set_cons_zero, List.set_cons_succ]
    refine takeD (i := 3) (d := 26) (v := ?_) rfl rfl (by kernel_rfl) (by kernel_rfl) (by kernel_rfl) (fun _ _ _ h => h) (Or.inl ⟨by rfl, ?_⟩) hHeld ?_
    rotate_left 1
    · (intro w hSw; (try dsimp only at hSw); go_simp; (try with_reducible rfl))
    simp only [List.setIfInBounds_toArray, List.set_cons_zero, List.set_cons_succ]
    refine takeD (i := 4) (d := 27) (v := ?_) rfl rfl (by kernel_rfl) (by kernel_rfl) (by kernel_rfl) (fun _ _ _ h => h) (Or.inl ⟨by rfl, ?_⟩) hHeld ?_
    rotate_left 1
    · (intro w hSw; (try dsimp only at hSw); go_simp; (try with_reducible rfl))
    simp only [List.setIfInBounds_toArray, List.set_cons_zero, List.set_cons_succ]
    refine wpAnyH_ready (rs := [5]) (by kernel_rfl) (by simp) ?_
    refine AllReadyH.cons rfl (fun K hK => ?_) AllReadyH.nil
    refine exec_store_part rfl rfl rfl (show w6.drew.heap[w.heap.size]? = _ from HG6.out) 7 rfl rfl (by show 7 + 7 ≤ 28; omega) (Conv.infoCC _) (Conv.one _ hpc) (fun w7 R7 M7 => ?_)
    rw [setAll_conv] at R7
    refine hK.out _ _ ?_ (fun hHeld => ?_)
    · exact ⟨hHeld.1.comp M7 (fun k hk => by simp at hk; exact .inr (by omega)), M7.heap hHeld.2 (by simp; omega)⟩
    clear hK K
    refine takeD (i := 6) (d := 1) (v := ?_) rfl rfl (by kernel_rfl) (by kernel_rfl) (by kernel_rfl) (fun _ _ _ h => h) (Or.inl ⟨by rfl, ?_⟩) hHeld ?_
    rotate_left 1
    · (intro w hSw; (try dsimp only at hSw); go_simp; (try with_reducible rfl))
    simp only [List.setIfInBounds_toArray, List.set_cons_zero, List.set_cons_succ]
    refine takeD (i := 7) (d := 6) (v := ?_) rfl rfl (by kernel_rfl) (by kernel_rfl) (by kernel_rfl) (fun _ _ _ h => h) (Or.inl ⟨by rfl, ?_⟩) hHeld ?_
    rotate_left 1
    · (intro w hSw; (try dsimp only at hSw); go_simp; (try with_reducible rfl))
    simp only [List.setIfInBounds_toArray, List.set_cons_zero, List.set_cons_succ]
    refine wpAnyH_done (by kernel_rfl) ?_ _
    have HM7 := Lib.hid hHeld.1
    have HG7 := Lib.hid R7
    have HR7 := Lib.hid (M7.heap (show w6.drew.heap[w.heap.size + 1]? = _ from HR6.out) (by simp))
    have HK7 := Lib.hid (show Mods [w.heap.size, w.heap.size + 1] w5 w7 from HK6.out.drew.comp M7 (fun k hk => by simp at hk; exact .inl (by simp; omega)))
    clear hHeld R7 M7 HK6 HM6 HG6 HR6 HQ6
    go_wp2_with (first
      | (refine wpList_load_sen rfl (.tmp 2) rfl (SenBox.mk (S := { S with conv := CC }) HG7.out) (by rfl) ?_)
      | (refine wpList_store_row (cs := ({ S with conv := CC } : Sen).cells) rfl 32 (.tmp 4) (.tmp 39) rfl HR7.out (by rfl) (by rfl) rfl (Sen.infoS _) (Sen.one _ hpc) ?_; intro w9 R9 M9))
    have HMX := HM7.out.comp M9 (fun k hk => by simp at hk; exact .inr (by omega))
    refine bodyPost_ret (results_cell_row2 rfl _ _ (w.heap.size + 1) _ _ _ _ rfl R9 Try.underlying32 rfl (Sen.infoS _)) rfl ?_
    have := HE.out { S with conv := CC } w9 (by rw [HR.out]; decide) hpc HMX
    rw [HR.out] at this
    exact this
end Go.Proofs.Ytijjkonephjodaa

namespace Go.Proofs.Ytijjkonephjodaa
open Go.RowKit

theorem setAll_lims (S : Sen) (m a b c d e f : Nat) : setAll S.cells 14 [.int .u8 m, .int .u8 a, .int .u8 b, .int .u8 c, .int .u8 d, .int .u8 e, .int .u8 f] = ({ S with mask := m, r0 := a, r1 := b, r2 := c, r3 := d, r4 := e, r5 := f } : Sen).cells := by
  simp [setAll, Sen.cells]
theorem lims_one (m a b c d e f : Nat) : (#[.int .u8 m, .int .u8 a, .int .u8 b, .int .u8 c, .int .u8 d, .int .u8 e, .int .u8 f] : Array Value).all (·.oneCell') = true := by simp [Value.oneCell']
theorem Try.infoTh : (Try.prog.info? 29).map (·.size) = some 7 := by kernel_rfl
theorem Try.infoR6 : (Try.prog.info? 27).map (·.size) = some 6 := by kernel_rfl
set_option maxRecDepth 100000 in
set_option maxHeartbeats 8000000 in
theorem rest_ana (w : World) (S : Sen) (v : Value) (B : List Int) (hv : Rd w v (u8s B)) (hb : Bytes B) (hd : S.disc = false) (hl : errC B = 0) (hc : (B.drop (lenC B).1.toNat).length = 13) :
    Calls Try.prog 58 #[.agg S.cells, v] w fun e w' => RestRes w S B e w' := by
  have HDC := Lib.hid (fun W (M : Mods [] w W) => convDec_ok W v B (hv.mods0 M) hb)
  obtain ⟨hz1, hz2, hz3⟩ := errC_zero hl
  obtain ⟨hB0, -, hcase⟩ := lenC_facts hz1
  obtain ⟨nn, hnn⟩ : ∃ nn : Nat, (lenC B).1 = (nn : Int) := ⟨(lenC B).1.toNat, by have := hb 1; omega⟩
  have HV := Lib.hid hv
  have HB := Lib.hid hb
  have HE := Lib.hid (show ∀ (S' : Sen) W, restErr S.disc B ≠ 0 → S'.conv.pts.oneCell' = true → Mods [] w W → RestRes w S B (.returned (.tuple #[.agg S'.cells, .int .i64 (restErr S.disc B)])) W from fun S' W h h1 M => by unfold RestRes; rw [if_neg h]; exact ⟨⟨S', h1, rfl⟩, M⟩)
  have HRE := Lib.hid (show restErr S.disc B = if S.disc then (if B.length < 6 then 4 else if 6 < B.length then 6 else 0)
    else if errC B ≠ 0 then errC B else if (B.drop (lenC B).1.toNat).length < 13 then 4 else if 13 < (B.drop (lenC B).1.toNat).length then 6 else 0 from rfl)
  obtain ⟨ad, cap, rfl, h1, h2, -⟩ := hv.u8
  have h3 : cap ≤ 9223372036854775807 := h2
  clear hv hb h2
  obtain ⟨_, _, _, _, _, _, x6⟩ := S.headc
  have R0 := Lib.hid (heap_alloc (o' := .cells zS.cells 32) (heap_alloc_new w (.cells S.cells 32)))
  have R1 := heap_alloc_new (w.alloc (.cells S.cells 32)) (.cells zS.cells 32)
  rw [World.size_alloc] at R1
  replace R1 := Lib.hid R1
  have M0 := Lib.hid (((Mods.refl (S := []) (w := w)).alloc (.cells S.cells 32)).alloc (.cells zS.cells 32))
  rw [hd] at x6 HRE
  have HRT := Lib.hid (show restErr S.disc B = if (B.drop nn).length < 13 then 4 else if 13 < (B.drop nn).length then 6 else 0 by rw [hd, restErr_ana, if_neg (fun h => h hl), hnn, Int.toNat_natCast])
  have HRS := Lib.hid (show ∀ pv, restS S B pv = ana13 S (decC B pv) (B.drop nn) from fun pv => by unfold restS; rw [if_neg (by rw [hd]; decide), hnn, Int.toNat_natCast])
  have HRP := Lib.hid (show restP S.disc B = decP B by unfold restP; rw [if_neg (by rw [hd]; decide)])
  rw [hnn] at hz2
  have hnB : nn ≤ B.length := by omega
  have hB1 : 0 < B.length := List.length_pos_iff.2 hB0
  obtain ⟨bb, off, rfl, HCB⟩ : ∃ bb off, ad = some ⟨bb, off, none⟩ ∧ Hid (∀ W, Mods [] w W → ∀ i, i < B.length → W.cell? ⟨bb, off + i, none⟩ = some (.int .u8 (B.getD i 0))) := by
    obtain ⟨_, _, he, _, _, hc⟩ := HV.out.u8
    injection he with he1 _ _
    obtain ⟨b, o, h, _⟩ := hc 0 hB1
    refine ⟨b, o, he1.trans h, Lib.hid fun W M i hi => ?_⟩
    obtain ⟨b', o', h', hx⟩ := hc i hi
    rw [h] at h'
    cases h'
    exact M.cell hx (by simp)
  have HZ := Lib.hid hl
  have HNN := Lib.hid hnn
  have n0 : (0 : Int) ≤ (nn : Int) := by omega
  have n1 : (nn : Int) ≤ (B.length : Int) := by omega
  have n2 : (nn : Int) ≤ (cap : Int) := by omega
  have eR : (B.drop nn).length = B.length - nn := List.length_drop
  rw [eR] at HRT
  clear hl hz1 hz2 hz3 hcase hnn hB0 hd HRE
  rw [HNN.out, Int.toNat_natCast, eR] at hc
  have HR := Lib.hid (show restErr S.disc B = 0 by rw [HRT.out, if_neg (by omega), if_neg (by omega)])
  have d1 : decide (((B.length - nn : Nat) : Int) < 13) = false := decide_eq_false (by omega)
  have d1' : decide ((B.length : Int) - (nn : Int) < 13) = false := decide_eq_false (by omega)
  have d2 : decide (((B.length - nn : Nat) : Int) > 13) = false := decide_eq_false (by omega)
  have d2' : decide ((B.length : Int) - (nn : Int) > 13) = false := decide_eq_false (by omega)
  have hcap : ¬ cap = nn := by omega
  have HRR : Hid (∀ W, Mods [] w W → Rd W (.slice (some ⟨bb, off + nn, none⟩) 13 (cap - nn)) (u8s (B.drop nn))) := Lib.hid (fun W M => by
    have := (HV.out.mods0 M).sub nn B.length (by omega) (by omega)
    rw [show B.length - nn = 13 by omega, List.take_of_length_le (by rw [List.length_drop]; omega)] at this
    exact this)
  have HRb := Lib.hid (HB.out.drop nn)
  have HRl := Lib.hid (show (B.drop nn).length = 13 by rw [eR]; omega)
  clear eR
  go_enter Try.func58, Try.ntmps58
  go_wp2_with fail
  refine (HDC.out _ M0.out).mono ?_
  rintro e w5 h5
  unfold DecRes at h5
  rw [if_pos HZ.out] at h5
  obtain ⟨pv, rfl, OP5, M5⟩ := h5
  rw [HNN.out]
  have HO5 := Lib.hid OP5
  have HM5 := Lib.hid (M0.out.trans M5)
  have HG5 := Lib.hid (M5.heap R0.out (by simp))
  have HR5 := Lib.hid (M5.heap R1.out (by simp))
  have hw5 := M5.size
  simp only [World.size_alloc] at hw5
  have hpv : (decC B pv).pts = pv := by unfold decC; split <;> rfl
  have hpc : (decC B pv).pts.oneCell' = true := by rw [hpv]; exact OP5.rd.one
  clear OP5 M5 hpv
  obtain ⟨CC, hCC⟩ : ∃ CC, CC = decC B pv := ⟨_, rfl⟩
  rw [← hCC] at hpc ⊢
  have HCC := Lib.hid hCC
  clear hCC
  go_wp2_with (refine wpList_store_row (cs := CC.cells) rfl 26 (.tmp 7) (.tmp 16) rfl (heap_alloc_new w5 _) (by rfl) (by rfl) (by rfl) (Conv.infoCC _) (Conv.one _ hpc) ?_; intro w6 R6 M6; have HF6 := Lib.hid (fresh M6); have HQ6 := Lib.hid R6; have HG6 := Lib.hid (HF6.out.heap HG5.out (by simp)); have HR6 := Lib.hid (HF6.out.heap HR5.out (by simp)); clear R6 M6)
  have HM6 := Lib.hid (HM5.out.trans HF6.out)
  have HK6 := Lib.hid (HF6.out.nil (S := [w.heap.size, w.heap.size + 1]))
  clear HF6 HG5 HR5 HM5
  have hg7 : w.heap.size + 1 < w5.heap.size := by omega
  generalize w5.heap.size = g7 at HQ6 hg7 ⊢
  refine heldStart (S := fun W => Mods [] w W ∧ W.heap[g7]? = some (.cells CC.cells 26 (0, 0))) 8 rfl (by kernel_rfl) ⟨HM6.out.drew, HQ6.out⟩ (fun hHeld => ?_)
  refine takeD (i := 0) (d := 23) (v := .agg (CC).cells) rfl rfl (by kernel_rfl) (by kernel_rfl) (by kernel_rfl) (fun _ _ _ h => h) (yieldsIf_load_row rfl 26 (.tmp 7) rfl g7 rfl 26 (CC).cells (0, 0) _ (fun w h=>h.2) Try.underlying26 rfl (Conv.infoCC _)) hHeld ?_
  simp only [List.setIfInBounds_toArray, List.set_cons_zero, List.set_cons_succ]
  refine takeD (i := 1) (d := 24) (v := ?_) rfl rfl (by kernel_rfl) (by kernel_rfl) (by kernel_rfl) (fun _ _ _ h => h) (Or.inl ⟨by rfl, ?_⟩) hHeld ?_
  rotate_left 1
  · (intro w hSw; (try dsimp only at hSw); go_simp; (try with_reducible rfl))
  simp only [List.setIfInBounds_toArray, List.set_cons_zero, List.set_cons_succ]
  refine takeD (i := 2) (d := 25) (v := ?_) rfl rfl (by kernel_rfl) (by kernel_rfl) (by kernel_rfl) (fun _ _ _ h => h) (Or.inl ⟨by rfl, ?_⟩) hHeld ?_
  rotate_left 1
  · (intro w hSw; (try dsimp only at hSw); go_simp; (try with_reducible rfl))
  simp only [List.setIfInBounds_toArray, List.set_cons_zero, List.set_cons_succ]
  refine takeD (i := 3) (d := 26) (v := ?_) rfl rfl (by kernel_rfl) (by kernel_rfl) (by kernel_rfl) (fun _ _ _ h => h) (Or.inl ⟨by rfl, ?_⟩) hHeld ?_
  rotate_left 1
  · (intro w hSw; (try dsimp only at hSw); go_simp; (try with_reducible rfl))
  simp only [List.setIfInBounds_toArray, List.set_cons_zero, List.set_cons_succ]
  refine takeD (i := 4) (d := 27) (v := ?_) rfl rfl (by kernel_rfl) (by kernel_rfl) (by kernel_rfl) (fun _ _ _ h => h) (Or.inl ⟨by rfl, ?_⟩) hHeld ?_
  rotate_left 1
  · (intro w hSw; (try dsimp only at hSw); go_simp; (try with_reducible rfl))
  simp only [List.setIfInBounds_toArray, List.set_cons_zero, List.set_cons_succ]
  refine wpAnyH_ready (rs := [5]) (by kernel_rfl) (by simp) ?_
  refine AllReadyH.cons rfl (fun K hK => ?_) AllReadyH.nil
  refine exec_store_part rfl rfl rfl (show w6.drew.heap[w.heap.size]? = _ from HG6.out) 7 rfl rfl (by show 7 + 7 ≤ 28; omega) (Conv.infoCC _) (Conv.one _ hpc) (fun w7 R7 M7 => ?_)
  rw [setAll_conv] at R7
  refine hK.out _ _ ?_ (fun hHeld => ?_)
  · exact ⟨hHeld.1.comp M7 (fun k hk => by simp at hk; exact .inr (by omega)), M7.heap hHeld.2 (by simp; omega)⟩
  clear hK K
  refine takeD (i := 6) (d := 1) (v := ?_) rfl rfl (by kernel_rfl) (by kernel_rfl) (by kernel_rfl) (fun _ _ _ h => h) (Or.inl ⟨by rfl, ?_⟩) hHeld ?_
  rotate_left 1
  · (intro w hSw; (try dsimp only at hSw); go_simp; (try with_reducible rfl))
  simp only [List.setIfInBounds_toArray, List.set_cons_zero, List.set_cons_succ]
  refine takeD (i := 7) (d := 6) (v := ?_) rfl rfl (by kernel_rfl) (by kernel_rfl) (by kernel_rfl) (fun _ _ _ h => h) (Or.inl ⟨by rfl, ?_⟩) hHeld ?_
  rotate_left 1
  · (intro w hSw; (try dsimp only at hSw); go_simp; (try with_reducible rfl))
  simp only [List.setIfInBounds_toArray, List.set_cons_zero, List.set_cons_succ]
  refine wpAnyH_done (by kernel_rfl) ?_ _
  have HM7 := Lib.hid hHeld.1
  have HG7 := Lib.hid R7
  have HR7 := Lib.hid (M7.heap (show w6.drew.heap[w.heap.size + 1]? = _ from HR6.out) (by simp))
  have HK7 := Lib.hid (show Mods [w.heap.size, w.heap.size + 1] w5 w7 from HK6.out.drew.comp M7 (fun k hk => by simp at hk; exact .inl (by simp; omega)))
  clear hHeld R7 M7 HK6 HM6 HG6 HR6 HQ6
  generalize B.drop nn = R at HRR HRb HRl HRS
  have hc2 : 13 ≤ cap - nn := by omega
  have hc3 : cap - nn ≤ 9223372036854775807 := by omega
  have HRE2 := Lib.hid hc
  clear HCB d1 d1' d2 d2' n1 n2 hcap hc HRT
  generalize off + nn = o2 at HRR ⊢
  generalize cap - nn = c2 at HRR hc2 hc3 ⊢
  have HRB : Hid (∀ W, Mods [] w W → ∀ i, i < 13 → W.cell? ⟨bb, o2 + i, none⟩ = some (.int .u8 (b8 R i : Nat))) := Lib.hid (fun W M i hi => by
    obtain ⟨_, _, he, _, _, hcc⟩ := (HRR.out W M).u8
    injection he with he1 _ _
    obtain ⟨b', o', h', hx⟩ := hcc i (by rw [HRl.out]; exact hi)
    rw [← he1] at h'
    cases h'
    rw [u8_getD HRb.out] at hx
    exact hx)
  have HW : Hid (∀ W i, Mods [] w W → i + 2 ≤ 13 → Calls Try.prog 91 #[.slice (some ⟨bb, o2 + i, none⟩) (13 - i) (c2 - i)] W fun e w' => e = .returned (.int .u16 (w16 R i : Nat)) ∧ ∃ n, w' = W.drewN n) := Lib.hid (fun W i M hi => by
    have := (HRR.out W M).sub i 13 (by omega) (by rw [HRl.out]; exact Nat.le_refl _)
    have h := word_ok W _ _ this ((HRb.out.drop i).take _) (by simp; have := HRl.out; omega)
    have e : w16 ((R.drop i).take (13 - i)) 0 = w16 R i := by
      unfold w16
      simp [List.getD_eq_getElem?_getD, show 0 < 13 - i by omega, show 1 < 13 - i by omega]
    rwa [e] at h)
  have k1 : ¬ c2 = 1 := by omega
  have k9 : ¬ c2 = 9 := by omega
  have k11 : ¬ c2 = 11 := by omega
  have k7 : (7 : Int) ≤ (c2 : Int) := by omega
  have c6 : w7.cell? ⟨w.heap.size, 6, none⟩ = some (.bool false) := (cell_blk HG7.out 6).trans x6
  go_wp2_with fail
  try dsimp only [Act.put]
  clear c6
  have hat := fun W => run_arrayAt (P := Try.prog) (w := W) 27 5 6 (some ⟨bb, o2 + 1, none⟩) 6 (c2 - 1) Try.underlying27 (Nat.le_refl _)
  refine heldStart (S := fun W => Mods [] w W) 10 rfl (by kernel_rfl) HM7.out.drew (fun hHeld => ?_)
  refine takeD (i := 0) (d := 45) (v := ?_) rfl rfl (by kernel_rfl) (by kernel_rfl) (by kernel_rfl) (fun _ _ _ h => h) (Or.inl ⟨by rfl, ?_⟩) hHeld ?_
  rotate_left 1
  · (intro w hSw; (try dsimp only at hSw); go_simp; (try with_reducible rfl))
  simp only [List.setIfInBounds_toArray, List.set_cons_zero, List.set_cons_succ]
  refine takeD (i := 1) (d := 46) (v := ?_) rfl rfl (by kernel_rfl) (by kernel_rfl) (by kernel_rfl) (fun _ _ _ h => h) (Or.inl ⟨by rfl, ?_⟩) hHeld ?_
  rotate_left 1
  · (intro w hSw; (try dsimp only at hSw); go_simp; (try with_reducible rfl))
  simp only [List.setIfInBounds_toArray, List.set_cons_zero, List.set_cons_succ]
  refine takeD (i := 2) (d := 47) (v := .int .u8 (b8 R 0 : Nat)) rfl rfl (by kernel_rfl) (by kernel_rfl) (by kernel_rfl) (fun _ _ _ h => h) (Or.inl ⟨by rfl, fun w hSw => ?_⟩) hHeld ?_
  · have cst := HRB.out w hSw 0 (by omega)
    try rw [Nat.add_zero] at cst
    go_simp
  simp only [List.setIfInBounds_toArray, List.set_cons_zero, List.set_cons_succ]
  refine takeD (i := 3) (d := 48) (v := ?_) rfl rfl (by kernel_rfl) (by kernel_rfl) (by kernel_rfl) (fun _ _ _ h => h) (Or.inl ⟨by rfl, ?_⟩) hHeld ?_
  rotate_left 1
  · (intro w hSw; (try dsimp only at hSw); go_simp; (try with_reducible rfl))
  simp only [List.setIfInBounds_toArray, List.set_cons_zero, List.set_cons_succ]
  refine takeD (i := 4) (d := 49) (v := ?_) rfl rfl (by kernel_rfl) (by kernel_rfl) (by kernel_rfl) (fun _ _ _ h => h) (Or.inl ⟨by rfl, ?_⟩) hHeld ?_
  rotate_left 1
  · (intro w hSw; (try dsimp only at hSw); go_simp; (try with_reducible rfl))
  simp only [List.setIfInBounds_toArray, List.set_cons_zero, List.set_cons_succ]
  refine takeD (i := 5) (d := 50) (v := ?_) rfl rfl (by kernel_rfl) (by kernel_rfl) (by kernel_rfl) (fun _ _ _ h => h) (Or.inl ⟨by rfl, ?_⟩) hHeld ?_
  rotate_left 1
  · (intro w hSw; (try dsimp only at hSw); go_simp; (try with_reducible rfl))
  simp only [List.setIfInBounds_toArray, List.set_cons_zero, List.set_cons_succ]
  refine takeD (i := 6) (d := 51) (v := .agg #[.int .u8 (b8 R 1 : Nat), .int .u8 (b8 R 2 : Nat), .int .u8 (b8 R 3 : Nat), .int .u8 (b8 R 4 : Nat), .int .u8 (b8 R 5 : Nat), .int .u8 (b8 R 6 : Nat)]) rfl rfl (by kernel_rfl) (by kernel_rfl) (by kernel_rfl) (fun _ _ _ h => h) (yieldsIf_load_mid (by rfl) 27 (.tmp 50) rfl bb (o2 + 1) rfl [.int .u8 (b8 R 1 : Nat), .int .u8 (b8 R 2 : Nat), .int .u8 (b8 R 3 : Nat), .int .u8 (b8 R 4 : Nat), .int .u8 (b8 R 5 : Nat), .int .u8 (b8 R 6 : Nat)] _ (fun W hSw => ?_) Try.underlying27 rfl Try.infoR6) hHeld ?_
  · intro j u hu
    have hj : j < 6 := (List.getElem?_eq_some_iff.1 hu).1
    have hx := HRB.out W hSw (1 + j) (by omega)
    rw [← Nat.add_assoc] at hx
    rw [hx]
    match j, hj with
    | 0, _ | 1, _ | 2, _ | 3, _ | 4, _ | 5, _ => exact hu
  simp only [List.setIfInBounds_toArray, List.set_cons_zero, List.set_cons_succ]
  refine takeD (i := 7) (d := 52) (v := ?_) rfl rfl (by kernel_rfl) (by kernel_rfl) (by kernel_rfl) (fun _ _ _ h => h) (Or.inl ⟨by rfl, ?_⟩) hHeld ?_
  rotate_left 1
  · (intro w hSw; (try dsimp only at hSw); go_simp; (try with_reducible rfl))
  simp only [List.setIfInBounds_toArray, List.set_cons_zero, List.set_cons_succ]
  refine takeD (i := 8) (d := 53) (v := ?_) rfl rfl (by kernel_rfl) (by kernel_rfl) (by kernel_rfl) (fun _ _ _ h => h) (Or.inl ⟨by rfl, ?_⟩) hHeld ?_
  rotate_left 1
  · (intro w hSw; (try dsimp only at hSw); go_simp; (try with_reducible rfl))
  simp only [List.setIfInBounds_toArray, List.set_cons_zero, List.set_cons_succ]
  refine wpAnyH_ready (rs := [9]) (by kernel_rfl) (by simp) ?_
  refine AllReadyH.cons rfl (fun K hK => ?_) AllReadyH.nil
  refine exec_store_part rfl rfl rfl (show w7.drew.heap[w.heap.size]? = _ from HG7.out) 14 rfl rfl (by show 14 + 7 ≤ 28; omega) Try.infoTh (lims_one _ _ _ _ _ _ _) (fun w8 R8 M8 => ?_)
  rw [setAll_lims] at R8
  refine hK.out _ _ ?_ (fun hHeld => ?_)
  · exact hHeld.comp M8 (fun k hk => by simp at hk; exact .inr (by omega))
  clear hK K
  refine wpAnyH_done (by kernel_rfl) ?_ _
  have HM8 := Lib.hid hHeld
  have HG8 := Lib.hid R8
  have HR8 := Lib.hid (M8.heap (show w7.drew.heap[w.heap.size + 1]? = _ from HR7.out) (by simp))
  have HK8 := Lib.hid (show Mods [w.heap.size, w.heap.size + 1] w5 w8 from HK7.out.drew.comp M8 (fun k hk => by simp at hk; exact .inl (by simp; omega)))
  clear hHeld R8 M8 HK7 HM7 HG7 HR7
  go_wp2_with fail
  try dsimp only [Act.put]
  refine heldStart (S := fun W => Mods [] w W) 10 rfl (by kernel_rfl) HM8.out.drew (fun hHeld => ?_)
  refine takeD (i := 0) (d := 54) (v := ?_) rfl rfl (by kernel_rfl) (by kernel_rfl) (by kernel_rfl) (fun _ _ _ h => h) (Or.inl ⟨by rfl, ?_⟩) hHeld ?_
  rotate_left 1
  · (intro w hSw; (try dsimp only at hSw); go_simp; (try with_reducible rfl))
  simp only [List.setIfInBounds_toArray, List.set_cons_zero, List.set_cons_succ]
  refine takeD (i := 1) (d := 55) (v := ?_) rfl rfl (by kernel_rfl) (by kernel_rfl) (by kernel_rfl) (fun _ _ _ h => h) (Or.inl ⟨by rfl, ?_⟩) hHeld ?_
  rotate_left 1
  · (intro w hSw; (try dsimp only at hSw); go_simp; (try with_reducible rfl))
  simp only [List.setIfInBounds_toArray, List.set_cons_zero, List.set_cons_succ]
  refine takeD (i := 2) (d := 56) (v := .int .u8 (b8 R 7 : Nat)) rfl rfl (by kernel_rfl) (by kernel_rfl) (by kernel_rfl) (fun _ _ _ h => h) (Or.inl ⟨by rfl, fun w hSw => ?_⟩) hHeld ?_
  · have cst := HRB.out w hSw 7 (by omega)
    try rw [Nat.add_zero] at cst
    go_simp
  simp only [List.setIfInBounds_toArray, List.set_cons_zero, List.set_cons_succ]
  refine takeD (i := 3) (d := 57) (v := ?_) rfl rfl (by kernel_rfl) (by kernel_rfl) (by kernel_rfl) (fun _ _ _ h => h) (Or.inl ⟨by rfl, ?_⟩) hHeld ?_
  rotate_left 1
  · (intro w hSw; (try dsimp only at hSw); go_simp; (try with_reducible rfl))
  simp only [List.setIfInBounds_toArray, List.set_cons_zero, List.set_cons_succ]
  refine takeD (i := 4) (d := 58) (v := ?_) rfl rfl (by kernel_rfl) (by kernel_rfl) (by kernel_rfl) (fun _ _ _ h => h) (Or.inl ⟨by rfl, ?_⟩) hHeld ?_
  rotate_left 1
  · (intro w hSw; (try dsimp only at hSw); go_simp; (try with_reducible rfl))
  simp only [List.setIfInBounds_toArray, List.set_cons_zero, List.set_cons_succ]
  refine takeD (i := 5) (d := 59) (v := .int .u8 (b8 R 8 : Nat)) rfl rfl (by kernel_rfl) (by kernel_rfl) (by kernel_rfl) (fun _ _ _ h => h) (Or.inl ⟨by rfl, fun w hSw => ?_⟩) hHeld ?_
  · have cst := HRB.out w hSw 8 (by omega)
    try rw [Nat.add_zero] at cst
    go_simp
  simp only [List.setIfInBounds_toArray, List.set_cons_zero, List.set_cons_succ]
  refine takeD (i := 6) (d := 60) (v := ?_) rfl rfl (by kernel_rfl) (by kernel_rfl) (by kernel_rfl) (fun _ _ _ h => h) (Or.inl ⟨by rfl, ?_⟩) hHeld ?_
  rotate_left 1
  · (intro w hSw; (try dsimp only at hSw); go_simp; (try with_reducible rfl))
  simp only [List.setIfInBounds_toArray, List.set_cons_zero, List.set_cons_succ]
  have cx : w8.cell? ⟨w.heap.size, 21, none⟩ = some (.int .u8 S.hl) := (cell_blk HG8.out 21).trans rfl
  have fx : w8.frozen? ⟨w.heap.size, 21, none⟩ = false := froz_blk HG8.out 21
  refine wpAnyH_ready (rs := [7]) (by kernel_rfl) (by simp) ?_
  refine AllReadyH.cons rfl (fun K hK => ?_) AllReadyH.nil
  go_simp
  refine hK.out _ _ ?_ (fun hHeld => ?_)
  · exact hHeld.setCell (.inr (Nat.le_refl _)) _
  clear hK K
  have G9 : ((w8.setCell ⟨w.heap.size, 21, none⟩ (.int .u8 (b8 R 7 : Nat))).drew).heap[w.heap.size]? = _ := heap_setCell (i := 21) (v := .int .u8 (b8 R 7 : Nat)) HG8.out
  have R9 : ((w8.setCell ⟨w.heap.size, 21, none⟩ (.int .u8 (b8 R 7 : Nat))).drew).heap[w.heap.size + 1]? = _ := heap_setCell_ne (a := ⟨w.heap.size, 21, none⟩) (v := .int .u8 (b8 R 7 : Nat)) HR8.out (by simp)
  have K9 := (HK8.out.setCell (p := ⟨w.heap.size, 21, none⟩) (.inl (by simp)) (.int .u8 (b8 R 7 : Nat))).drew
  clear cx fx HG8 HR8 HK8 HM8
  generalize (w8.setCell ⟨w.heap.size, 21, none⟩ (.int .u8 (b8 R 7 : Nat))).drew = w9 at G9 R9 K9 hHeld ⊢
  have cx : w9.cell? ⟨w.heap.size, 22, none⟩ = some (.int .u8 S.hu) := (cell_blk G9 22).trans rfl
  have fx : w9.frozen? ⟨w.heap.size, 22, none⟩ = false := froz_blk G9 22
  refine takeD (i := 8) (d := 61) (v := ?_) rfl rfl (by kernel_rfl) (by kernel_rfl) (by kernel_rfl) (fun _ _ _ h => h) (Or.inl ⟨by rfl, ?_⟩) hHeld ?_
  rotate_left 1
  · (intro w hSw; (try dsimp only at hSw); go_simp; (try with_reducible rfl))
  simp only [List.setIfInBounds_toArray, List.set_cons_zero, List.set_cons_succ]
  refine wpAnyH_ready (rs := [9]) (by kernel_rfl) (by simp) ?_
  refine AllReadyH.cons rfl (fun K hK => ?_) AllReadyH.nil
  go_simp
  refine hK.out _ _ ?_ (fun hHeld => ?_)
  · exact hHeld.setCell (.inr (Nat.le_refl _)) _
  clear hK K
  have GA := heap_setCell (i := 22) (v := .int .u8 (b8 R 8 : Nat)) G9
  have RA := heap_setCell_ne (a := ⟨w.heap.size, 22, none⟩) (v := .int .u8 (b8 R 8 : Nat)) R9 (by simp)
  have KA := K9.setCell (p := ⟨w.heap.size, 22, none⟩) (.inl (by simp)) (.int .u8 (b8 R 8 : Nat))
  clear cx fx G9 R9 K9
  generalize w9.setCell ⟨w.heap.size, 22, none⟩ (.int .u8 (b8 R 8 : Nat)) = wa at GA RA KA hHeld ⊢
  refine wpAnyH_done (by kernel_rfl) ?_ _
  obtain ⟨SA, hSA⟩ : ∃ SA : Sen, SA = { S with conv := CC, mask := b8 R 0, r0 := b8 R 1, r1 := b8 R 2, r2 := b8 R 3, r3 := b8 R 4, r4 := b8 R 5, r5 := b8 R 6, hl := b8 R 7, hu := b8 R 8 } := ⟨_, rfl⟩
  have HMA := Lib.hid hHeld
  have HGA : Hid (wa.heap[w.heap.size]? = some (.cells SA.cells 32 (0, 0))) := Lib.hid (by rw [GA, hSA]; rfl)
  have HRA := Lib.hid RA
  have HKA := Lib.hid KA
  have HSA := Lib.hid hSA
  clear hHeld GA RA KA hSA
  go_wp2_with fail
  have hq9 : IntKind.i64.wrap 9 = 9 := by decide
  have hq11 : IntKind.i64.wrap 11 = 11 := by decide
  have k9' : (9 : Int) ≤ (c2 : Int) := by omega
  have k11' : (11 : Int) ≤ (c2 : Int) := by omega
  try dsimp only [Act.put]
  refine heldStart (S := fun W => Mods [] w W) 14 rfl (by kernel_rfl) HMA.out.drew (fun hHeld => ?_)
  refine takeD (i := 0) (d := 62) (v := ?_) rfl rfl (by kernel_rfl) (by kernel_rfl) (by kernel_rfl) (fun _ _ _ h => h) (Or.inl ⟨by rfl, ?_⟩) hHeld ?_
  rotate_left 1
  · (intro w hSw; (try dsimp only at hSw); go_simp; (try with_reducible rfl))
  simp only [List.setIfInBounds_toArray, List.set_cons_zero, List.set_cons_succ]
  refine takeD (i := 1) (d := 63) (v := ?_) rfl rfl (by kernel_rfl) (by kernel_rfl) (by kernel_rfl) (fun _ _ _ h => h) (Or.inl ⟨by rfl, ?_⟩) hHeld ?_
  rotate_left 1
  · (intro w hSw; (try dsimp only at hSw); go_simp; (try with_reducible rfl))
  simp only [List.setIfInBounds_toArray, List.set_cons_zero, List.set_cons_succ]
  refine takeD (i := 2) (d := 64) (v := ?_) rfl rfl (by kernel_rfl) (by kernel_rfl) (by kernel_rfl) (fun _ _ _ h => h) (Or.inl ⟨by rfl, ?_⟩) hHeld ?_
  rotate_left 1
  · (intro w hSw; (try dsimp only at hSw); go_simp; (try with_reducible rfl))
  simp only [List.setIfInBounds_toArray, List.set_cons_zero, List.set_cons_succ]
  refine takeD (i := 3) (d := 65) (v := ?_) rfl rfl (by kernel_rfl) (by kernel_rfl) (by kernel_rfl) (fun _ _ _ h => h) (Or.inl ⟨by rfl, ?_⟩) hHeld ?_
  rotate_left 1
  · (intro w hSw; (try dsimp only at hSw); go_simp; (try with_reducible rfl))
  simp only [List.setIfInBounds_toArray, List.set_cons_zero, List.set_cons_succ]
  refine takeD (i := 5) (d := 67) (v := ?_) rfl rfl (by kernel_rfl) (by kernel_rfl) (by kernel_rfl) (fun _ _ _ h => h) (Or.inl ⟨by rfl, ?_⟩) hHeld ?_
  rotate_left 1
  · (intro w hSw; (try dsimp only at hSw); go_simp; (try with_reducible rfl))
  simp only [List.setIfInBounds_toArray, List.set_cons_zero, List.set_cons_succ]
  refine takeD (i := 6) (d := 68) (v := ?_) rfl rfl (by kernel_rfl) (by kernel_rfl) (by kernel_rfl) (fun _ _ _ h => h) (Or.inl ⟨by rfl, ?_⟩) hHeld ?_
  rotate_left 1
  · (intro w hSw; (try dsimp only at hSw); go_simp; (try with_reducible rfl))
  simp only [List.setIfInBounds_toArray, List.set_cons_zero, List.set_cons_succ]
  refine takeD (i := 7) (d := 69) (v := ?_) rfl rfl (by kernel_rfl) (by kernel_rfl) (by kernel_rfl) (fun _ _ _ h => h) (Or.inl ⟨by rfl, ?_⟩) hHeld ?_
  rotate_left 1
  · (intro w hSw; (try dsimp only at hSw); go_simp; (try with_reducible rfl))
  simp only [List.setIfInBounds_toArray, List.set_cons_zero, List.set_cons_succ]
  refine takeD (i := 8) (d := 70) (v := ?_) rfl rfl (by kernel_rfl) (by kernel_rfl) (by kernel_rfl) (fun _ _ _ h => h) (Or.inl ⟨by rfl, ?_⟩) hHeld ?_
  rotate_left 1
  · (intro w hSw; (try dsimp only at hSw); go_simp; (try with_reducible rfl))
  simp only [List.setIfInBounds_toArray, List.set_cons_zero, List.set_cons_succ]
  refine wpAnyH_ready (rs := [4]) (by kernel_rfl) (by simp) ?_
  refine AllReadyH.cons rfl (fun K hK => ?_) AllReadyH.nil
  go_simp
  go_wp2_with (go_at_call 91; refine (HW.out _ 9 hHeld (by omega)).mono ?_; rintro e w4 ⟨rfl, n4, rfl⟩)
  refine hK.out _ _ ?_ (fun hHeld => ?_)
  · exact HMA.out.drewN _
  clear hK K
  refine takeD (i := 10) (d := 72) (v := ?_) rfl rfl (by kernel_rfl) (by kernel_rfl) (by kernel_rfl) (fun _ _ _ h => h) (Or.inl ⟨by rfl, ?_⟩) hHeld ?_
  rotate_left 1
  · (intro w hSw; (try dsimp only at hSw); go_simp; (try with_reducible rfl))
  simp only [List.setIfInBounds_toArray, List.set_cons_zero, List.set_cons_succ]
  refine wpAnyH_ready (rs := [9]) (by kernel_rfl) (by simp) ?_
  refine AllReadyH.cons rfl (fun K hK => ?_) AllReadyH.nil
  go_simp
  go_wp2_with (go_at_call 91; refine (HW.out _ 11 hHeld (by omega)).mono ?_; rintro e w5 ⟨rfl, n5, rfl⟩)
  refine hK.out _ _ ?_ (fun hHeld => ?_)
  · exact HMA.out.drewN _
  clear hK K
  have G5 : (wa.drewN (1 + n4 + n5)).heap[w.heap.size]? = _ := HGA.out
  have R5 : (wa.drewN (1 + n4 + n5)).heap[w.heap.size + 1]? = _ := HRA.out
  have K5 := HKA.out.drewN (1 + n4 + n5)
  clear HGA HRA HMA HKA
  generalize wa.drewN (1 + n4 + n5) = wb at hHeld G5 R5 K5 ⊢
  have HS : Hid (SA.asrt = S.asrt ∧ SA.deas = S.deas) := Lib.hid (by rw [HSA.out]; exact ⟨rfl, rfl⟩)
  have cx : wb.cell? ⟨w.heap.size, 24, none⟩ = some (.int .u16 (SA.asrt : Nat)) := (cell_blk G5 24).trans rfl
  have fx : wb.frozen? ⟨w.heap.size, 24, none⟩ = false := froz_blk G5 24
  refine wpAnyH_ready (rs := [11]) (by kernel_rfl) (by simp) ?_
  refine AllReadyH.cons rfl (fun K hK => ?_) AllReadyH.nil
  go_simp
  refine hK.out _ _ ?_ (fun hHeld => ?_)
  · exact hHeld.setCell (.inr (Nat.le_refl _)) _
  clear hK K
  have G6 := heap_setCell (i := 24) (v := .int .u16 (w16 R 9 : Nat)) G5
  have R6 := heap_setCell_ne (a := ⟨w.heap.size, 24, none⟩) (v := .int .u16 (w16 R 9 : Nat)) R5 (by simp)
  have K6 := K5.setCell (p := ⟨w.heap.size, 24, none⟩) (.inl (by simp)) (.int .u16 (w16 R 9 : Nat))
  clear cx fx G5 R5 K5
  generalize wb.setCell ⟨w.heap.size, 24, none⟩ (.int .u16 (w16 R 9 : Nat)) = wc at G6 R6 K6 hHeld ⊢
  have cx : wc.cell? ⟨w.heap.size, 25, none⟩ = some (.int .u16 (SA.deas : Nat)) := (cell_blk G6 25).trans rfl
  have fx : wc.frozen? ⟨w.heap.size, 25, none⟩ = false := froz_blk G6 25
  refine takeD (i := 12) (d := 73) (v := ?_) rfl rfl (by kernel_rfl) (by kernel_rfl) (by kernel_rfl) (fun _ _ _ h => h) (Or.inl ⟨by rfl, ?_⟩) hHeld ?_
  rotate_left 1
  · (intro w hSw; (try dsimp only at hSw); go_simp; (try with_reducible rfl))
  simp only [List.setIfInBounds_toArray, List.set_cons_zero, List.set_cons_succ]
  refine wpAnyH_ready (rs := [13]) (by kernel_rfl) (by simp) ?_
  refine AllReadyH.cons rfl (fun K hK => ?_) AllReadyH.nil
  go_simp
  refine hK.out _ _ ?_ (fun hHeld => ?_)
  · exact hHeld.setCell (.inr (Nat.le_refl _)) _
  clear hK K
  have G7 := heap_setCell (i := 25) (v := .int .u16 (w16 R 11 : Nat)) G6
  have R7 := heap_setCell_ne (a := ⟨w.heap.size, 25, none⟩) (v := .int .u16 (w16 R 11 : Nat)) R6 (by simp)
  have K7 := K6.setCell (p := ⟨w.heap.size, 25, none⟩) (.inl (by simp)) (.int .u16 (w16 R 11 : Nat))
  clear cx fx G6 R6 K6
  generalize wc.setCell ⟨w.heap.size, 25, none⟩ (.int .u16 (w16 R 11 : Nat)) = wd at G7 R7 K7 hHeld ⊢
  refine wpAnyH_done (by kernel_rfl) ?_ _
  have HM7 := Lib.hid hHeld
  obtain ⟨S4, hS4⟩ : ∃ S4 : Sen, S4 = ana13 S CC R := ⟨_, rfl⟩
  have HG7 : Hid (wd.heap[w.heap.size]? = some (.cells S4.cells 32 (0, 0))) := Lib.hid (by rw [G7, hS4, HSA.out]; rfl)
  have HR7 := Lib.hid R7
  have HK7 := Lib.hid K7
  have hp4 : S4.conv.pts.oneCell' = true := by rw [hS4]; exact hpc
  have HS4 := Lib.hid hS4
  clear hHeld G7 R7 K7 hS4
  go_wp2_with (first
    | (refine wpList_load_sen rfl (.tmp 2) rfl (SenBox.mk HG7.out) (by rfl) ?_)
    | (refine wpList_store_row (cs := S4.cells) rfl 32 (.tmp 4) (.tmp 74) rfl HR7.out (by rfl) (by rfl) rfl (Sen.infoS _) (Sen.one _ hp4) ?_; intro wz Rz Mz))
  have HM9 := HM7.out.comp Mz (fun k hk => by simp at hk; exact .inr (by omega))
  have OPZ := (HO5.out.mods (HK7.out.comp Mz (fun k hk => by simp at hk; exact .inl (by simp; omega))) (by simp; omega))
  refine bodyPost_ret (results_cell_row2 rfl _ _ (w.heap.size + 1) _ _ _ _ rfl Rz Try.underlying32 rfl (Sen.infoS _)) rfl ?_
  show RestRes w S B _ wz
  unfold RestRes
  rw [if_pos HR.out, HRP.out]
  exact ⟨pv, by rw [HRS.out, ← HCC.out, ← HS4.out]; rfl, OPZ.down (by simp; omega), HM9⟩
theorem rest_ok (w : World) (S : Sen) (v : Value) (B : List Int) (hv : Rd w v (u8s B)) (hb : Bytes B) (hp : S.conv.pts.oneCell' = true) :
    Calls Try.prog 58 #[.agg S.cells, v] w fun e w' => RestRes w S B e w' := by
  cases hd : S.disc with
  | true =>
    by_cases hl : B.length = 6
    · exact rest_disc w S v B hv hb hp hd hl
    · exact rest_dcut w S v B hv hb hp hd hl
  | false =>
    by_cases hl : errC B = 0
    · by_cases hc : (B.drop (lenC B).1.toNat).length = 13
      · exact rest_ana w S v B hv hb hd hl hc
      · exact rest_acut w S v B hv hb hd hl hc
    · exact rest_aerr w S v B hv hb hp hd hl
end Go.Proofs.Ytijjkonephjodaa

namespace Go.Proofs.Ytijjkonephjodaa
open Go.RowKit

set_option maxRecDepth 100000 in
set_option maxHeartbeats 4000000 in
theorem senDec_err (w : World) (v : Value) (A : List Int) (hv : Rd w v (u8s A)) (hb : Bytes A) (hl : A.length ≤ 100000) (hc : A.length < 9 ∨ sum8 A ≠ 0) :
    Calls Try.prog 23 #[v] w fun e w' => SDecRes w A e w' := by
  have HV := Lib.hid hv
  have HB := Lib.hid hb
  have HL := Lib.hid hl
  have HE := Lib.hid (show ∀ W, errS A ≠ 0 → Mods [] w W → SDecRes w A (.returned (.tuple #[.agg zS.cells, .int .i64 (errS A)])) W from fun W h M => by unfold SDecRes; rw [if_neg h]; exact ⟨rfl, M⟩)
  have HU := Lib.hid (show errS A = if A.length < 9 then 4 else if sum8 A ≠ 0 then 5 else errX A.dropLast from rfl)
  obtain ⟨ad, cap, rfl, h1, h2, -⟩ := hv.u8
  have h3 : cap ≤ 9223372036854775807 := h2
  clear hv hb h2 hl
  have R0 := Lib.hid (heap_alloc_new w (.cells zS.cells 32))
  have M0 := Lib.hid ((Mods.refl (S := []) (w := w)).alloc (.cells zS.cells 32))
  by_cases h9 : A.length < 9
  · have HR := Lib.hid (HU.out.trans (if_pos h9))
    have d1 : decide ((A.length : Int) < 9) = true := decide_eq_true (by omega)
    clear h9 hc
    go_enter Try.func23, Try.ntmps23
    go_wp2_with (refine wpList_store_row (cs := zS.cells) rfl 32 (.tmp 2) (.tmp 10) rfl R0.out (by rfl) (by rfl) rfl (Sen.infoS _) zS_one ?_; intro wz Rz Mz)
    have HMX := M0.out.comp Mz (fun k hk => by simp at hk; exact .inr (by omega))
    refine bodyPost_ret (results_cell_row2 rfl _ _ w.heap.size _ _ _ _ rfl Rz Try.underlying32 rfl (Sen.infoS _)) rfl ?_
    have := HE.out wz (by rw [HR.out]; decide) HMX
    rw [HR.out] at this
    exact this
  · have hs : sum8 A ≠ 0 := by rcases hc with h | h; exact absurd h h9; exact h
    have HR := Lib.hid ((HU.out.trans (if_neg h9)).trans (if_pos hs))
    have HS := Lib.hid hs
    have HN := Lib.hid (show A ≠ [] from fun h => h9 (by rw [h]; decide))
    have d1 : decide ((A.length : Int) < 9) = false := decide_eq_false (by omega)
    clear h9 hc hs
    go_enter Try.func23, Try.ntmps23
    go_wp2_with fail
    refine (open8_ok _ _ A (HV.out.mods0 M0.out) HB.out HL.out).mono ?_
    rintro e w1 hx
    unfold OpenRes at hx
    rw [if_neg HN.out, if_neg HS.out] at hx
    obtain ⟨rfl, M1⟩ := hx
    have R1 := Lib.hid (M1.heap R0.out (by simp))
    have HM1 := Lib.hid (M0.out.trans M1)
    clear M1
    go_wp2_with (refine wpList_store_row (cs := zS.cells) rfl 32 (.tmp 2) (.tmp 18) rfl R1.out (by rfl) (by rfl) rfl (Sen.infoS _) zS_one ?_; intro wz Rz Mz)
    have HMX := HM1.out.comp Mz (fun k hk => by simp at hk; exact .inr (by omega))
    refine bodyPost_ret (results_cell_row2 rfl _ _ w.heap.size _ _ _ _ rfl Rz Try.underlying32 rfl (Sen.infoS _)) rfl ?_
    have := HE.out wz (by rw [HR.out]; decide) HMX
    rw [HR.out] at this
    exact this
set_option maxRecDepth 100000 in
set_option maxHeartbeats 4000000 in
theorem senDec_form (w : World) (v : Value) (A : List Int) (hv : Rd w v (u8s A)) (hb : Bytes A) (hl : A.length ≤ 100000) (h9 : ¬ A.length < 9) (hs : sum8 A = 0) (hc : A.dropLast.getD 0 0 ≠ 1 ∨ 32 ≤ A.dropLast.getD 6 0 ∨ A.dropLast.length < 8 + b8 A.dropLast 7) :
    Calls Try.prog 23 #[v] w fun e w' => SDecRes w A e w' := by
  have HV := Lib.hid hv
  have HB := Lib.hid hb
  have HL := Lib.hid hl
  have HE := Lib.hid (show ∀ W, errS A ≠ 0 → Mods [] w W → SDecRes w A (.returned (.tuple #[.agg zS.cells, .int .i64 (errS A)])) W from fun W h M => by unfold SDecRes; rw [if_neg h]; exact ⟨rfl, M⟩)
  have HU := Lib.hid (show errS A = if A.length < 9 then 4 else if sum8 A ≠ 0 then 5 else errX A.dropLast from rfl)
  obtain ⟨ad, cap, rfl, h1, h2, -⟩ := hv.u8
  have h3 : cap ≤ 9223372036854775807 := h2
  clear hv hb h2 hl
  have R0 := Lib.hid (heap_alloc_new w (.cells zS.cells 32))
  have M0 := Lib.hid ((Mods.refl (S := []) (w := w)).alloc (.cells zS.cells 32))
  have HF := Lib.hid hc
  clear hc
  -- hs : sum8 A = 0, h9 : ¬ A.length < 9
  have HRX := Lib.hid (show errS A = errX A.dropLast from (HU.out.trans (if_neg h9)).trans (if_neg (fun h => h hs)))
  have HS := Lib.hid hs
  have HN := Lib.hid (show A ≠ [] from fun h => h9 (by rw [h]; decide))
  have d1 : decide ((A.length : Int) < 9) = false := decide_eq_false (by omega)
  have hXl : A.dropLast.length = A.length - 1 := List.length_dropLast
  have hXb : Bytes A.dropLast := by rw [List.dropLast_eq_take]; exact HB.out.take _
  have hSD : ∀ e W, SDecRes w A e W = SDecRes w A e W := fun _ _ => rfl
  clear hSD
  have HSU : Hid (∀ e W, errX A.dropLast = 0 → (∃ pv, e = .returned (.tuple #[.agg (senX A.dropLast pv).cells, .int .i64 0]) ∧ OwnPts W w.heap.size pv (ptsX A.dropLast) ∧ Mods [] w W) → SDecRes w A e W) := Lib.hid (fun e W h0 h => by unfold SDecRes; rw [HRX.out, if_pos h0]; exact h)
  have HSE : Hid (∀ W, errX A.dropLast ≠ 0 → Mods [] w W → SDecRes w A (.returned (.tuple #[.agg zS.cells, .int .i64 (errX A.dropLast)])) W) := Lib.hid (fun W h M => by have := HE.out W (by rw [HRX.out]; exact h) M; rw [HRX.out] at this; exact this)
  have hX8 : 8 ≤ A.dropLast.length := by omega
  have hXc : A.dropLast.length ≤ 100000 := by have := HL.out; omega
  have HOP : Hid (∀ W, Mods [] w W → Calls Try.prog 57 #[.slice ad A.length cap] W (fun e w' => ∃ g c, e = .returned (.tuple #[.slice (some ⟨g, 0, none⟩) A.dropLast.length c, .int .i64 0]) ∧ OwnB w' W.heap.size (.slice (some ⟨g, 0, none⟩) A.dropLast.length c) A.dropLast ∧ Mods [] W w')) := Lib.hid (fun W M => by
    refine (open8_ok _ _ A (HV.out.mods0 M) HB.out HL.out).mono ?_
    rintro e w1 hx
    unfold OpenRes at hx
    rw [if_neg HN.out, if_pos HS.out] at hx
    obtain ⟨v', rfl, O, M1⟩ := hx
    obtain ⟨g, c, cur, hv', _⟩ := owns_form O (by rw [u8s_length]; omega)
    rw [u8s_length] at hv'
    subst hv'
    exact ⟨g, c, rfl, O, M1⟩)
  clear hs h9 hXl HRX HS HN HV HE HU HL HB
  generalize A.dropLast = X at *
  go_enter Try.func23, Try.ntmps23
  go_wp2_with fail
  refine (HOP.out _ M0.out).mono ?_
  rintro e w1 ⟨g, c, rfl, O1, M1⟩
  have hg0 : w.heap.size + 1 ≤ g := by have hgl := (O1.lt g rfl).1; (simpa using hgl)
  have HM1 := Lib.hid (M0.out.trans M1)
  have R1 := Lib.hid (M1.heap R0.out (by simp))
  have HO1 := Lib.hid O1
  skip
  have HCB : Hid (∀ W, Mods [] w1 W → ∀ i, i < X.length → W.cell? ⟨g, i, none⟩ = some (.int .u8 (b8 X i : Nat))) := Lib.hid (fun W M i hi => by
    obtain ⟨_, _, he, _, _, hc⟩ := O1.rd.u8
    injection he with he1 _ _
    obtain ⟨b, o, h, hx⟩ := hc i hi
    rw [← he1] at h
    cases h
    rw [Nat.zero_add, u8_getD hXb] at hx
    exact M.cell hx (by simp))
  have hc1 : X.length ≤ c ∧ c ≤ 9223372036854775807 := by
    obtain ⟨_, _, he, h1, h2, hc⟩ := O1.rd.u8
    injection he with _ _ he3
    subst he3
    exact ⟨h1, h2⟩
  obtain ⟨hc1, hc2⟩ := hc1
  have HXB := Lib.hid hXb
  clear O1 M1 M0 R0 HOP hXb
  have i0 : (0 : Int) < (X.length : Int) := by omega
  have i1 : (1 : Int) < (X.length : Int) := by omega
  have i2 : (2 : Int) < (X.length : Int) := by omega
  have i3 : (3 : Int) < (X.length : Int) := by omega
  have i4 : (4 : Int) < (X.length : Int) := by omega
  have i5 : (5 : Int) < (X.length : Int) := by omega
  have i6 : (6 : Int) < (X.length : Int) := by omega
  have i7 : (7 : Int) < (X.length : Int) := by omega
  have x0 := HCB.out w1 Mods.refl 0 (by omega)
  have x6 := HCB.out w1 Mods.refl 6 (by omega)
  have x7 := HCB.out w1 Mods.refl 7 (by omega)
  have HX0 := Lib.hid (u8_getD HXB.out 0)
  have HX6 := Lib.hid (u8_getD HXB.out 6)
  have b7 := b8_lt HXB.out 7
  have b6 := b8_lt HXB.out 6
  have hc := HF.out
  rw [HX0.out, HX6.out] at hc
  by_cases hf : (b8 X 0 : Int) ≠ 1 ∨ (32 : Int) ≤ (b8 X 6 : Int)
  · have HR := Lib.hid (show errX X = 6 by unfold errX; rw [HX0.out, HX6.out, if_pos hf])
    clear hc
    by_cases hf0 : (b8 X 0 : Int) = 1
    · have hf6 : (32 : Int) ≤ (b8 X 6 : Int) := by omega
      have q0 : ((b8 X 0 : Int) != 1) = false := by simpa using hf0
      have q6 : decide ((b8 X 6 : Int) ≥ 32) = true := decide_eq_true hf6
      clear hf hf0 HF
      go_wp2_with (refine wpList_store_row (cs := zS.cells) rfl 32 (.tmp 2) (.tmp 30) rfl R1.out (by rfl) (by rfl) rfl (Sen.infoS _) zS_one ?_; intro wz Rz Mz)
      have HMX := HM1.out.comp Mz (fun k hk => by simp at hk; exact .inr (by omega))
      refine bodyPost_ret (results_cell_row2 rfl _ _ w.heap.size _ _ _ _ rfl Rz Try.underlying32 rfl (Sen.infoS _)) rfl ?_
      have := HSE.out wz (by rw [HR.out]; decide) HMX
      rw [HR.out] at this
      exact this
    · have q0 : ((b8 X 0 : Int) != 1) = true := by simpa using hf0
      clear hf hf0 HF
      go_wp2_with (refine wpList_store_row (cs := zS.cells) rfl 32 (.tmp 2) (.tmp 30) rfl R1.out (by rfl) (by rfl) rfl (Sen.infoS _) zS_one ?_; intro wz Rz Mz)
      have HMX := HM1.out.comp Mz (fun k hk => by simp at hk; exact .inr (by omega))
      refine bodyPost_ret (results_cell_row2 rfl _ _ w.heap.size _ _ _ _ rfl Rz Try.underlying32 rfl (Sen.infoS _)) rfl ?_
      have := HSE.out wz (by rw [HR.out]; decide) HMX
      rw [HR.out] at this
      exact this
  · have hl8 : X.length < 8 + b8 X 7 := by omega
    have HR := Lib.hid (show errX X = 4 by unfold errX; rw [HX0.out, HX6.out, if_neg hf, if_pos hl8])
    have q0 : ((b8 X 0 : Int) != 1) = false := by simp; omega
    have q6 : decide ((b8 X 6 : Int) ≥ 32) = false := decide_eq_false (by omega)
    have ew : IntKind.i64.wrap (b8 X 7 : Int) = (b8 X 7 : Int) := IntWalk.i64_in _ (by omega)
    have q8 : decide ((X.length : Int) < 8 + (b8 X 7 : Int)) = true := decide_eq_true (by omega)
    clear hc hf HF hl8
    go_wp2_with (refine wpList_store_row (cs := zS.cells) rfl 32 (.tmp 2) (.tmp 40) rfl R1.out (by rfl) (by rfl) rfl (Sen.infoS _) zS_one ?_; intro wz Rz Mz)
    have HMX := HM1.out.comp Mz (fun k hk => by simp at hk; exact .inr (by omega))
    refine bodyPost_ret (results_cell_row2 rfl _ _ w.heap.size _ _ _ _ rfl Rz Try.underlying32 rfl (Sen.infoS _)) rfl ?_
    have := HSE.out wz (by rw [HR.out]; decide) HMX
    rw [HR.out] at this
    exact this
theorem RestRes.val {w w' : World} {S : Sen} {B : List Int} {e : Ending} (hp : S.conv.pts.oneCell' = true) (h : RestRes w S B e w') : ∃ S4 : Sen, e = .returned (.tuple #[.agg S4.cells, .int .i64 (restErr S.disc B)]) ∧ S4.conv.pts.oneCell' = true ∧ (restErr S.disc B = 0 → ∃ pv, S4 = restS S B pv ∧ OwnPts w' w.heap.size pv (restP S.disc B)) ∧ Mods [] w w' := by
  unfold RestRes at h
  by_cases h0 : restErr S.disc B = 0
  · rw [if_pos h0] at h
    obtain ⟨pv, rfl, O, M⟩ := h
    refine ⟨restS S B pv, by rw [h0], ?_, fun _ => ⟨pv, rfl, O⟩, M⟩
    unfold restS
    split
    · exact hp
    · show (decC B pv).pts.oneCell' = true
      have : (decC B pv).pts = pv := by unfold decC; split <;> rfl
      rw [this]
      exact O.rd.one
  · rw [if_neg h0] at h
    obtain ⟨⟨S', h1, rfl⟩, M⟩ := h
    exact ⟨S', rfl, h1, fun h => absurd h h0, M⟩
set_option maxRecDepth 100000 in
set_option maxHeartbeats 8000000 in
theorem senDec_main (w : World) (v : Value) (A : List Int) (hv : Rd w v (u8s A)) (hb : Bytes A) (hl : A.length ≤ 100000) (h9 : ¬ A.length < 9) (hs : sum8 A = 0) (hc : A.dropLast.getD 0 0 = 1 ∧ A.dropLast.getD 6 0 < 32 ∧ 8 + b8 A.dropLast 7 ≤ A.dropLast.length) :
    Calls Try.prog 23 #[v] w fun e w' => SDecRes w A e w' := by
  have HV := Lib.hid hv
  have HB := Lib.hid hb
  have HL := Lib.hid hl
  have HE := Lib.hid (show ∀ W, errS A ≠ 0 → Mods [] w W → SDecRes w A (.returned (.tuple #[.agg zS.cells, .int .i64 (errS A)])) W from fun W h M => by unfold SDecRes; rw [if_neg h]; exact ⟨rfl, M⟩)
  have HU := Lib.hid (show errS A = if A.length < 9 then 4 else if sum8 A ≠ 0 then 5 else errX A.dropLast from rfl)
  obtain ⟨ad, cap, rfl, h1, h2, -⟩ := hv.u8
  have h3 : cap ≤ 9223372036854775807 := h2
  clear hv hb h2 hl
  have R0 := Lib.hid (heap_alloc_new w (.cells zS.cells 32))
  have M0 := Lib.hid ((Mods.refl (S := []) (w := w)).alloc (.cells zS.cells 32))
  have HF := Lib.hid hc
  clear hc
  -- hs : sum8 A = 0, h9 : ¬ A.length < 9
  have HRX := Lib.hid (show errS A = errX A.dropLast from (HU.out.trans (if_neg h9)).trans (if_neg (fun h => h hs)))
  have HS := Lib.hid hs
  have HN := Lib.hid (show A ≠ [] from fun h => h9 (by rw [h]; decide))
  have d1 : decide ((A.length : Int) < 9) = false := decide_eq_false (by omega)
  have hXl : A.dropLast.length = A.length - 1 := List.length_dropLast
  have hXb : Bytes A.dropLast := by rw [List.dropLast_eq_take]; exact HB.out.take _
  have hSD : ∀ e W, SDecRes w A e W = SDecRes w A e W := fun _ _ => rfl
  clear hSD
  have HSU : Hid (∀ e W, errX A.dropLast = 0 → (∃ pv, e = .returned (.tuple #[.agg (senX A.dropLast pv).cells, .int .i64 0]) ∧ OwnPts W w.heap.size pv (ptsX A.dropLast) ∧ Mods [] w W) → SDecRes w A e W) := Lib.hid (fun e W h0 h => by unfold SDecRes; rw [HRX.out, if_pos h0]; exact h)
  have HSE : Hid (∀ W, errX A.dropLast ≠ 0 → Mods [] w W → SDecRes w A (.returned (.tuple #[.agg zS.cells, .int .i64 (errX A.dropLast)])) W) := Lib.hid (fun W h M => by have := HE.out W (by rw [HRX.out]; exact h) M; rw [HRX.out] at this; exact this)
  have hX8 : 8 ≤ A.dropLast.length := by omega
  have hXc : A.dropLast.length ≤ 100000 := by have := HL.out; omega
  have HOP : Hid (∀ W, Mods [] w W → Calls Try.prog 57 #[.slice ad A.length cap] W (fun e w' => ∃ g c, e = .returned (.tuple #[.slice (some ⟨g, 0, none⟩) A.dropLast.length c, .int .i64 0]) ∧ OwnB w' W.heap.size (.slice (some ⟨g, 0, none⟩) A.dropLast.length c) A.dropLast ∧ Mods [] W w')) := Lib.hid (fun W M => by
    refine (open8_ok _ _ A (HV.out.mods0 M) HB.out HL.out).mono ?_
    rintro e w1 hx
    unfold OpenRes at hx
    rw [if_neg HN.out, if_pos HS.out] at hx
    obtain ⟨v', rfl, O, M1⟩ := hx
    obtain ⟨g, c, cur, hv', _⟩ := owns_form O (by rw [u8s_length]; omega)
    rw [u8s_length] at hv'
    subst hv'
    exact ⟨g, c, rfl, O, M1⟩)
  clear hs h9 hXl HRX HS HN HV HE HU HL HB
  generalize A.dropLast = X at *
  go_enter Try.func23, Try.ntmps23
  go_wp2_with fail
  refine (HOP.out _ M0.out).mono ?_
  rintro e w1 ⟨g, c, rfl, O1, M1⟩
  have hg0 : w.heap.size + 1 ≤ g := by have hgl := (O1.lt g rfl).1; (simpa using hgl)
  have HM1 := Lib.hid (M0.out.trans M1)
  have R1 := Lib.hid (M1.heap R0.out (by simp))
  have HO1 := Lib.hid O1
  skip
  have HCB : Hid (∀ W, Mods [] w1 W → ∀ i, i < X.length → W.cell? ⟨g, i, none⟩ = some (.int .u8 (b8 X i : Nat))) := Lib.hid (fun W M i hi => by
    obtain ⟨_, _, he, _, _, hc⟩ := O1.rd.u8
    injection he with he1 _ _
    obtain ⟨b, o, h, hx⟩ := hc i hi
    rw [← he1] at h
    cases h
    rw [Nat.zero_add, u8_getD hXb] at hx
    exact M.cell hx (by simp))
  have hc1 : X.length ≤ c ∧ c ≤ 9223372036854775807 := by
    obtain ⟨_, _, he, h1, h2, hc⟩ := O1.rd.u8
    injection he with _ _ he3
    subst he3
    exact ⟨h1, h2⟩
  obtain ⟨hc1, hc2⟩ := hc1
  have HXB := Lib.hid hXb
  clear O1 M1 M0 R0 HOP hXb
  have i0 : (0 : Int) < (X.length : Int) := by omega
  have i1 : (1 : Int) < (X.length : Int) := by omega
  have i2 : (2 : Int) < (X.length : Int) := by omega
  have i3 : (3 : Int) < (X.length : Int) := by omega
  have i4 : (4 : Int) < (X.length : Int) := by omega
  have i5 : (5 : Int) < (X.length : Int) := by omega
  have i6 : (6 : Int) < (X.length : Int) := by omega
  have i7 : (7 : Int) < (X.length : Int) := by omega
  have x0 := HCB.out w1 Mods.refl 0 (by omega)
  have x6 := HCB.out w1 Mods.refl 6 (by omega)
  have x7 := HCB.out w1 Mods.refl 7 (by omega)
  have HX0 := Lib.hid (u8_getD HXB.out 0)
  have HX6 := Lib.hid (u8_getD HXB.out 6)
  have b7 := b8_lt HXB.out 7
  have b6 := b8_lt HXB.out 6
  obtain ⟨f0, f6, f7⟩ := HF.out
  have HXX := Lib.hid (show errX X = if restErr (dsX X) (rsX X) ≠ 0 then restErr (dsX X) (rsX X) else if validB (senX X (.slice none 0 0)) (ptsX X) then 0 else 1 by unfold errX; rw [if_neg (by omega), if_neg (by omega)])
  have HH6 : Hid (X.getD 6 0 / 4 = X.getD 6 0 / 4) := Lib.hid rfl
  rw [HX0.out] at f0
  rw [HX6.out] at f6
  have q0 : ((b8 X 0 : Int) != 1) = false := by simpa using f0
  have q6 : decide ((b8 X 6 : Int) ≥ 32) = false := decide_eq_false (by omega)
  have ew : IntKind.i64.wrap (b8 X 7 : Int) = (b8 X 7 : Int) := IntWalk.i64_in _ (by omega)
  have q8 : decide ((X.length : Int) < 8 + (b8 X 7 : Int)) = false := decide_eq_false (by omega)
  clear f0 HF HX0 HH6
  go_wp2_with fail
  try dsimp only [Act.put]
  have z0 : (0 : Int) ≤ 8 + (b8 X 7 : Int) := by omega
  have z1 : (8 : Int) ≤ 8 + (b8 X 7 : Int) := by omega
  have z2 : 8 + (b8 X 7 : Int) ≤ (c : Int) := by omega
  have z3 : (8 + (b8 X 7 : Int)).toNat = 8 + b8 X 7 := by omega
  have z4 : 8 + (b8 X 7 : Int) ≤ (X.length : Int) := by omega
  obtain ⟨N, hN⟩ : ∃ N : Nat, N = b8 X 7 := ⟨_, rfl⟩
  obtain ⟨nm, hnm⟩ : ∃ nm, nm = nmX X := ⟨_, rfl⟩
  obtain ⟨ad8, had8⟩ : ∃ ad8 : Option Addr, ad8 = if c = 8 then some ⟨g, 0, none⟩ else some ⟨g, 8, none⟩ := ⟨_, rfl⟩
  have HSL : Hid (∀ W, Mods [] w1 W → (Instr.sliceAt 33 (.slice (some ⟨g, 0, none⟩) X.length c) (some (.int .i64 8)) (some (.int .i64 (8 + (b8 X 7 : Int)))) none).run Try.prog W = .ok (.slice ad8 (b8 X 7) (c - 8)) W) := Lib.hid (fun W M => by
    rw [had8]
    go_simp
    try (split <;> simp_all))
  have HCV : Hid (∀ W, Mods [] w1 W → (convert 33 9 (.slice ad8 (b8 X 7) (c - 8))).run Try.prog W = .ok (.string (nmX X)) W) := Lib.hid (fun W M => by
    have hr := (HO1.out.rd.mods0 M)
    have hR : ∀ b o, ad8 = some ⟨b, o, none⟩ → ∀ i, i < b8 X 7 → W.cell? ⟨b, o + i, none⟩ = some (.int .u8 (((X.drop 8).take (b8 X 7)).getD i 0)) := by
      intro b o h i hi
      have h5 : W.cell? ⟨g, 8 + i, none⟩ = _ := HCB.out W M (8 + i) (by omega)
      rw [had8] at h
      have hc8 : ¬ c = 8 := by omega
      rw [if_neg hc8] at h
      cases h
      rw [h5, b8_cast HXB.out, List.getD_eq_getElem?_getD, List.getD_eq_getElem?_getD, List.getElem?_take, if_pos hi, List.getElem?_drop]
    have hN : (nmX X) = strOfNums ((X.drop 8).take (b8 X 7)) := by unfold nmX; exact strOf_nums _
    rw [hN]
    obtain ⟨b, o, h⟩ : ∃ b o, ad8 = some ⟨b, o, none⟩ := by rw [had8]; split; exact ⟨_, _, rfl⟩; exact ⟨_, _, rfl⟩
    have h6 := hR b o h
    rw [h]
    exact run_convert_bytes_arg (P := Try.prog) W _ _ Try.underlying33 Try.underlying5 b o _ _ _ (by simp; omega) h6 _ Try.underlying9)
  have hA1 := and1_u8 (b8 X 6) b6
  have hA2 := and2_u8 (b8 X 6) b6
  have ew8 : IntKind.u8.wrap ((b8 X 6 : Int) / 4) = (b8 X 6 : Int) / 4 := by rw [IntKind.wrap_u8]; omega
  have ew6 : IntKind.i64.wrap ((b8 X 6 : Int) / 4) = (b8 X 6 : Int) / 4 := IntWalk.i64_in _ (by omega)
  clear hN hnm N nm x0 x6 x7 q0 q6 q8 ew had8
  have eHD : Hid (hdrS X (nmX X) = ⟨b8 X 1, b8 X 2, b8 X 3, nmX X, b8 X 4, b8 X 5, decide ((b8 X 6 : Int) % 2 = 1), zC, 0, 0, 0, 0, 0, 0, 0, 0, 0, 0, 0, 0, decide ((b8 X 6 : Int) / 2 % 2 = 1), (b8 X 6 : Int) / 4⟩) := Lib.hid (by unfold hdrS; rw [HX6.out])
  refine heldStart (S := fun W => Mods [] w1 W) 38 rfl (by kernel_rfl) (Mods.refl.drew) (fun hHeld => ?_)
  refine takeD (i := 0) (d := 41) (v := ?_) rfl rfl (by kernel_rfl) (by kernel_rfl) (by kernel_rfl) (fun _ _ _ h => h) (Or.inl ⟨by rfl, ?_⟩) hHeld ?_
  rotate_left 1
  · (intro w hSw; (try dsimp only at hSw); go_simp; (try with_reducible rfl))
  simp only [List.setIfInBounds_toArray, List.set_cons_zero, List.set_cons_succ]
  refine takeD (i := 1) (d := 42) (v := ?_) rfl rfl (by kernel_rfl) (by kernel_rfl) (by kernel_rfl) (fun _ _ _ h => h) (Or.inl ⟨by rfl, ?_⟩) hHeld ?_
  rotate_left 1
  · (intro w hSw; (try dsimp only at hSw); go_simp; (try with_reducible rfl))
  simp only [List.setIfInBounds_toArray, List.set_cons_zero, List.set_cons_succ]
  refine takeD (i := 2) (d := 43) (v := .int .u8 (b8 X 1 : Nat)) rfl rfl (by kernel_rfl) (by kernel_rfl) (by kernel_rfl) (fun _ _ _ h => h) (Or.inl ⟨by rfl, fun w hSw => ?_⟩) hHeld ?_
  · have cst := HCB.out w hSw 1 (by omega)
    go_simp
  simp only [List.setIfInBounds_toArray, List.set_cons_zero, List.set_cons_succ]
  refine takeD (i := 3) (d := 44) (v := ?_) rfl rfl (by kernel_rfl) (by kernel_rfl) (by kernel_rfl) (fun _ _ _ h => h) (Or.inl ⟨by rfl, ?_⟩) hHeld ?_
  rotate_left 1
  · (intro w hSw; (try dsimp only at hSw); go_simp; (try with_reducible rfl))
  simp only [List.setIfInBounds_toArray, List.set_cons_zero, List.set_cons_succ]
  refine takeD (i := 4) (d := 45) (v := ?_) rfl rfl (by kernel_rfl) (by kernel_rfl) (by kernel_rfl) (fun _ _ _ h => h) (Or.inl ⟨by rfl, ?_⟩) hHeld ?_
  rotate_left 1
  · (intro w hSw; (try dsimp only at hSw); go_simp; (try with_reducible rfl))
  simp only [List.setIfInBounds_toArray, List.set_cons_zero, List.set_cons_succ]
  refine takeD (i := 5) (d := 46) (v := .int .u8 (b8 X 2 : Nat)) rfl rfl (by kernel_rfl) (by kernel_rfl) (by kernel_rfl) (fun _ _ _ h => h) (Or.inl ⟨by rfl, fun w hSw => ?_⟩) hHeld ?_
  · have cst := HCB.out w hSw 2 (by omega)
    go_simp
  simp only [List.setIfInBounds_toArray, List.set_cons_zero, List.set_cons_succ]
  refine takeD (i := 6) (d := 47) (v := ?_) rfl rfl (by kernel_rfl) (by kernel_rfl) (by kernel_rfl) (fun _ _ _ h => h) (Or.inl ⟨by rfl, ?_⟩) hHeld ?_
  rotate_left 1
  · (intro w hSw; (try dsimp only at hSw); go_simp; (try with_reducible rfl))
  simp only [List.setIfInBounds_toArray, List.set_cons_zero, List.set_cons_succ]
  refine takeD (i := 7) (d := 48) (v := ?_) rfl rfl (by kernel_rfl) (by kernel_rfl) (by kernel_rfl) (fun _ _ _ h => h) (Or.inl ⟨by rfl, ?_⟩) hHeld ?_
  rotate_left 1
  · (intro w hSw; (try dsimp only at hSw); go_simp; (try with_reducible rfl))
  simp only [List.setIfInBounds_toArray, List.set_cons_zero, List.set_cons_succ]
  refine takeD (i := 8) (d := 49) (v := .int .u8 (b8 X 3 : Nat)) rfl rfl (by kernel_rfl) (by kernel_rfl) (by kernel_rfl) (fun _ _ _ h => h) (Or.inl ⟨by rfl, fun w hSw => ?_⟩) hHeld ?_
  · have cst := HCB.out w hSw 3 (by omega)
    go_simp
  simp only [List.setIfInBounds_toArray, List.set_cons_zero, List.set_cons_succ]
  refine takeD (i := 9) (d := 50) (v := ?_) rfl rfl (by kernel_rfl) (by kernel_rfl) (by kernel_rfl) (fun _ _ _ h => h) (Or.inl ⟨by rfl, ?_⟩) hHeld ?_
  rotate_left 1
  · (intro w hSw; (try dsimp only at hSw); go_simp; (try with_reducible rfl))
  simp only [List.setIfInBounds_toArray, List.set_cons_zero, List.set_cons_succ]
  refine takeD (i := 10) (d := 51) (v := ?_) rfl rfl (by kernel_rfl) (by kernel_rfl) (by kernel_rfl) (fun _ _ _ h => h) (Or.inl ⟨by rfl, ?_⟩) hHeld ?_
  rotate_left 1
  · (intro w hSw; (try dsimp only at hSw); go_simp; (try with_reducible rfl))
  simp only [List.setIfInBounds_toArray, List.set_cons_zero, List.set_cons_succ]
  refine takeD (i := 11) (d := 52) (v := .slice ad8 (b8 X 7) (c - 8)) rfl rfl (by kernel_rfl) (by kernel_rfl) (by kernel_rfl) (fun _ _ _ h => h) (Or.inl ⟨by rfl, fun w hSw => ?_⟩) hHeld ?_
  · have cst := HSL.out w hSw
    go_simp
  simp only [List.setIfInBounds_toArray, List.set_cons_zero, List.set_cons_succ]
  refine takeD (i := 12) (d := 53) (v := .string (nmX X)) rfl rfl (by kernel_rfl) (by kernel_rfl) (by kernel_rfl) (fun _ _ _ h => h) (Or.inl ⟨by rfl, fun w hSw => ?_⟩) hHeld ?_
  · have cst := HCV.out w hSw
    go_simp
  simp only [List.setIfInBounds_toArray, List.set_cons_zero, List.set_cons_succ]
  refine takeD (i := 13) (d := 54) (v := ?_) rfl rfl (by kernel_rfl) (by kernel_rfl) (by kernel_rfl) (fun _ _ _ h => h) (Or.inl ⟨by rfl, ?_⟩) hHeld ?_
  rotate_left 1
  · (intro w hSw; (try dsimp only at hSw); go_simp; (try with_reducible rfl))
  simp only [List.setIfInBounds_toArray, List.set_cons_zero, List.set_cons_succ]
  refine takeD (i := 14) (d := 55) (v := ?_) rfl rfl (by kernel_rfl) (by kernel_rfl) (by kernel_rfl) (fun _ _ _ h => h) (Or.inl ⟨by rfl, ?_⟩) hHeld ?_
  rotate_left 1
  · (intro w hSw; (try dsimp only at hSw); go_simp; (try with_reducible rfl))
  simp only [List.setIfInBounds_toArray, List.set_cons_zero, List.set_cons_succ]
  refine takeD (i := 15) (d := 56) (v := .int .u8 (b8 X 4 : Nat)) rfl rfl (by kernel_rfl) (by kernel_rfl) (by kernel_rfl) (fun _ _ _ h => h) (Or.inl ⟨by rfl, fun w hSw => ?_⟩) hHeld ?_
  · have cst := HCB.out w hSw 4 (by omega)
    go_simp
  simp only [List.setIfInBounds_toArray, List.set_cons_zero, List.set_cons_succ]
  refine takeD (i := 16) (d := 57) (v := ?_) rfl rfl (by kernel_rfl) (by kernel_rfl) (by kernel_rfl) (fun _ _ _ h => h) (Or.inl ⟨by rfl, ?_⟩) hHeld ?_
  rotate_left 1
  · (intro w hSw; (try dsimp only at hSw); go_simp; (try with_reducible rfl))
  simp only [List.setIfInBounds_toArray, List.set_cons_zero, List.set_cons_succ]
  refine takeD (i := 17) (d := 58) (v := ?_) rfl rfl (by kernel_rfl) (by kernel_rfl) (by kernel_rfl) (fun _ _ _ h => h) (Or.inl ⟨by rfl, ?_⟩) hHeld ?_
  rotate_left 1
  · (intro w hSw; (try dsimp only at hSw); go_simp; (try with_reducible rfl))
  simp only [List.setIfInBounds_toArray, List.set_cons_zero, List.set_cons_succ]
  refine takeD (i := 18) (d := 59) (v := .int .u8 (b8 X 5 : Nat)) rfl rfl (by kernel_rfl) (by kernel_rfl) (by kernel_rfl) (fun _ _ _ h => h) (Or.inl ⟨by rfl, fun w hSw => ?_⟩) hHeld ?_
  · have cst := HCB.out w hSw 5 (by omega)
    go_simp
  simp only [List.setIfInBounds_toArray, List.set_cons_zero, List.set_cons_succ]
  refine takeD (i := 19) (d := 60) (v := ?_) rfl rfl (by kernel_rfl) (by kernel_rfl) (by kernel_rfl) (fun _ _ _ h => h) (Or.inl ⟨by rfl, ?_⟩) hHeld ?_
  rotate_left 1
  · (intro w hSw; (try dsimp only at hSw); go_simp; (try with_reducible rfl))
  simp only [List.setIfInBounds_toArray, List.set_cons_zero, List.set_cons_succ]
  refine takeD (i := 20) (d := 61) (v := ?_) rfl rfl (by kernel_rfl) (by kernel_rfl) (by kernel_rfl) (fun _ _ _ h => h) (Or.inl ⟨by rfl, ?_⟩) hHeld ?_
  rotate_left 1
  · (intro w hSw; (try dsimp only at hSw); go_simp; (try with_reducible rfl))
  simp only [List.setIfInBounds_toArray, List.set_cons_zero, List.set_cons_succ]
  refine takeD (i := 21) (d := 62) (v := ?_) rfl rfl (by kernel_rfl) (by kernel_rfl) (by kernel_rfl) (fun _ _ _ h => h) (Or.inl ⟨by rfl, ?_⟩) hHeld ?_
  rotate_left 1
  · (intro w hSw; (try dsimp only at hSw); go_simp; (try with_reducible rfl))
  simp only [List.setIfInBounds_toArray, List.set_cons_zero, List.set_cons_succ]
  refine takeD (i := 22) (d := 63) (v := .int .u8 (b8 X 6 : Nat)) rfl rfl (by kernel_rfl) (by kernel_rfl) (by kernel_rfl) (fun _ _ _ h => h) (Or.inl ⟨by rfl, fun w hSw => ?_⟩) hHeld ?_
  · have cst := HCB.out w hSw 6 (by omega)
    go_simp
  simp only [List.setIfInBounds_toArray, List.set_cons_zero, List.set_cons_succ]
  refine takeD (i := 23) (d := 64) (v := ?_) rfl rfl (by kernel_rfl) (by kernel_rfl) (by kernel_rfl) (fun _ _ _ h => h) (Or.inl ⟨by rfl, ?_⟩) hHeld ?_
  rotate_left 1
  · (intro w hSw; (try dsimp only at hSw); go_simp; (try with_reducible rfl))
  simp only [List.setIfInBounds_toArray, List.set_cons_zero, List.set_cons_succ]
  refine takeD (i := 24) (d := 65) (v := ?_) rfl rfl (by kernel_rfl) (by kernel_rfl) (by kernel_rfl) (fun _ _ _ h => h) (Or.inl ⟨by rfl, ?_⟩) hHeld ?_
  rotate_left 1
  · (intro w hSw; (try dsimp only at hSw); go_simp; (try with_reducible rfl))
  simp only [List.setIfInBounds_toArray, List.set_cons_zero, List.set_cons_succ]
  refine takeD (i := 25) (d := 66) (v := ?_) rfl rfl (by kernel_rfl) (by kernel_rfl) (by kernel_rfl) (fun _ _ _ h => h) (Or.inl ⟨by rfl, ?_⟩) hHeld ?_
  rotate_left 1
  · (intro w hSw; (try dsimp only at hSw); go_simp; (try with_reducible rfl))
  simp only [List.setIfInBounds_toArray, List.set_cons_zero, List.set_cons_succ]
  refine takeD (i := 26) (d := 67) (v := ?_) rfl rfl (by kernel_rfl) (by kernel_rfl) (by kernel_rfl) (fun _ _ _ h => h) (Or.inl ⟨by rfl, ?_⟩) hHeld ?_
  rotate_left 1
  · (intro w hSw; (try dsimp only at hSw); go_simp; (try with_reducible rfl))
  simp only [List.setIfInBounds_toArray, List.set_cons_zero, List.set_cons_succ]
  refine takeD (i := 27) (d := 68) (v := .int .u8 (b8 X 6 : Nat)) rfl rfl (by kernel_rfl) (by kernel_rfl) (by kernel_rfl) (fun _ _ _ h => h) (Or.inl ⟨by rfl, fun w hSw => ?_⟩) hHeld ?_
  · have cst := HCB.out w hSw 6 (by omega)
    go_simp
  simp only [List.setIfInBounds_toArray, List.set_cons_zero, List.set_cons_succ]
  refine takeD (i := 28) (d := 69) (v := ?_) rfl rfl (by kernel_rfl) (by kernel_rfl) (by kernel_rfl) (fun _ _ _ h => h) (Or.inl ⟨by rfl, ?_⟩) hHeld ?_
  rotate_left 1
  · (intro w hSw; (try dsimp only at hSw); go_simp; (try with_reducible rfl))
  simp only [List.setIfInBounds_toArray, List.set_cons_zero, List.set_cons_succ]
  refine takeD (i := 29) (d := 70) (v := ?_) rfl rfl (by kernel_rfl) (by kernel_rfl) (by kernel_rfl) (fun _ _ _ h => h) (Or.inl ⟨by rfl, ?_⟩) hHeld ?_
  rotate_left 1
  · (intro w hSw; (try dsimp only at hSw); go_simp; (try with_reducible rfl))
  simp only [List.setIfInBounds_toArray, List.set_cons_zero, List.set_cons_succ]
  refine takeD (i := 30) (d := 71) (v := ?_) rfl rfl (by kernel_rfl) (by kernel_rfl) (by kernel_rfl) (fun _ _ _ h => h) (Or.inl ⟨by rfl, ?_⟩) hHeld ?_
  rotate_left 1
  · (intro w hSw; (try dsimp only at hSw); go_simp; (try with_reducible rfl))
  simp only [List.setIfInBounds_toArray, List.set_cons_zero, List.set_cons_succ]
  refine takeD (i := 31) (d := 72) (v := ?_) rfl rfl (by kernel_rfl) (by kernel_rfl) (by kernel_rfl) (fun _ _ _ h => h) (Or.inl ⟨by rfl, ?_⟩) hHeld ?_
  rotate_left 1
  · (intro w hSw; (try dsimp only at hSw); go_simp; (try with_reducible rfl))
  simp only [List.setIfInBounds_toArray, List.set_cons_zero, List.set_cons_succ]
  refine takeD (i := 32) (d := 73) (v := .int .u8 (b8 X 6 : Nat)) rfl rfl (by kernel_rfl) (by kernel_rfl) (by kernel_rfl) (fun _ _ _ h => h) (Or.inl ⟨by rfl, fun w hSw => ?_⟩) hHeld ?_
  · have cst := HCB.out w hSw 6 (by omega)
    go_simp
  simp only [List.setIfInBounds_toArray, List.set_cons_zero, List.set_cons_succ]
  refine takeD (i := 33) (d := 74) (v := ?_) rfl rfl (by kernel_rfl) (by kernel_rfl) (by kernel_rfl) (fun _ _ _ h => h) (Or.inl ⟨by rfl, ?_⟩) hHeld ?_
  rotate_left 1
  · (intro w hSw; (try dsimp only at hSw); go_simp; (try with_reducible rfl))
  simp only [List.setIfInBounds_toArray, List.set_cons_zero, List.set_cons_succ]
  refine takeD (i := 34) (d := 75) (v := ?_) rfl rfl (by kernel_rfl) (by kernel_rfl) (by kernel_rfl) (fun _ _ _ h => h) (Or.inl ⟨by rfl, ?_⟩) hHeld ?_
  rotate_left 1
  · (intro w hSw; (try dsimp only at hSw); go_simp; (try with_reducible rfl))
  simp only [List.setIfInBounds_toArray, List.set_cons_zero, List.set_cons_succ]
  refine takeD (i := 35) (d := 76) (v := ?_) rfl rfl (by kernel_rfl) (by kernel_rfl) (by kernel_rfl) (fun _ _ _ h => h) (Or.inl ⟨by rfl, ?_⟩) hHeld ?_
  rotate_left 1
  · (intro w hSw; (try dsimp only at hSw); go_simp; (try with_reducible rfl))
  simp only [List.setIfInBounds_toArray, List.set_cons_zero, List.set_cons_succ]
  refine wpAnyH_ready (rs := [36]) (by kernel_rfl) (by simp) ?_
  refine AllReadyH.cons rfl (fun K hK => ?_) AllReadyH.nil
  go_simp
  refine hK.out _ _ ?_ (fun hHeld => ?_)
  · exact hHeld.alloc _
  clear hK K
  have RG2 : (w1.drew.alloc (.cells zS.cells 32)).heap[w1.heap.size]? = some (.cells zS.cells 32 (0, 0)) := heap_alloc_new w1.drew _
  refine wpAnyH_ready (rs := [37]) (by kernel_rfl) (by simp) ?_
  refine AllReadyH.cons rfl (fun K hK => ?_) AllReadyH.nil
  refine exec_store rfl rfl rfl RG2 rfl rfl (by rfl) (Sen.infoS (⟨b8 X 1, b8 X 2, b8 X 3, nmX X, b8 X 4, b8 X 5, decide ((b8 X 6 : Int) % 2 = 1), zC, 0, 0, 0, 0, 0, 0, 0, 0, 0, 0, 0, 0, decide ((b8 X 6 : Int) / 2 % 2 = 1), (b8 X 6 : Int) / 4⟩ : Sen)) (by simp [Value.oneCell']) (fun w3 R3 M3 => ?_)
  refine hK.out _ _ ?_ (fun hHeld => ?_)
  · exact hHeld.comp M3 (fun k hk => by simp at hk; exact .inr (by omega))
  clear hK K
  refine wpAnyH_done (by kernel_rfl) ?_ _
  have HM3 := Lib.hid (show Mods [] w1 w3 from hHeld)
  have HG3 : Hid (w3.heap[w1.heap.size]? = some (.cells (hdrS X (nmX X)).cells 32 (0, 0))) := Lib.hid (by rw [eHD.out]; refine R3.trans ?_; simp [Sen.cells, zC])
  have HR3 := Lib.hid (HM3.out.heap R1.out (by simp))
  have HX3 := Lib.hid (HM1.out.trans HM3.out)
  have hgs : w.heap.size < w1.heap.size := lt_of_block R1.out
  have hpt : (hdrS X (nmX X)).conv.pts.oneCell' = true := rfl
  have hdd : (hdrS X (nmX X)).disc = dsX X := rfl
  obtain ⟨adE, hadE⟩ : ∃ adE : Option Addr, adE = if c = 8 + b8 X 7 then some ⟨g, 0, none⟩ else some ⟨g, 8 + b8 X 7, none⟩ := ⟨_, rfl⟩
  have HRD : Hid (∀ W, Mods [w1.heap.size] w3 W → Rd W (.slice adE (X.length - (8 + b8 X 7)) (c - (8 + b8 X 7))) (u8s (rsX X))) := Lib.hid (fun W M => by
    have hr := (HO1.out.rd.mods0 HM3.out).mods M (fun _ q hq => by have := (HO1.out.lt q hq).2; simp; omega)
    obtain ⟨_, _, he, q1, q2, hc⟩ := hr.u8
    injection he with he1 _ he3
    subst he1 he3
    have hl : (rsX X).length = X.length - (8 + b8 X 7) := by unfold rsX; rw [List.length_drop]
    refine ⟨adE, c - (8 + b8 X 7), by rw [u8s_length, hl], by rw [u8s_length, hl]; omega, by unfold maxLen at *; omega, fun i hi => ?_⟩
    rw [u8s_length, hl] at hi
    have hne : ¬ c = 8 + b8 X 7 := by omega
    refine ⟨g, 8 + b8 X 7, by rw [hadE, if_neg hne], ?_⟩
    obtain ⟨b', o', h', hx⟩ := hc (8 + b8 X 7 + i) (by omega)
    cases h'
    rw [Nat.zero_add] at hx
    rw [hx, u8s_getD _ _ (by rw [hl]; omega)]
    unfold rsX
    rw [List.getD_eq_getElem?_getD, List.getD_eq_getElem?_getD, List.getElem?_drop])
  have HSE2 : Hid (∀ W, Mods [w1.heap.size] w3 W → (Instr.sliceAt 33 (.slice (some ⟨g, 0, none⟩) X.length c) (some (.int .i64 (8 + (b8 X 7 : Int)))) none none).run Try.prog W = .ok (.slice adE (X.length - (8 + b8 X 7)) (c - (8 + b8 X 7))) W) := Lib.hid (fun W M => by
    rw [hadE]
    go_simp
    try (split <;> simp_all))
  have HRB := Lib.hid (show Bytes (rsX X) from HXB.out.drop _)
  clear hHeld R3 M3 RG2 HSL HCV hA1 hA2 ew6 ew8 eHD HCB hadE
  generalize w1.heap.size = gs at HG3 hgs HRD HSE2 ⊢
  have HSX : Hid (∀ pv, senX X pv = restS (hdrS X (nmX X)) (rsX X) pv) := Lib.hid (fun _ => rfl)
  generalize hdrS X (nmX X) = SH at HG3 hpt hdd HSX ⊢
  go_wp2_with fail
  try dsimp only [Act.put]
  refine heldStart (S := fun W => Mods [gs] w3 W) 10 rfl (by kernel_rfl) (Mods.refl.drew) (fun hHeld => ?_)
  refine takeD (i := 1) (d := 79) (v := ?_) rfl rfl (by kernel_rfl) (by kernel_rfl) (by kernel_rfl) (fun _ _ _ h => h) (Or.inl ⟨by rfl, ?_⟩) hHeld ?_
  rotate_left 1
  · (intro w hSw; (try dsimp only at hSw); go_simp; (try with_reducible rfl))
  simp only [List.setIfInBounds_toArray, List.set_cons_zero, List.set_cons_succ]
  refine takeD (i := 2) (d := 80) (v := ?_) rfl rfl (by kernel_rfl) (by kernel_rfl) (by kernel_rfl) (fun _ _ _ h => h) (Or.inl ⟨by rfl, ?_⟩) hHeld ?_
  rotate_left 1
  · (intro w hSw; (try dsimp only at hSw); go_simp; (try with_reducible rfl))
  simp only [List.setIfInBounds_toArray, List.set_cons_zero, List.set_cons_succ]
  refine takeD (i := 3) (d := 81) (v := .slice adE (X.length - (8 + b8 X 7)) (c - (8 + b8 X 7))) rfl rfl (by kernel_rfl) (by kernel_rfl) (by kernel_rfl) (fun _ _ _ h => h) (Or.inl ⟨by rfl, fun w hSw => ?_⟩) hHeld ?_
  · have cst := HSE2.out w hSw
    go_simp
  simp only [List.setIfInBounds_toArray, List.set_cons_zero, List.set_cons_succ]
  refine wpAnyH_ready (rs := [0]) (by kernel_rfl) (by simp) ?_
  refine AllReadyH.cons rfl (fun K hK => ?_) AllReadyH.nil
  refine exec_load_row (by rfl) rfl rfl rfl (show w3.drew.heap[gs]? = _ from HG3.out) Try.underlying32 rfl (Sen.infoS SH) ?_
  refine hK.out _ _ hHeld (fun hHeld => ?_)
  clear hK K
  simp only [List.setIfInBounds_toArray, List.set_cons_zero, List.set_cons_succ]
  refine wpAnyH_ready (rs := [4]) (by kernel_rfl) (by simp) ?_
  refine AllReadyH.cons rfl (fun K hK => ?_) AllReadyH.nil
  go_simp
  go_wp2_with (go_at_call 58; refine (rest_ok _ SH _ (rsX X) (HRD.out _ hHeld) HRB.out hpt).mono ?_; intro e w4 h4; obtain ⟨S4, rfl, one4, hz4, M4⟩ := h4.val hpt)
  refine hK.out _ _ ?_ (fun hHeld => ?_)
  · exact (show Mods [gs] w3 _ from hHeld).comp0 M4
  clear hK K
  refine takeD (i := 5) (d := 77) (v := ?_) rfl rfl (by kernel_rfl) (by kernel_rfl) (by kernel_rfl) (fun _ _ _ h => h) (Or.inl ⟨by rfl, ?_⟩) hHeld ?_
  rotate_left 1
  · (intro w hSw; (try dsimp only at hSw); go_simp; (try with_reducible rfl))
  simp only [List.setIfInBounds_toArray, List.set_cons_zero, List.set_cons_succ]
  refine takeD (i := 6) (d := 83) (v := ?_) rfl rfl (by kernel_rfl) (by kernel_rfl) (by kernel_rfl) (fun _ _ _ h => h) (Or.inl ⟨by rfl, ?_⟩) hHeld ?_
  rotate_left 1
  · (intro w hSw; (try dsimp only at hSw); go_simp; (try with_reducible rfl))
  simp only [List.setIfInBounds_toArray, List.set_cons_zero, List.set_cons_succ]
  refine takeD (i := 7) (d := 84) (v := ?_) rfl rfl (by kernel_rfl) (by kernel_rfl) (by kernel_rfl) (fun _ _ _ h => h) (Or.inl ⟨by rfl, ?_⟩) hHeld ?_
  rotate_left 1
  · (intro w hSw; (try dsimp only at hSw); go_simp; (try with_reducible rfl))
  simp only [List.setIfInBounds_toArray, List.set_cons_zero, List.set_cons_succ]
  refine wpAnyH_ready (rs := [8]) (by kernel_rfl) (by simp) ?_
  refine AllReadyH.cons rfl (fun K hK => ?_) AllReadyH.nil
  refine exec_store rfl rfl rfl (M4.heap (show w3.drew.heap[gs]? = _ from HG3.out) (by simp)) rfl rfl (by rfl) (Sen.infoS S4) (Sen.one S4 one4) (fun w5 R5 M5 => ?_)
  refine hK.out _ _ ((show Mods [gs] w3 w4 from hHeld).trans M5) (fun hHeld => ?_)
  clear hK K
  refine takeD (i := 9) (d := 4) (v := ?_) rfl rfl (by kernel_rfl) (by kernel_rfl) (by kernel_rfl) (fun _ _ _ h => h) (Or.inl ⟨by rfl, ?_⟩) hHeld ?_
  rotate_left 1
  · (intro w hSw; (try dsimp only at hSw); go_simp; (try with_reducible rfl))
  simp only [List.setIfInBounds_toArray, List.set_cons_zero, List.set_cons_succ]
  refine wpAnyH_done (by kernel_rfl) ?_ _
  have HX5 := Lib.hid (show Mods [] w w5 from HX3.out.comp (show Mods [gs] w3 w5 from hHeld) (fun k hk => by simp at hk; exact .inr (by omega)))
  have HG5 := Lib.hid R5
  have HR5 := Lib.hid ((show Mods [gs] w3 w5 from hHeld).heap HR3.out (by simp; omega))
  have HZ4 := Lib.hid hz4
  have HM5 := Lib.hid M5
  have hgl : gs < w3.heap.size := lt_of_block HG3.out
  clear hHeld R5 M5 M4 HG3 HR3 hz4 h4
  rw [hdd] at HZ4
  by_cases hre : restErr (dsX X) (rsX X) = 0
  · obtain ⟨pv, h4, OP⟩ := HZ4.out hre
    have hsx : S4 = senX X pv := by rw [HSX.out, h4]
    have OP5 := Lib.hid (show OwnPts w5 w3.heap.size pv (ptsX X) from OwnPts.mods OP HM5.out (by simp; exact hgl))
    have HIS := Lib.hid (show IsSen w5 S4 (ptsX X) by rw [hsx]; exact senX_is HXB.out hre OP5.out.rd)
    have HXY := Lib.hid (show errX X = if validB S4 (ptsX X) then 0 else 1 by
      rw [HXX.out, if_neg (fun h => h hre), hsx]
      rw [show validB (senX X pv) (ptsX X) = validB (senX X (.slice none 0 0)) (ptsX X) from senX_valid X pv _])
    have HSS := Lib.hid hsx
    rw [hre]
    clear h4 OP hsx HZ4 HXX
    go_wp2_with (refine wpList_load_sen rfl (.tmp 6) rfl (SenBox.mk HG5.out) (by rfl) ?_)
    refine (valid_ok w5 S4 (ptsX X) HIS.out).mono ?_
    rintro e w6 ⟨rfl, M6⟩
    have HX6 := Lib.hid (HX5.out.trans M6)
    have HG6 := Lib.hid (M6.heap HG5.out (by simp))
    have HR6 := Lib.hid (M6.heap HR5.out (by simp))
    have OP6 := Lib.hid (OP5.out.mods M6 (by simp))
    clear M6 HX5 HG5 HR5 OP5
    cases hvb : validB S4 (ptsX X) with
    | false =>
      have HR := Lib.hid (show errX X = 1 by rw [HXY.out, hvb]; rfl)
      clear hvb HXY
      go_wp2_with (refine wpList_store_row (cs := zS.cells) rfl 32 (.tmp 2) (.tmp 94) rfl HR6.out (by rfl) (by rfl) rfl (Sen.infoS _) zS_one ?_; intro wz Rz Mz)
      have HMX := HX6.out.comp Mz (fun k hk => by simp at hk; exact .inr (by omega))
      refine bodyPost_ret (results_cell_row2 rfl _ _ w.heap.size _ _ _ _ rfl Rz Try.underlying32 rfl (Sen.infoS _)) rfl ?_
      have := HSE.out wz (by rw [HR.out]; decide) HMX
      rw [HR.out] at this
      exact this
    | true =>
      have HR := Lib.hid (show errX X = 0 by rw [HXY.out, hvb]; rfl)
      clear hvb HXY
      go_wp2_with (first
        | (refine wpList_load_sen rfl (.tmp 6) rfl (SenBox.mk HG6.out) (by rfl) ?_)
        | (refine wpList_store_row (cs := S4.cells) rfl 32 (.tmp 2) (.tmp 95) rfl HR6.out (by rfl) (by rfl) rfl (Sen.infoS _) (Sen.one _ one4) ?_; intro wz Rz Mz))
      have HMX := HX6.out.comp Mz (fun k hk => by simp at hk; exact .inr (by omega))
      refine bodyPost_ret (results_cell_row2 rfl _ _ w.heap.size _ _ _ _ rfl Rz Try.underlying32 rfl (Sen.infoS _)) rfl ?_
      refine HSU.out _ _ HR.out ⟨pv, by rw [HSS.out]; rfl, (OP6.out.mods Mz (by simp; have := HX3.out.size; have := hgs; omega)).down HX3.out.size, HMX⟩
  · have HR := Lib.hid (show errX X = restErr (dsX X) (rsX X) by rw [HXX.out, if_pos hre])
    have hne : (restErr (dsX X) (rsX X) != 0) = true := by simpa using hre
    have HNE := Lib.hid hre
    clear hre HZ4 HXX
    generalize restErr (dsX X) (rsX X) = er at *
    go_wp2_with (refine wpList_store_row (cs := zS.cells) rfl 32 (.tmp 2) (.tmp 88) rfl HR5.out (by rfl) (by rfl) rfl (Sen.infoS _) zS_one ?_; intro wz Rz Mz)
    have HMX := HX5.out.comp Mz (fun k hk => by simp at hk; exact .inr (by omega))
    refine bodyPost_ret (results_cell_row2 rfl _ _ w.heap.size _ _ _ _ rfl Rz Try.underlying32 rfl (Sen.infoS _)) rfl ?_
    have := HSE.out wz (by rw [HR.out]; exact HNE.out) HMX
    rw [HR.out] at this
    exact this
theorem senDec_ok (w : World) (v : Value) (A : List Int) (hv : Rd w v (u8s A)) (hb : Bytes A) (hl : A.length ≤ 100000) :
    Calls Try.prog 23 #[v] w fun e w' => SDecRes w A e w' := by
  by_cases h9 : A.length < 9
  · exact senDec_err w v A hv hb hl (.inl h9)
  · by_cases hs : sum8 A = 0
    · by_cases hc : A.dropLast.getD 0 0 = 1 ∧ A.dropLast.getD 6 0 < 32 ∧ 8 + b8 A.dropLast 7 ≤ A.dropLast.length
      · exact senDec_main w v A hv hb hl h9 hs hc
      · exact senDec_form w v A hv hb hl h9 hs (by omega)
    · exact senDec_err w v A hv hb hl (.inr hs)
end Go.Proofs.Ytijjkonephjodaa
