/- Monitor.step: a contract. -/
import Derived.Test.YtijjkonephjodaaGreatDoorMoStP
import Derived.Test.YtijjkonephjodaaGreatDoorJoAD
namespace Go.Proofs.YtijjkonephjodaaGreatDoor
open Go.RowKit
set_option linter.unusedVariables false
set_option linter.unusedSimpArgs false
set_option maxRecDepth 100000
/-- What Monitor.step leaves. -/
def StepM (w : World) (mb fb sb : Nat) (vs va : Value) (l : List SenX) (A : List Asc) (F : List FltX) (st : List Nat) (i : Nat) (R : List Chg × Int × (List Int × Int) × Nat) (e : Ending) (w' : World) : Prop :=
  ∃ v f, e = .returned (.tuple #[v, .int .u8 R.2.1]) ∧ OwnChg w' w.heap.size v R.1 ∧ f.W = R.2.2.1.1 ∧ f.n = R.2.2.1.2 ∧ MonAt w' mb fb sb vs va l A (F.set i f) (st.set i R.2.2.2) ∧ Mods [fb, sb] w w' ∧ (0 ≤ R.2.1 ∧ R.2.1 ≤ 255) ∧ (f = F.getD i default ∨ ∀ k, f.win.ownBlock = some k → w.heap.size ≤ k)
theorem set_getD {α : Type} [Inhabited α] : ∀ (F : List α) (i : Nat), F.set i (F.getD i default) = F
  | [], _ => rfl
  | a :: F, 0 => rfl
  | a :: F, i + 1 => by
    show a :: F.set i (F.getD i default) = _
    rw [set_getD F i]
theorem set_getN (F : List Nat) (i : Nat) : F.set i (F.getD i 0) = F := by
  refine List.ext_getElem? fun j => ?_
  rw [List.getElem?_set]
  split
  · rename_i h
    subst h
    split
    · rename_i h; rw [List.getD_eq_getElem?_getD, List.getElem?_eq_getElem h]; rfl
    · rename_i h; rw [List.getElem?_eq_none (by omega)]
  · rfl
section
variable {w : World} {mb fb sb : Nat} {vs va : Value} {l : List SenX} {A : List Asc} {F : List FltX} {st : List Nat}
theorem MonAt.fbl (h : MonAt w mb fb sb vs va l A F st) : fb < w.heap.size := lt_of_block h.flt
theorem MonAt.sbl (h : MonAt w mb fb sb vs va l A F st) : sb < w.heap.size := lt_of_block h.sts
theorem MonAt.same (h : MonAt w mb fb sb vs va l A F st) (i : Nat) : MonAt w mb fb sb vs va l A (F.set i (F.getD i default)) (st.set i (st.getD i 0)) := by rw [set_getD, set_getN]; exact h

set_option maxHeartbeats 8000000 in
theorem stepM_ok (h : MonAt w mb fb sb vs va l A F st) (i : Nat) (hi : i < l.length) (x : Smp) (R : List Chg × Int × (List Int × Int) × Nat) (hR : R = stepR (l.getD i default).S (l.getD i default).P (F.getD i default).W (F.getD i default).n (st.getD i 0) x) :
    Calls Tryz.prog 52 #[.pointer (some ⟨mb, 0, none⟩), .int .i64 ((i : Nat) : Int), .agg x.cells.toArray] w fun e w' => StepM w mb fb sb vs va l A F st i R e w' := by
  have H := Lib.hid h
  have HSF := Lib.hid (set_getD F i)
  have HSS := Lib.hid (set_getN st i)
  have HIS := Lib.hid (fun W F st (h : MonAt W mb fb sb vs va l A F st) => show IsSen W (l.getD i default).S (l.getD i default).P from h.sens.is i hi)
  have HVAL := Lib.hid (h.valid hi)
  have hone := Lib.hid (h.sens.is i hi).conv.rd.one
  have HSB := Lib.hid (h.sbit i hi)
  have HSL := Lib.hid (h.slt hi)
  have HFB := Lib.hid h.fbl
  have HSBL := Lib.hid h.sbl
  have HSC := Lib.hid (fun W F (h : MonAt W mb fb sb vs va l A F st) => h.sc hi)
  have HIF := Lib.hid (fun W st (h : MonAt W mb fb sb vs va l A F st) => h.isf i (by rw [h.flen]; exact hi))
  have HFRG := Lib.hid (fun W st (h : MonAt W mb fb sb vs va l A F st) => show W.rangeAt fb (i * 2) [(F.getD i default).win, .int .i64 (F.getD i default).n] from h.fr hi)
  have HFOK := Lib.hid (h.fok i (by rw [h.flen]; exact hi))
  have HPUTS := Lib.hid (fun W F x (h : MonAt W mb fb sb vs va l A F st) (hx : x &&& bitN (l.getD i default).S = x) => h.putS hi hx)
  have HPUTF := Lib.hid (fun W st (f : FltX) (h : MonAt W mb fb sb vs va l A F st) (hf : IsFlt W f.win f.W f.n) (hb : fltB (l.getD i default).S (l.getD i default).P f.W f.n = true) (ho : ∀ k, f.win.ownBlock = some k → k ≠ fb ∧ k ≠ sb) => h.putF hi hf hb ho)
  have HTH := Lib.hid (fun W F (h : MonAt W mb fb sb vs va l A F st) => h.there hi)
  have HNE := Lib.hid h.mfs
  obtain ⟨bb, off, cap, hvs, hc1, hc2⟩ := h.sens.at (by omega)
  have HRG := Lib.hid (fun W F st (h : MonAt W mb fb sb vs va l A F st) => show W.rangeAt bb (off + i * 28) (l.getD i default).S.cells.toList from RdSens.range (show RdSens W (.slice (some ⟨bb, off, none⟩) l.length cap) l from hvs ▸ h.sens) hi)
  have HC0 := Lib.hid (fun W F st (h : MonAt W mb fb sb vs va l A F st) => show W.cell? ⟨mb, 0, none⟩ = some (.slice (some ⟨bb, off, none⟩) l.length cap) from hvs ▸ h.c0)
  have HC2 := Lib.hid (fun W F st (h : MonAt W mb fb sb vs va l A F st) => h.c2)
  have HC3 := Lib.hid (fun W F st (h : MonAt W mb fb sb vs va l A F st) => h.c3)
  have HR := Lib.hid (show R = stepR (l.getD i default).S (l.getD i default).P (F.getD i default).W (F.getD i default).n (st.getD i 0) x from hR)
  clear hvs hR h
  have k0 : (0 : Int) ≤ (i : Int) := by omega
  have k1 : (i : Int) < (l.length : Int) := by omega
  generalize (l.getD i default).P = P at HIS HVAL HFOK HPUTF HR
  generalize hSg : (l.getD i default).S = S at HIS HVAL HFOK HPUTF HPUTS HRG HR HSB hone
  have HBS := Lib.hid (show bitN (l.getD i default).S = bitN S from by rw [hSg])
  clear hSg
  generalize (st.getD i 0) = s0 at HSS HSC HSB HSL HR
  generalize hf0 : (F.getD i default) = f0 at HSF HIF HFRG HFOK HR
  have HF0 := Lib.hid hf0
  clear hf0
  have M0 := Lib.hid ((Mods.refl (S := []) (w := w)).alloc (.cells x.cells.toArray 103))
  have hXB := Lib.hid (heap_alloc_new w (.cells x.cells.toArray 103))
  have HX0 := Lib.hid (H.out.mods0 M0.out)
  have R1 := heap_alloc_new (w.alloc (.cells x.cells.toArray 103)) (.cells zS.cells 40)
  rw [World.size_alloc] at R1
  have HR1 := Lib.hid R1
  clear R1
  have c0 := HC0.out _ _ _ HX0.out
  have HFBN := Lib.hid (show fb ≠ w.heap.size + 1 ∧ fb ≠ w.heap.size from ⟨by have := HFB.out; omega, by have := HFB.out; omega⟩)
  have HSBN := Lib.hid (show sb ≠ w.heap.size + 1 ∧ sb ≠ w.heap.size from ⟨by have := HSBL.out; omega, by have := HSBL.out; omega⟩)
  cases hd : S.disc with
  | true =>
    cases ho : x.ok with
    | true =>
      have HHD := Lib.hid (show S.cells[6]? = some (Value.bool true) from by rw [← hd]; rfl)
      have HXO := Lib.hid (show x.cells[1]? = some (Value.bool true) from by rw [← ho]; rfl)
      go_enter Tryz.func52, Tryz.ntmps52
      go_wp2_with (first
        | (refine wpList_load_mid rfl 40 (.tmp 19) rfl bb (off + i * 28) (by rfl) S.cells.toList _ (HRG.out _ _ _ HX0.out) Tryz.underlying40 rfl (Sen.infoS S) ?_)
        | (refine wpList_store_row (cs := S.cells) rfl 40 (.tmp 8) (.tmp 20) rfl HR1.out (by rfl) (by rfl) (by rfl) (Sen.infoS _) (Sen.one _ hone.out) ?_; go_loud (intro w3 R3 M3; have HB3 := Lib.hid (SenBox.mk R3); have HM3 := Lib.hid (show Mods [] w w3 from (M0.out.alloc (.cells zS.cells 40)).comp M3 (fun q hq => by simp at hq; subst hq; exact .inr (Nat.le_succ _))); have HXB := Lib.hid (M3.heap (heap_alloc (o' := .cells zS.cells 40) hXB.out) (by simp)); have cd := (HB3.out.c 6).trans HHD.out; have cx := (cell_blk HXB.out 1).trans ((List.getElem?_toArray ..).trans HXO.out); clear R3 M3)))
      have HMO := Lib.hid (H.out.mods0 HM3.out)
      have HMD := Lib.hid (HMO.out.mods0 (show Mods [] w3 w3.drew from Mods.refl.drew))
      have HC3n := Lib.hid (HC3.out _ _ _ HMO.out)
      have hcs := HSC.out _ _ HMD.out
      have HDB := Lib.hid (show (dstepN S P s0 x.sts.val).1 &&& bitN S = (dstepN S P s0 x.sts.val).1 from by
        unfold bitN
        rw [hd, if_pos rfl]
        exact dstep_bits (HIS.out _ _ _ HMD.out).states HSL.out x.sts.isLt)
      have HDS := Lib.hid (dstep_ok _ S P (HIS.out _ _ _ HMD.out) s0 x.sts.val HSL.out x.sts.isLt)
      have HRR := Lib.hid (show R = ((dstepN S P s0 x.sts.val).2.1, 0, (f0.W, f0.n), (dstepN S P s0 x.sts.val).1) from by rw [HR.out]; unfold stepR; rw [hd, if_pos rfl, ho, if_pos rfl])
      have HXS := Lib.hid (show x.cells[3]? = some (.int .u16 ((x.sts.val : Nat) : Int)) from rfl)
      generalize dstepN S P s0 x.sts.val = D at HDB HDS HRR
      clear hd ho HR HSL HFOK HPUTF HTH HIF HFRG HC2 HC0 HRG HX0 c0 cd cx HR1 hXB
      refine heldStart (S := fun W => Mods [sb] w3 W) 23 rfl (by kernel_rfl) Mods.refl.drew (fun hHeld => ?_)
      refine takeD (i := 0) (d := 26) (v := ?_) rfl rfl (by kernel_rfl) (by kernel_rfl) (by kernel_rfl) (fun _ _ _ h => h) (Or.inl ⟨by rfl, ?_⟩) hHeld ?_
      rotate_left 1
      · (intro w hSw; (try dsimp only at hSw); go_simp; (try with_reducible rfl))
      simp only [List.setIfInBounds_toArray, List.set_cons_zero, List.set_cons_succ]
      refine takeD (i := 1) (d := 27) (v := ?_) rfl rfl (by kernel_rfl) (by kernel_rfl) (by kernel_rfl) (fun _ _ _ h => h) (Or.inl ⟨by rfl, ?_⟩) hHeld ?_
      rotate_left 1
      · (intro w hSw; (try dsimp only at hSw); go_simp; (try with_reducible rfl))
      simp only [List.setIfInBounds_toArray, List.set_cons_zero, List.set_cons_succ]
      refine takeD (i := 2) (d := 28) (v := ?_) rfl rfl (by kernel_rfl) (by kernel_rfl) (by kernel_rfl) (fun _ _ _ h => h) (Or.inl ⟨by rfl, ?_⟩) hHeld ?_
      rotate_left 1
      · (intro w hSw; (try dsimp only at hSw); go_simp; (try with_reducible rfl))
      simp only [List.setIfInBounds_toArray, List.set_cons_zero, List.set_cons_succ]
      refine takeD (i := 3) (d := 29) (v := .slice (some ⟨sb, 0, none⟩) l.length l.length) rfl rfl (by kernel_rfl) (by kernel_rfl) (by kernel_rfl) (fun _ _ _ h => h) (Or.inl ⟨by rfl, fun W hSw => ?_⟩) hHeld ?_
      · (try dsimp only at hSw)
        have cst := hSw.cell HC3n.out (by simpa using HNE.out.2.1)
        go_simp
        skip
      simp only [List.setIfInBounds_toArray, List.set_cons_zero, List.set_cons_succ]
      refine takeD (i := 4) (d := 30) (v := ?_) rfl rfl (by kernel_rfl) (by kernel_rfl) (by kernel_rfl) (fun _ _ _ h => h) (Or.inl ⟨by rfl, ?_⟩) hHeld ?_
      rotate_left 1
      · (intro w hSw; (try dsimp only at hSw); go_simp; (try with_reducible rfl))
      simp only [List.setIfInBounds_toArray, List.set_cons_zero, List.set_cons_succ]
      refine takeD (i := 5) (d := 31) (v := .agg S.cells) rfl rfl (by kernel_rfl) (by kernel_rfl) (by kernel_rfl) (fun _ _ _ h => h) (yieldsIf_load_row rfl 40 (.tmp 8) rfl (w.heap.size+1) rfl 40 S.cells (0, 0) _ (fun W M => M.heap HB3.out.blk (by simpa using fun h => HSBN.out.1 h.symm)) Tryz.underlying40 rfl S.infoS) hHeld ?_
      simp only [List.setIfInBounds_toArray, List.set_cons_zero, List.set_cons_succ]
      refine takeD (i := 6) (d := 32) (v := ?_) rfl rfl (by kernel_rfl) (by kernel_rfl) (by kernel_rfl) (fun _ _ _ h => h) (Or.inl ⟨by rfl, ?_⟩) hHeld ?_
      rotate_left 1
      · (intro w hSw; (try dsimp only at hSw); go_simp; (try with_reducible rfl))
      simp only [List.setIfInBounds_toArray, List.set_cons_zero, List.set_cons_succ]
      refine takeD (i := 7) (d := 33) (v := ?_) rfl rfl (by kernel_rfl) (by kernel_rfl) (by kernel_rfl) (fun _ _ _ h => h) (Or.inl ⟨by rfl, ?_⟩) hHeld ?_
      rotate_left 1
      · (intro w hSw; (try dsimp only at hSw); go_simp; (try with_reducible rfl))
      simp only [List.setIfInBounds_toArray, List.set_cons_zero, List.set_cons_succ]
      refine takeD (i := 8) (d := 34) (v := ?_) rfl rfl (by kernel_rfl) (by kernel_rfl) (by kernel_rfl) (fun _ _ _ h => h) (Or.inl ⟨by rfl, ?_⟩) hHeld ?_
      rotate_left 1
      · (intro w hSw; (try dsimp only at hSw); go_simp; (try with_reducible rfl))
      simp only [List.setIfInBounds_toArray, List.set_cons_zero, List.set_cons_succ]
      refine takeD (i := 9) (d := 35) (v := .slice (some ⟨sb, 0, none⟩) l.length l.length) rfl rfl (by kernel_rfl) (by kernel_rfl) (by kernel_rfl) (fun _ _ _ h => h) (Or.inl ⟨by rfl, fun W hSw => ?_⟩) hHeld ?_
      · (try dsimp only at hSw)
        have cst := hSw.cell HC3n.out (by simpa using HNE.out.2.1)
        go_simp
        skip
      simp only [List.setIfInBounds_toArray, List.set_cons_zero, List.set_cons_succ]
      refine takeD (i := 10) (d := 36) (v := ?_) rfl rfl (by kernel_rfl) (by kernel_rfl) (by kernel_rfl) (fun _ _ _ h => h) (Or.inl ⟨by rfl, ?_⟩) hHeld ?_
      rotate_left 1
      · (intro w hSw; (try dsimp only at hSw); go_simp; (try with_reducible rfl))
      simp only [List.setIfInBounds_toArray, List.set_cons_zero, List.set_cons_succ]
      refine takeD (i := 11) (d := 37) (v := ?_) rfl rfl (by kernel_rfl) (by kernel_rfl) (by kernel_rfl) (fun _ _ _ h => h) (Or.inl ⟨by rfl, ?_⟩) hHeld ?_
      rotate_left 1
      · (intro w hSw; (try dsimp only at hSw); go_simp; (try with_reducible rfl))
      simp only [List.setIfInBounds_toArray, List.set_cons_zero, List.set_cons_succ]
      refine takeD (i := 13) (d := 39) (v := ?_) rfl rfl (by kernel_rfl) (by kernel_rfl) (by kernel_rfl) (fun _ _ _ h => h) (Or.inl ⟨by rfl, ?_⟩) hHeld ?_
      rotate_left 1
      · (intro w hSw; (try dsimp only at hSw); go_simp; (try with_reducible rfl))
      simp only [List.setIfInBounds_toArray, List.set_cons_zero, List.set_cons_succ]
      refine takeD (i := 14) (d := 40) (v := .int .u16 ((x.sts.val:Nat):Int)) rfl rfl (by kernel_rfl) (by kernel_rfl) (by kernel_rfl) (fun _ _ _ h => h) (Or.inl ⟨by rfl, fun W hSw => ?_⟩) hHeld ?_
      · (try dsimp only at hSw)
        have cst := (cell_blk (hSw.heap HXB.out (by simpa using fun h => HSBN.out.2 h.symm)) 3).trans ((List.getElem?_toArray ..).trans HXS.out)
        go_simp
        skip
      simp only [List.setIfInBounds_toArray, List.set_cons_zero, List.set_cons_succ]
      refine wpAnyH_ready (rs := [12]) (by kernel_rfl) (by simp) ?_
      refine AllReadyH.cons rfl (fun K hK => ?_) AllReadyH.nil
      go_simp
      refine hK.out _ _ ?_ (fun hHeld => ?_)
      · exact hHeld
      clear hK K
      refine wpAnyH_ready (rs := [15]) (by kernel_rfl) (by simp) ?_
      refine AllReadyH.cons rfl (fun K hK => ?_) AllReadyH.nil
      go_simp
      go_wp2_with (go_at_call 84; refine (HDS.out).mono ?_; rintro e w4 ⟨v, rfl, O4, M4⟩; have HO4 := Lib.hid O4; have HM4 := Lib.hid (HMD.out.mods0 M4); have HN4 := Lib.hid M4; clear O4)
      refine hK.out _ _ ?_ (fun hHeld => ?_)
      · exact hHeld.trans M4.nil
      clear hK K
      clear M4 hcs
      have hcs := HSC.out _ _ HM4.out
      have hfr := HM4.out.sts.fr i
      refine takeD (i := 16) (d := 25) (v := ?_) rfl rfl (by kernel_rfl) (by kernel_rfl) (by kernel_rfl) (fun _ _ _ h => h) (Or.inl ⟨by rfl, ?_⟩) hHeld ?_
      rotate_left 1
      · (intro w hSw; (try dsimp only at hSw); go_simp; (try with_reducible rfl))
      simp only [List.setIfInBounds_toArray, List.set_cons_zero, List.set_cons_succ]
      refine takeD (i := 17) (d := 42) (v := ?_) rfl rfl (by kernel_rfl) (by kernel_rfl) (by kernel_rfl) (fun _ _ _ h => h) (Or.inl ⟨by rfl, ?_⟩) hHeld ?_
      rotate_left 1
      · (intro w hSw; (try dsimp only at hSw); go_simp; (try with_reducible rfl))
      simp only [List.setIfInBounds_toArray, List.set_cons_zero, List.set_cons_succ]
      refine takeD (i := 18) (d := 43) (v := ?_) rfl rfl (by kernel_rfl) (by kernel_rfl) (by kernel_rfl) (fun _ _ _ h => h) (Or.inl ⟨by rfl, ?_⟩) hHeld ?_
      rotate_left 1
      · (intro w hSw; (try dsimp only at hSw); go_simp; (try with_reducible rfl))
      simp only [List.setIfInBounds_toArray, List.set_cons_zero, List.set_cons_succ]
      refine takeD (i := 19) (d := 44) (v := ?_) rfl rfl (by kernel_rfl) (by kernel_rfl) (by kernel_rfl) (fun _ _ _ h => h) (Or.inl ⟨by rfl, ?_⟩) hHeld ?_
      rotate_left 1
      · (intro w hSw; (try dsimp only at hSw); go_simp; (try with_reducible rfl))
      simp only [List.setIfInBounds_toArray, List.set_cons_zero, List.set_cons_succ]
      refine takeD (i := 20) (d := 45) (v := ?_) rfl rfl (by kernel_rfl) (by kernel_rfl) (by kernel_rfl) (fun _ _ _ h => h) (Or.inl ⟨by rfl, ?_⟩) hHeld ?_
      rotate_left 1
      · (intro w hSw; (try dsimp only at hSw); go_simp; (try with_reducible rfl))
      simp only [List.setIfInBounds_toArray, List.set_cons_zero, List.set_cons_succ]
      refine wpAnyH_ready (rs := [21]) (by kernel_rfl) (by simp) ?_
      refine AllReadyH.cons rfl (fun K hK => ?_) AllReadyH.nil
      go_simp
      refine hK.out _ _ ?_ (fun hHeld => ?_)
      · exact hHeld.setCell (.inl (by simp)) _
      clear hK K
      refine takeD (i := 22) (d := 9) (v := ?_) rfl rfl (by kernel_rfl) (by kernel_rfl) (by kernel_rfl) (fun _ _ _ h => h) (Or.inl ⟨by rfl, ?_⟩) hHeld ?_
      rotate_left 1
      · (intro w hSw; (try dsimp only at hSw); go_simp; (try with_reducible rfl))
      simp only [List.setIfInBounds_toArray, List.set_cons_zero, List.set_cons_succ]
      refine wpAnyH_done (by kernel_rfl) ?_ _
      go_wp2_with fail
      go_ret2
      rw [HRR.out]
      have hP := HPUTS.out _ _ _ HM4.out HDB.out
      have M5 : Mods [sb] w4 (w4.setCell ⟨sb, i, none⟩ (.int .u16 ((D.1 : Nat) : Int))) := (Mods.refl (S := [sb])).setCell (.inl (by simp)) _
      have M03 : Mods [] w w4 := (HM3.out.trans Mods.refl.drew).trans HN4.out
      refine ⟨v, f0, rfl, (HO4.out.mods M5 (fun k hk => ?_)).down ?_, rfl, rfl, ?_, M03.nil.trans (M5.mono (fun k hk => .inl (by simp at hk; simp [hk]))), ⟨Int.le_refl _, by show (0 : Int) ≤ 255; decide⟩, .inl HF0.out.symm⟩
      · simp at hk; subst hk; exact Nat.lt_of_lt_of_le HSBL.out (HM3.out.trans Mods.refl.drew).size
      · exact (HM3.out.trans Mods.refl.drew).size
      · rw [HSF.out]; exact hP
    | false =>
      have HHD := Lib.hid (show S.cells[6]? = some (Value.bool true) from by rw [← hd]; rfl)
      have HXO := Lib.hid (show x.cells[1]? = some (Value.bool false) from by rw [← ho]; rfl)
      go_enter Tryz.func52, Tryz.ntmps52
      go_wp2_with (first
        | (refine wpList_load_mid rfl 40 (.tmp 19) rfl bb (off + i * 28) (by rfl) S.cells.toList _ (HRG.out _ _ _ HX0.out) Tryz.underlying40 rfl (Sen.infoS S) ?_)
        | (refine wpList_store_row (cs := S.cells) rfl 40 (.tmp 8) (.tmp 20) rfl HR1.out (by rfl) (by rfl) (by rfl) (Sen.infoS _) (Sen.one _ hone.out) ?_; go_loud (intro w3 R3 M3; have HB3 := Lib.hid (SenBox.mk R3); have HM3 := Lib.hid (show Mods [] w w3 from (M0.out.alloc (.cells zS.cells 40)).comp M3 (fun q hq => by simp at hq; subst hq; exact .inr (Nat.le_succ _))); have HXB := Lib.hid (M3.heap (heap_alloc (o' := .cells zS.cells 40) hXB.out) (by simp)); have cd := (HB3.out.c 6).trans HHD.out; have cx := (cell_blk HXB.out 1).trans ((List.getElem?_toArray ..).trans HXO.out); clear R3 M3)))
      have HMO := Lib.hid (H.out.mods0 HM3.out)
      have HRR := Lib.hid (show R = ([], 0, (f0.W, f0.n), s0) from by rw [HR.out]; unfold stepR; rw [hd, if_pos rfl, ho, if_neg (by simp)])
      go_ret2
      rw [HRR.out]
      exact ⟨_, f0, rfl, OwnChg.nil _ _, rfl, rfl, by rw [HSF.out, HSS.out]; exact HMO.out, HM3.out.nil, ⟨Int.le_refl _, by show (0 : Int) ≤ 255; decide⟩, .inl HF0.out.symm⟩
  | false =>
    have HHD := Lib.hid (show S.cells[6]? = some (Value.bool false) from by rw [← hd]; rfl)
    go_enter Tryz.func52, Tryz.ntmps52
    go_wp2_with (first
      | (refine wpList_load_mid rfl 40 (.tmp 19) rfl bb (off + i * 28) (by rfl) S.cells.toList _ (HRG.out _ _ _ HX0.out) Tryz.underlying40 rfl (Sen.infoS S) ?_)
      | (refine wpList_store_row (cs := S.cells) rfl 40 (.tmp 8) (.tmp 20) rfl HR1.out (by rfl) (by rfl) (by rfl) (Sen.infoS _) (Sen.one _ hone.out) ?_; go_loud (intro w3 R3 M3; have HB3 := Lib.hid (SenBox.mk R3); have HM3 := Lib.hid (show Mods [] w w3 from (M0.out.alloc (.cells zS.cells 40)).comp M3 (fun q hq => by simp at hq; subst hq; exact .inr (Nat.le_succ _))); have HXB := Lib.hid (M3.heap (heap_alloc (o' := .cells zS.cells 40) hXB.out) (by simp)); have cd := (HB3.out.c 6).trans HHD.out; clear R3 M3)))
    have HMO := Lib.hid (H.out.mods0 HM3.out)
    have HMD := Lib.hid (HMO.out.mods0 (show Mods [] w3 w3.drew from Mods.refl.drew))
    have HC2n := Lib.hid (HC2.out _ _ _ HMO.out)
    have HFG := Lib.hid (HFRG.out _ _ HMD.out)
    have HST := Lib.hid (show Calls Tryz.prog 85 #[.agg S.cells, .agg #[f0.win, .int .i64 f0.n], .int .u8 ((x.raw.val : Nat) : Int), .bool x.ok] w3.drew fun e w' => StepRes w3.drew (stepF S.samples f0.W f0.n x.raw.val x.ok, 0) e w' from by
      have h := samStep_ok w3.drew S P f0.win f0.W f0.n x.raw.val x.ok (HIS.out _ _ _ HMD.out) (HIF.out _ _ HMD.out)
      unfold stepA at h
      rwa [HFOK.out, if_pos rfl] at h)
    have HX2 := Lib.hid (show x.cells[2]? = some (.int .u8 ((x.raw.val : Nat) : Int)) from rfl)
    have HX1 := Lib.hid (show x.cells[1]? = some (.bool x.ok) from rfl)
    have HFN := Lib.hid (fltB_step (r := x.raw.val) (ok := x.ok) HFOK.out)
    have HBY := Lib.hid (bytes_step (S := S) (n := f0.n) (ok := x.ok) x.raw.isLt (HIF.out _ _ HMD.out).byt)
    have HRR := Lib.hid (show R = if (readV S P (stepF S.samples f0.W f0.n x.raw.val x.ok).1 (stepF S.samples f0.W f0.n x.raw.val x.ok).2).2 then
      ((stepN S P s0 (readV S P (stepF S.samples f0.W f0.n x.raw.val x.ok).1 (stepF S.samples f0.W f0.n x.raw.val x.ok).2).1.toNat).2.1, (readV S P (stepF S.samples f0.W f0.n x.raw.val x.ok).1 (stepF S.samples f0.W f0.n x.raw.val x.ok).2).1, stepF S.samples f0.W f0.n x.raw.val x.ok,
      (stepN S P s0 (readV S P (stepF S.samples f0.W f0.n x.raw.val x.ok).1 (stepF S.samples f0.W f0.n x.raw.val x.ok).2).1.toNat).1)
      else ([], 0, stepF S.samples f0.W f0.n x.raw.val x.ok, s0) from by rw [HR.out]; unfold stepR; rw [hd, if_neg (by simp)])
    have HBN := Lib.hid (show bitN S = S.mask from by unfold bitN; rw [hd]; rfl)
    have HMK := Lib.hid (show S.mask < 64 from (validB_ana HVAL.out hd).2.2.1)
    have HS6 := Lib.hid (show s0 < 64 from by
      have h1 := HSB.out
      rw [HBN.out] at h1
      have h2 : s0 &&& S.mask ≤ S.mask := Nat.and_le_right
      have := HMK.out
      omega)
    have HPF := Lib.hid (fun W (f : FltX) (h : MonAt W mb fb sb vs va l A F st) => HPUTF.out W st f h)
    generalize stepF S.samples f0.W f0.n x.raw.val x.ok = N at HST HFN HBY HRR
    obtain ⟨WN, nN⟩ := N
    simp only at HFN HBY HRR
    have HNN := Lib.hid (flt_samples HFN.out)
    clear hd HR HSL HIF HFRG HC0 HRG HX0 c0 cd HR1 hXB HPUTF HSB
    refine heldStart (S := fun W => Mods [fb] w3 W) 23 rfl (by kernel_rfl) Mods.refl.drew (fun hHeld => ?_)
    refine takeD (i := 0) (d := 48) (v := ?_) rfl rfl (by kernel_rfl) (by kernel_rfl) (by kernel_rfl) (fun _ _ _ h => h) (Or.inl ⟨by rfl, ?_⟩) hHeld ?_
    rotate_left 1
    · (intro w hSw; (try dsimp only at hSw); go_simp; (try with_reducible rfl))
    simp only [List.setIfInBounds_toArray, List.set_cons_zero, List.set_cons_succ]
    refine takeD (i := 1) (d := 49) (v := ?_) rfl rfl (by kernel_rfl) (by kernel_rfl) (by kernel_rfl) (fun _ _ _ h => h) (Or.inl ⟨by rfl, ?_⟩) hHeld ?_
    rotate_left 1
    · (intro w hSw; (try dsimp only at hSw); go_simp; (try with_reducible rfl))
    simp only [List.setIfInBounds_toArray, List.set_cons_zero, List.set_cons_succ]
    refine takeD (i := 2) (d := 50) (v := ?_) rfl rfl (by kernel_rfl) (by kernel_rfl) (by kernel_rfl) (fun _ _ _ h => h) (Or.inl ⟨by rfl, ?_⟩) hHeld ?_
    rotate_left 1
    · (intro w hSw; (try dsimp only at hSw); go_simp; (try with_reducible rfl))
    simp only [List.setIfInBounds_toArray, List.set_cons_zero, List.set_cons_succ]
    refine takeD (i := 3) (d := 51) (v := .slice (some ⟨fb, 0, none⟩) l.length l.length) rfl rfl (by kernel_rfl) (by kernel_rfl) (by kernel_rfl) (fun _ _ _ h => h) (Or.inl ⟨by rfl, fun W hSw => ?_⟩) hHeld ?_
    · (try dsimp only at hSw)
      have cst := hSw.cell HC2n.out (by simpa using HNE.out.1)
      go_simp
      skip
    simp only [List.setIfInBounds_toArray, List.set_cons_zero, List.set_cons_succ]
    refine takeD (i := 4) (d := 52) (v := ?_) rfl rfl (by kernel_rfl) (by kernel_rfl) (by kernel_rfl) (fun _ _ _ h => h) (Or.inl ⟨by rfl, ?_⟩) hHeld ?_
    rotate_left 1
    · (intro w hSw; (try dsimp only at hSw); go_simp; (try with_reducible rfl))
    simp only [List.setIfInBounds_toArray, List.set_cons_zero, List.set_cons_succ]
    refine takeD (i := 5) (d := 53) (v := .agg S.cells) rfl rfl (by kernel_rfl) (by kernel_rfl) (by kernel_rfl) (fun _ _ _ h => h) (yieldsIf_load_row rfl 40 (.tmp 8) rfl (w.heap.size+1) rfl 40 S.cells (0, 0) _ (fun W M => M.heap HB3.out.blk (by simpa using fun h => HFBN.out.1 h.symm)) Tryz.underlying40 rfl S.infoS) hHeld ?_
    simp only [List.setIfInBounds_toArray, List.set_cons_zero, List.set_cons_succ]
    refine takeD (i := 6) (d := 54) (v := ?_) rfl rfl (by kernel_rfl) (by kernel_rfl) (by kernel_rfl) (fun _ _ _ h => h) (Or.inl ⟨by rfl, ?_⟩) hHeld ?_
    rotate_left 1
    · (intro w hSw; (try dsimp only at hSw); go_simp; (try with_reducible rfl))
    simp only [List.setIfInBounds_toArray, List.set_cons_zero, List.set_cons_succ]
    refine takeD (i := 7) (d := 55) (v := ?_) rfl rfl (by kernel_rfl) (by kernel_rfl) (by kernel_rfl) (fun _ _ _ h => h) (Or.inl ⟨by rfl, ?_⟩) hHeld ?_
    rotate_left 1
    · (intro w hSw; (try dsimp only at hSw); go_simp; (try with_reducible rfl))
    simp only [List.setIfInBounds_toArray, List.set_cons_zero, List.set_cons_succ]
    refine takeD (i := 8) (d := 56) (v := ?_) rfl rfl (by kernel_rfl) (by kernel_rfl) (by kernel_rfl) (fun _ _ _ h => h) (Or.inl ⟨by rfl, ?_⟩) hHeld ?_
    rotate_left 1
    · (intro w hSw; (try dsimp only at hSw); go_simp; (try with_reducible rfl))
    simp only [List.setIfInBounds_toArray, List.set_cons_zero, List.set_cons_succ]
    refine takeD (i := 9) (d := 57) (v := .slice (some ⟨fb, 0, none⟩) l.length l.length) rfl rfl (by kernel_rfl) (by kernel_rfl) (by kernel_rfl) (fun _ _ _ h => h) (Or.inl ⟨by rfl, fun W hSw => ?_⟩) hHeld ?_
    · (try dsimp only at hSw)
      have cst := hSw.cell HC2n.out (by simpa using HNE.out.1)
      go_simp
      skip
    simp only [List.setIfInBounds_toArray, List.set_cons_zero, List.set_cons_succ]
    refine takeD (i := 10) (d := 58) (v := ?_) rfl rfl (by kernel_rfl) (by kernel_rfl) (by kernel_rfl) (fun _ _ _ h => h) (Or.inl ⟨by rfl, ?_⟩) hHeld ?_
    rotate_left 1
    · (intro w hSw; (try dsimp only at hSw); go_simp; (try with_reducible rfl))
    simp only [List.setIfInBounds_toArray, List.set_cons_zero, List.set_cons_succ]
    refine takeD (i := 11) (d := 59) (v := ?_) rfl rfl (by kernel_rfl) (by kernel_rfl) (by kernel_rfl) (fun _ _ _ h => h) (Or.inl ⟨by rfl, ?_⟩) hHeld ?_
    rotate_left 1
    · (intro w hSw; (try dsimp only at hSw); go_simp; (try with_reducible rfl))
    simp only [List.setIfInBounds_toArray, List.set_cons_zero, List.set_cons_succ]
    refine takeD (i := 13) (d := 61) (v := ?_) rfl rfl (by kernel_rfl) (by kernel_rfl) (by kernel_rfl) (fun _ _ _ h => h) (Or.inl ⟨by rfl, ?_⟩) hHeld ?_
    rotate_left 1
    · (intro w hSw; (try dsimp only at hSw); go_simp; (try with_reducible rfl))
    simp only [List.setIfInBounds_toArray, List.set_cons_zero, List.set_cons_succ]
    refine takeD (i := 14) (d := 62) (v := .int .u8 ((x.raw.val:Nat):Int)) rfl rfl (by kernel_rfl) (by kernel_rfl) (by kernel_rfl) (fun _ _ _ h => h) (Or.inl ⟨by rfl, fun W hSw => ?_⟩) hHeld ?_
    · (try dsimp only at hSw)
      have cst := (cell_blk (hSw.heap HXB.out (by simpa using fun h => HFBN.out.2 h.symm)) 2).trans ((List.getElem?_toArray ..).trans HX2.out)
      go_simp
      skip
    simp only [List.setIfInBounds_toArray, List.set_cons_zero, List.set_cons_succ]
    refine takeD (i := 15) (d := 63) (v := ?_) rfl rfl (by kernel_rfl) (by kernel_rfl) (by kernel_rfl) (fun _ _ _ h => h) (Or.inl ⟨by rfl, ?_⟩) hHeld ?_
    rotate_left 1
    · (intro w hSw; (try dsimp only at hSw); go_simp; (try with_reducible rfl))
    simp only [List.setIfInBounds_toArray, List.set_cons_zero, List.set_cons_succ]
    refine takeD (i := 16) (d := 64) (v := .bool x.ok) rfl rfl (by kernel_rfl) (by kernel_rfl) (by kernel_rfl) (fun _ _ _ h => h) (Or.inl ⟨by rfl, fun W hSw => ?_⟩) hHeld ?_
    · (try dsimp only at hSw)
      have cst := (cell_blk (hSw.heap HXB.out (by simpa using fun h => HFBN.out.2 h.symm)) 1).trans ((List.getElem?_toArray ..).trans HX1.out)
      go_simp
      skip
    simp only [List.setIfInBounds_toArray, List.set_cons_zero, List.set_cons_succ]
    refine wpAnyH_ready (rs := [12]) (by kernel_rfl) (by simp) ?_
    refine AllReadyH.cons rfl (fun K hK => ?_) AllReadyH.nil
    rw [if_pos (by rfl)]
    refine wp_load_mid 123 (.tmp 59) rfl fb (i*2) (by rfl) [f0.win, .int .i64 f0.n] _ HFG.out Tryz.underlying123 rfl Tryz.infoFl ?_
    refine hK.out _ _ ?_ (fun hHeld => ?_)
    · exact hHeld
    clear hK K
    refine wpAnyH_ready (rs := [17]) (by kernel_rfl) (by simp) ?_
    refine AllReadyH.cons rfl (fun K hK => ?_) AllReadyH.nil
    go_simp
    go_wp2_with (go_at_call 85; refine (HST.out).mono ?_; rintro e w4 ⟨win4, rfl, RD4, OW4, M4⟩; have HRD4 := Lib.hid RD4; have HOW4 := Lib.hid OW4; have HM4 := Lib.hid (HMD.out.mods0 M4); have HN4 := Lib.hid M4; clear OW4 RD4)
    refine hK.out _ _ ?_ (fun hHeld => ?_)
    · exact hHeld.trans M4.nil
    clear hK K
    clear M4
    have HTH4 := Lib.hid (HTH.out _ _ HM4.out)
    refine takeD (i := 18) (d := 47) (v := ?_) rfl rfl (by kernel_rfl) (by kernel_rfl) (by kernel_rfl) (fun _ _ _ h => h) (Or.inl ⟨by rfl, ?_⟩) hHeld ?_
    rotate_left 1
    · (intro w hSw; (try dsimp only at hSw); go_simp; (try with_reducible rfl))
    simp only [List.setIfInBounds_toArray, List.set_cons_zero, List.set_cons_succ]
    refine takeD (i := 19) (d := 66) (v := ?_) rfl rfl (by kernel_rfl) (by kernel_rfl) (by kernel_rfl) (fun _ _ _ h => h) (Or.inl ⟨by rfl, ?_⟩) hHeld ?_
    rotate_left 1
    · (intro w hSw; (try dsimp only at hSw); go_simp; (try with_reducible rfl))
    simp only [List.setIfInBounds_toArray, List.set_cons_zero, List.set_cons_succ]
    refine takeD (i := 20) (d := 67) (v := ?_) rfl rfl (by kernel_rfl) (by kernel_rfl) (by kernel_rfl) (fun _ _ _ h => h) (Or.inl ⟨by rfl, ?_⟩) hHeld ?_
    rotate_left 1
    · (intro w hSw; (try dsimp only at hSw); go_simp; (try with_reducible rfl))
    simp only [List.setIfInBounds_toArray, List.set_cons_zero, List.set_cons_succ]
    refine takeD (i := 21) (d := 68) (v := ?_) rfl rfl (by kernel_rfl) (by kernel_rfl) (by kernel_rfl) (fun _ _ _ h => h) (Or.inl ⟨by rfl, ?_⟩) hHeld ?_
    rotate_left 1
    · (intro w hSw; (try dsimp only at hSw); go_simp; (try with_reducible rfl))
    simp only [List.setIfInBounds_toArray, List.set_cons_zero, List.set_cons_succ]
    obtain ⟨ad4, cap4, rfl, -, -, -⟩ := HRD4.out.u8
    have HLW := Lib.hid (fun k (hk : (Value.slice ad4 WN.length cap4).ownBlock = some k) => show w.heap.size ≤ k from Nat.le_trans (HM3.out.trans (show Mods [] w3 w3.drew from Mods.refl.drew)).size (HOW4.out k hk))
    have HPN := Lib.hid (HPF.out w4 ⟨ad4, WN.length, cap4, WN, nN⟩ HM4.out ⟨HRD4.out, HBY.out, by show WN.length ≤ 1000; have := HNN.out; omega, by show I64 nN; have := HNN.out; unfold I64; omega⟩ HFN.out (fun k hk => by have h1 := HOW4.out k hk; have h2 := HFB.out; have h3 := HSBL.out; have h4 := (HM3.out.trans (show Mods [] w3 w3.drew from Mods.refl.drew)).size; exact ⟨by omega, by omega⟩))
    refine wpAnyH_ready (rs := [22]) (by kernel_rfl) (by simp) ?_
    refine AllReadyH.cons rfl (fun K hK => ?_) AllReadyH.nil
    rw [if_pos (by rfl)]
    refine wp_store_mid 123 (.tmp 68) (.tmp 66) rfl fb (i*2) #[.slice ad4 WN.length cap4, .int .i64 nN] (by rfl) (by rfl) HTH4.out Tryz.infoFl (by simp [Value.oneCell']) ?_
    refine hK.out _ _ ?_ (fun hHeld => ?_)
    · exact hHeld.trans (Mods.setCells _ _ _)
    clear hK K
    refine wpAnyH_done (by kernel_rfl) ?_ _
    have HM5 := Lib.hid (show Mods [fb] w (w4.setCells fb (i * 2) [.slice ad4 WN.length cap4, .int .i64 nN]) from HM3.out.nil.trans hHeld)
    have HPN5 := Lib.hid (show MonAt (w4.setCells fb (i * 2) [.slice ad4 WN.length cap4, .int .i64 nN]) mb fb sb vs va l A (F.set i ⟨ad4, WN.length, cap4, WN, nN⟩) st from HPN.out)
    have HB5 := Lib.hid (show SenBox (w4.setCells fb (i * 2) [.slice ad4 WN.length cap4, .int .i64 nN]) (w.heap.size + 1) S from HB3.out.mods hHeld (by simpa using fun h => HFBN.out.1 h.symm))
    change Exit.then _ _ Exit.normal _ (w4.setCells fb (i * 2) [.slice ad4 WN.length cap4, .int .i64 nN])
    generalize w4.setCells fb (i * 2) [.slice ad4 WN.length cap4, .int .i64 nN] = w5 at HM5 HPN5 HB5 ⊢
    have HM5D := Lib.hid (HPN5.out.mods0 (show Mods [] w5 w5.drew from Mods.refl.drew))
    have HC25 := Lib.hid (HC2.out _ _ _ HPN5.out)
    have HC35 := Lib.hid (HC3.out _ _ _ HPN5.out)
    have HFR5 := Lib.hid (show w5.rangeAt fb (i * 2) [.slice ad4 WN.length cap4, .int .i64 nN] from by
      have h := HPN5.out.fr hi
      rw [List.getD_eq_getElem?_getD, List.getElem?_set_self (by rw [H.out.flen]; exact hi)] at h
      exact h)
    have HFL5 := Lib.hid (show ∀ W, Mods [] w5 W → IsFlt W (.slice ad4 WN.length cap4) WN nN from fun W M => by
      have h := HPN5.out.isf i (by rw [List.length_set, H.out.flen]; exact hi)
      rw [List.getD_eq_getElem?_getD, List.getElem?_set_self (by rw [H.out.flen]; exact hi)] at h
      exact IsFlt.mods0 h M)
    have HIS5 := Lib.hid (fun W (M : Mods [] w5 W) => HIS.out W _ _ (HPN5.out.mods0 M))
    have HRDG := Lib.hid (fun W (M : Mods [] w5 W) => samReading_ok W S P (.slice ad4 WN.length cap4) WN nN (HIS5.out W M) (HFL5.out W M))
    clear HPN HM4 HN4 HTH4 HOW4 HRD4 HMO HMD HC2n HFG HX2 HX1 HFN HST HXB HPF hHeld HM3 HB3
    go_upto_region 8 with (fail)
    (try dsimp only [Act.put])
    refine heldStart (S := fun W => Mods [] w5 W) 14 rfl (by kernel_rfl) Mods.refl.drew (fun hHeld => ?_)
    refine takeD (i := 0) (d := 70) (v := .agg S.cells) rfl rfl (by kernel_rfl) (by kernel_rfl) (by kernel_rfl) (fun _ _ _ h => h) (yieldsIf_load_row rfl 40 (.tmp 8) rfl (w.heap.size+1) rfl 40 S.cells (0, 0) _ (fun W M => (HB5.out.mods0 M).blk) Tryz.underlying40 rfl S.infoS) hHeld ?_
    simp only [List.setIfInBounds_toArray, List.set_cons_zero, List.set_cons_succ]
    refine takeD (i := 1) (d := 71) (v := ?_) rfl rfl (by kernel_rfl) (by kernel_rfl) (by kernel_rfl) (fun _ _ _ h => h) (Or.inl ⟨by rfl, ?_⟩) hHeld ?_
    rotate_left 1
    · (intro w hSw; (try dsimp only at hSw); go_simp; (try with_reducible rfl))
    simp only [List.setIfInBounds_toArray, List.set_cons_zero, List.set_cons_succ]
    refine takeD (i := 2) (d := 72) (v := ?_) rfl rfl (by kernel_rfl) (by kernel_rfl) (by kernel_rfl) (fun _ _ _ h => h) (Or.inl ⟨by rfl, ?_⟩) hHeld ?_
    rotate_left 1
    · (intro w hSw; (try dsimp only at hSw); go_simp; (try with_reducible rfl))
    simp only [List.setIfInBounds_toArray, List.set_cons_zero, List.set_cons_succ]
    refine takeD (i := 3) (d := 73) (v := ?_) rfl rfl (by kernel_rfl) (by kernel_rfl) (by kernel_rfl) (fun _ _ _ h => h) (Or.inl ⟨by rfl, ?_⟩) hHeld ?_
    rotate_left 1
    · (intro w hSw; (try dsimp only at hSw); go_simp; (try with_reducible rfl))
    simp only [List.setIfInBounds_toArray, List.set_cons_zero, List.set_cons_succ]
    refine takeD (i := 4) (d := 74) (v := .slice (some ⟨fb, 0, none⟩) l.length l.length) rfl rfl (by kernel_rfl) (by kernel_rfl) (by kernel_rfl) (fun _ _ _ h => h) (Or.inl ⟨by rfl, fun W hSw => ?_⟩) hHeld ?_
    · (try dsimp only at hSw)
      have cst := hSw.cell HC25.out (by simp)
      go_simp
      skip
    simp only [List.setIfInBounds_toArray, List.set_cons_zero, List.set_cons_succ]
    refine takeD (i := 5) (d := 75) (v := ?_) rfl rfl (by kernel_rfl) (by kernel_rfl) (by kernel_rfl) (fun _ _ _ h => h) (Or.inl ⟨by rfl, ?_⟩) hHeld ?_
    rotate_left 1
    · (intro w hSw; (try dsimp only at hSw); go_simp; (try with_reducible rfl))
    simp only [List.setIfInBounds_toArray, List.set_cons_zero, List.set_cons_succ]
    refine takeD (i := 6) (d := 76) (v := ?_) rfl rfl (by kernel_rfl) (by kernel_rfl) (by kernel_rfl) (fun _ _ _ h => h) (Or.inl ⟨by rfl, ?_⟩) hHeld ?_
    rotate_left 1
    · (intro w hSw; (try dsimp only at hSw); go_simp; (try with_reducible rfl))
    simp only [List.setIfInBounds_toArray, List.set_cons_zero, List.set_cons_succ]
    refine takeD (i := 7) (d := 77) (v := .agg [.slice ad4 WN.length cap4, .int .i64 nN].toArray) rfl rfl (by kernel_rfl) (by kernel_rfl) (by kernel_rfl) (fun _ _ _ h => h) (yieldsIf_load_mid (by rfl) 123 (.tmp 76) rfl fb (i*2) rfl [.slice ad4 WN.length cap4, .int .i64 nN] _ (fun W h j u hu => h.cell (HFR5.out j u hu) (by simp)) Tryz.underlying123 rfl Tryz.infoFl) hHeld ?_
    simp only [List.setIfInBounds_toArray, List.set_cons_zero, List.set_cons_succ]
    refine wpAnyH_ready (rs := [8]) (by kernel_rfl) (by simp) ?_
    refine AllReadyH.cons rfl (fun K hK => ?_) AllReadyH.nil
    go_simp
    go_wp2_with (go_at_call 57; refine (HRDG.out _ hHeld).mono ?_; rintro e w6 hres; obtain ⟨rfl, hb6, M6⟩ := ReadRes.v HBY.out hres)
    refine hK.out _ _ ?_ (fun hHeld => ?_)
    · exact hHeld.trans M6
    clear hK K
    refine takeD (i := 9) (d := 69) (v := ?_) rfl rfl (by kernel_rfl) (by kernel_rfl) (by kernel_rfl) (fun _ _ _ h => h) (Or.inl ⟨by rfl, ?_⟩) hHeld ?_
    rotate_left 1
    · (intro w hSw; (try dsimp only at hSw); go_simp; (try with_reducible rfl))
    simp only [List.setIfInBounds_toArray, List.set_cons_zero, List.set_cons_succ]
    refine takeD (i := 10) (d := 79) (v := ?_) rfl rfl (by kernel_rfl) (by kernel_rfl) (by kernel_rfl) (fun _ _ _ h => h) (Or.inl ⟨by rfl, ?_⟩) hHeld ?_
    rotate_left 1
    · (intro w hSw; (try dsimp only at hSw); go_simp; (try with_reducible rfl))
    simp only [List.setIfInBounds_toArray, List.set_cons_zero, List.set_cons_succ]
    refine takeD (i := 11) (d := 80) (v := ?_) rfl rfl (by kernel_rfl) (by kernel_rfl) (by kernel_rfl) (fun _ _ _ h => h) (Or.inl ⟨by rfl, ?_⟩) hHeld ?_
    rotate_left 1
    · (intro w hSw; (try dsimp only at hSw); go_simp; (try with_reducible rfl))
    simp only [List.setIfInBounds_toArray, List.set_cons_zero, List.set_cons_succ]
    refine takeD (i := 12) (d := 10) (v := ?_) rfl rfl (by kernel_rfl) (by kernel_rfl) (by kernel_rfl) (fun _ _ _ h => h) (Or.inl ⟨by rfl, ?_⟩) hHeld ?_
    rotate_left 1
    · (intro w hSw; (try dsimp only at hSw); go_simp; (try with_reducible rfl))
    simp only [List.setIfInBounds_toArray, List.set_cons_zero, List.set_cons_succ]
    refine takeD (i := 13) (d := 11) (v := ?_) rfl rfl (by kernel_rfl) (by kernel_rfl) (by kernel_rfl) (fun _ _ _ h => h) (Or.inl ⟨by rfl, ?_⟩) hHeld ?_
    rotate_left 1
    · (intro w hSw; (try dsimp only at hSw); go_simp; (try with_reducible rfl))
    simp only [List.setIfInBounds_toArray, List.set_cons_zero, List.set_cons_succ]
    refine wpAnyH_done (by kernel_rfl) ?_ _
    have HHB6 := Lib.hid hb6
    have HM6 := Lib.hid hHeld
    clear hb6 hHeld M6 HRDG HFL5 HFR5
    generalize readV S P WN nN = rv at HRR HHB6 ⊢
    obtain ⟨r, okr⟩ := rv
    simp only at HRR HHB6 ⊢
    cases okr with
    | false =>
      have HRR := Lib.hid (show R = ([], 0, (WN, nN), s0) from HRR.out)
      go_wp2_with fail
      go_ret2
      rw [HRR.out]
      exact ⟨_, ⟨ad4, WN.length, cap4, WN, nN⟩, rfl, OwnChg.nil _ _, rfl, rfl, by rw [HSS.out]; exact HPN5.out.mods0 HM6.out, (HM5.out.mono (fun k hk => .inl (by simp at hk; simp [hk]))).trans HM6.out.nil, ⟨Int.le_refl _, by show (0 : Int) ≤ 255; decide⟩, .inr (fun k hk => HLW.out k hk)⟩
    | true =>
      obtain ⟨rn, hrn⟩ : ∃ n : Nat, r = (n : Int) := ⟨r.toNat, by have := HHB6.out.1; omega⟩
      subst hrn
      have HRL := Lib.hid (show rn < 256 from by have := HHB6.out.2; omega)
      have HRQ := Lib.hid (show R = ((stepN S P s0 rn).2.1, (rn : Int), (WN, nN), (stepN S P s0 rn).1) from HRR.out)
      have HM6D := Lib.hid (HM6.out.trans (show Mods [] w6 w6.drew from Mods.refl.drew))
      have HTS := Lib.hid (fun W (M : Mods [] w5 W) => step_ok W S P (HIS5.out W M) s0 rn (by have := HS6.out; omega) HRL.out)
      have HSC5 := Lib.hid (fun W (M : Mods [] w5 W) => HSC.out W _ (HPN5.out.mods0 M))
      have HW8 := Lib.hid (show IntKind.u8.wrap ((s0 : Nat) : Int) = ((s0 : Nat) : Int) from by rw [IntKind.wrap_u8]; have := HS6.out; omega)
      have HSTB := Lib.hid (show (stepN S P s0 rn).1 &&& bitN S = (stepN S P s0 rn).1 from by rw [HBN.out]; exact step_bits)
      have HSTL := Lib.hid (show (stepN S P s0 rn).1 < 64 from by
        have h1 := HSTB.out
        rw [HBN.out] at h1
        have h2 : (stepN S P s0 rn).1 &&& S.mask ≤ S.mask := Nat.and_le_right
        have := HMK.out
        omega)
      generalize stepN S P s0 rn = D at HRQ HTS HSTB HSTL
      go_upto_region 11 with (fail)
      refine heldStart (S := fun W => Mods [] w5 W) 18 rfl (by kernel_rfl) HM6D.out (fun hHeld => ?_)
      refine takeD (i := 0) (d := 84) (v := .agg S.cells) rfl rfl (by kernel_rfl) (by kernel_rfl) (by kernel_rfl) (fun _ _ _ h => h) (yieldsIf_load_row rfl 40 (.tmp 8) rfl (w.heap.size+1) rfl 40 S.cells (0, 0) _ (fun W M => (HB5.out.mods0 M).blk) Tryz.underlying40 rfl S.infoS) hHeld ?_
      simp only [List.setIfInBounds_toArray, List.set_cons_zero, List.set_cons_succ]
      refine takeD (i := 1) (d := 85) (v := ?_) rfl rfl (by kernel_rfl) (by kernel_rfl) (by kernel_rfl) (fun _ _ _ h => h) (Or.inl ⟨by rfl, ?_⟩) hHeld ?_
      rotate_left 1
      · (intro w hSw; (try dsimp only at hSw); go_simp; (try with_reducible rfl))
      simp only [List.setIfInBounds_toArray, List.set_cons_zero, List.set_cons_succ]
      refine takeD (i := 2) (d := 86) (v := ?_) rfl rfl (by kernel_rfl) (by kernel_rfl) (by kernel_rfl) (fun _ _ _ h => h) (Or.inl ⟨by rfl, ?_⟩) hHeld ?_
      rotate_left 1
      · (intro w hSw; (try dsimp only at hSw); go_simp; (try with_reducible rfl))
      simp only [List.setIfInBounds_toArray, List.set_cons_zero, List.set_cons_succ]
      refine takeD (i := 3) (d := 87) (v := ?_) rfl rfl (by kernel_rfl) (by kernel_rfl) (by kernel_rfl) (fun _ _ _ h => h) (Or.inl ⟨by rfl, ?_⟩) hHeld ?_
      rotate_left 1
      · (intro w hSw; (try dsimp only at hSw); go_simp; (try with_reducible rfl))
      simp only [List.setIfInBounds_toArray, List.set_cons_zero, List.set_cons_succ]
      refine takeD (i := 4) (d := 88) (v := .slice (some ⟨sb, 0, none⟩) l.length l.length) rfl rfl (by kernel_rfl) (by kernel_rfl) (by kernel_rfl) (fun _ _ _ h => h) (Or.inl ⟨by rfl, fun W hSw => ?_⟩) hHeld ?_
      · (try dsimp only at hSw)
        have cst := hSw.cell HC35.out (by simp)
        go_simp
        skip
      simp only [List.setIfInBounds_toArray, List.set_cons_zero, List.set_cons_succ]
      refine takeD (i := 5) (d := 89) (v := ?_) rfl rfl (by kernel_rfl) (by kernel_rfl) (by kernel_rfl) (fun _ _ _ h => h) (Or.inl ⟨by rfl, ?_⟩) hHeld ?_
      rotate_left 1
      · (intro w hSw; (try dsimp only at hSw); go_simp; (try with_reducible rfl))
      simp only [List.setIfInBounds_toArray, List.set_cons_zero, List.set_cons_succ]
      refine takeD (i := 6) (d := 90) (v := ?_) rfl rfl (by kernel_rfl) (by kernel_rfl) (by kernel_rfl) (fun _ _ _ h => h) (Or.inl ⟨by rfl, ?_⟩) hHeld ?_
      rotate_left 1
      · (intro w hSw; (try dsimp only at hSw); go_simp; (try with_reducible rfl))
      simp only [List.setIfInBounds_toArray, List.set_cons_zero, List.set_cons_succ]
      refine takeD (i := 7) (d := 91) (v := .int .u16 ((s0:Nat):Int)) rfl rfl (by kernel_rfl) (by kernel_rfl) (by kernel_rfl) (fun _ _ _ h => h) (Or.inl ⟨by rfl, fun W hSw => ?_⟩) hHeld ?_
      · (try dsimp only at hSw)
        have cst := HSC5.out _ hSw
        go_simp
        skip
      simp only [List.setIfInBounds_toArray, List.set_cons_zero, List.set_cons_succ]
      refine takeD (i := 8) (d := 92) (v := .int .u8 ((s0:Nat):Int)) rfl rfl (by kernel_rfl) (by kernel_rfl) (by kernel_rfl) (fun _ _ _ h => h) (Or.inl ⟨by rfl, fun W hSw => ?_⟩) hHeld ?_
      · (try dsimp only at hSw)
        have hw8 := HW8.out
        go_simp
        skip
      simp only [List.setIfInBounds_toArray, List.set_cons_zero, List.set_cons_succ]
      refine takeD (i := 9) (d := 93) (v := ?_) rfl rfl (by kernel_rfl) (by kernel_rfl) (by kernel_rfl) (fun _ _ _ h => h) (Or.inl ⟨by rfl, ?_⟩) hHeld ?_
      rotate_left 1
      · (intro w hSw; (try dsimp only at hSw); go_simp; (try with_reducible rfl))
      simp only [List.setIfInBounds_toArray, List.set_cons_zero, List.set_cons_succ]
      refine wpAnyH_ready (rs := [10]) (by kernel_rfl) (by simp) ?_
      refine AllReadyH.cons rfl (fun K hK => ?_) AllReadyH.nil
      go_simp
      go_wp2_with (go_at_call 86; refine (HTS.out _ hHeld).mono ?_; rintro e w7 ⟨v, rfl, O7, M7⟩; have HO7 := Lib.hid O7; have HM7 := Lib.hid M7; clear O7)
      refine hK.out _ _ ?_ (fun hHeld => ?_)
      · exact hHeld.trans M7
      clear hK K
      refine takeD (i := 11) (d := 83) (v := ?_) rfl rfl (by kernel_rfl) (by kernel_rfl) (by kernel_rfl) (fun _ _ _ h => h) (Or.inl ⟨by rfl, ?_⟩) hHeld ?_
      rotate_left 1
      · (intro w hSw; (try dsimp only at hSw); go_simp; (try with_reducible rfl))
      simp only [List.setIfInBounds_toArray, List.set_cons_zero, List.set_cons_succ]
      refine takeD (i := 12) (d := 95) (v := ?_) rfl rfl (by kernel_rfl) (by kernel_rfl) (by kernel_rfl) (fun _ _ _ h => h) (Or.inl ⟨by rfl, ?_⟩) hHeld ?_
      rotate_left 1
      · (intro w hSw; (try dsimp only at hSw); go_simp; (try with_reducible rfl))
      simp only [List.setIfInBounds_toArray, List.set_cons_zero, List.set_cons_succ]
      refine takeD (i := 13) (d := 96) (v := ?_) rfl rfl (by kernel_rfl) (by kernel_rfl) (by kernel_rfl) (fun _ _ _ h => h) (Or.inl ⟨by rfl, ?_⟩) hHeld ?_
      rotate_left 1
      · (intro w hSw; (try dsimp only at hSw); go_simp; (try with_reducible rfl))
      simp only [List.setIfInBounds_toArray, List.set_cons_zero, List.set_cons_succ]
      refine takeD (i := 14) (d := 97) (v := ?_) rfl rfl (by kernel_rfl) (by kernel_rfl) (by kernel_rfl) (fun _ _ _ h => h) (Or.inl ⟨by rfl, ?_⟩) hHeld ?_
      rotate_left 1
      · (intro w hSw; (try dsimp only at hSw); go_simp; (try with_reducible rfl))
      simp only [List.setIfInBounds_toArray, List.set_cons_zero, List.set_cons_succ]
      refine takeD (i := 15) (d := 12) (v := ?_) rfl rfl (by kernel_rfl) (by kernel_rfl) (by kernel_rfl) (fun _ _ _ h => h) (Or.inl ⟨by rfl, ?_⟩) hHeld ?_
      rotate_left 1
      · (intro w hSw; (try dsimp only at hSw); go_simp; (try with_reducible rfl))
      simp only [List.setIfInBounds_toArray, List.set_cons_zero, List.set_cons_succ]
      refine takeD (i := 16) (d := 9) (v := ?_) rfl rfl (by kernel_rfl) (by kernel_rfl) (by kernel_rfl) (fun _ _ _ h => h) (Or.inl ⟨by rfl, ?_⟩) hHeld ?_
      rotate_left 1
      · (intro w hSw; (try dsimp only at hSw); go_simp; (try with_reducible rfl))
      simp only [List.setIfInBounds_toArray, List.set_cons_zero, List.set_cons_succ]
      refine takeD (i := 17) (d := 13) (v := ?_) rfl rfl (by kernel_rfl) (by kernel_rfl) (by kernel_rfl) (fun _ _ _ h => h) (Or.inl ⟨by rfl, ?_⟩) hHeld ?_
      rotate_left 1
      · (intro w hSw; (try dsimp only at hSw); go_simp; (try with_reducible rfl))
      simp only [List.setIfInBounds_toArray, List.set_cons_zero, List.set_cons_succ]
      refine wpAnyH_done (by kernel_rfl) ?_ _
      have HMZ := Lib.hid (HPN5.out.mods0 hHeld)
      have HM57 := Lib.hid hHeld
      have c3 := HMZ.out.c3
      have hcs := HSC5.out _ hHeld
      have hfr := HMZ.out.sts.fr i
      have hw16 : IntKind.u16.wrap ((D.1 : Nat) : Int) = ((D.1 : Nat) : Int) := by rw [IntKind.wrap_u16]; have := HSTL.out; omega
      clear hHeld M7
      go_wp2_with fail
      go_ret2
      rw [HRQ.out]
      have hP := HMZ.out.putS (x := D.1) hi (by rw [HBS.out]; exact HSTB.out)
      have M8 : Mods [sb] w7 (w7.setCell ⟨sb, i, none⟩ (.int .u16 ((D.1 : Nat) : Int))) := (Mods.refl (S := [sb])).setCell (.inl (by simp)) _
      have hsz := (HM5.out.trans HM6D.out.nil : Mods [fb] w w6.drew).size
      refine ⟨v, ⟨ad4, WN.length, cap4, WN, nN⟩, rfl, (HO7.out.mods M8 (fun k hk => ?_)).down hsz, rfl, rfl, hP, ((HM5.out.trans HM57.out.nil).mono (fun k hk => .inl (by simp at hk; simp [hk]))).trans (M8.mono (fun k hk => .inl (by simp at hk; simp [hk]))), ⟨by show (0 : Int) ≤ (rn : Int); omega, by show (rn : Int) ≤ 255; have := HRL.out; omega⟩, .inr (fun k hk => HLW.out k hk)⟩
      simp at hk; subst hk; exact Nat.lt_of_lt_of_le HSBL.out hsz
end
end Go.Proofs.YtijjkonephjodaaGreatDoor
