/- Monitor.Health: a contract. -/
import Derived.Test.YtijjkonephjodaaGreatDoorMoScP
import Derived.Test.YtijjkonephjodaaGreatDoorMoFn
import Derived.Test.YtijjkonephjodaaGreatDoorJoAL
import Derived.Test.YtijjkonephjodaaGreatDoorOneE
import Derived.Test.YtijjkonephjodaaGreatDoorJoAD
namespace Go.Proofs.YtijjkonephjodaaGreatDoor
open Go.RowKit
set_option linter.unusedVariables false
set_option linter.unusedSimpArgs false
set_option maxRecDepth 100000
/-- The condition of the sensor at a place. -/
noncomputable def cndAt (l : List SenX) (F : List FltX) (st : List Nat) (i : Nat) : List Cnd := if (readM l F (l.getD i default).S.number).2 then [⟨entS (l.getD i default).S, sevI (st.getD i 0 % 256)⟩] else []
/-- The conditions of the first sensors. -/
noncomputable def ownH (l : List SenX) (F : List FltX) (st : List Nat) : Nat → List Cnd
  | 0 => []
  | k + 1 => ownH l F st k ++ cndAt l F st k
theorem ownH_len {l : List SenX} {F : List FltX} {st : List Nat} : ∀ k, (ownH l F st k).length ≤ k
  | 0 => by simp [ownH]
  | k + 1 => by
    rw [ownH, List.length_append]
    have := ownH_len (l := l) (F := F) (st := st) k
    have h2 : (cndAt l F st k).length ≤ 1 := by unfold cndAt; split <;> simp
    omega
section
variable {w : World} {mb fb sb : Nat} {vs va : Value} {l : List SenX} {A : List Asc} {F : List FltX} {st : List Nat}
set_option maxHeartbeats 8000000 in
theorem healthM_ok (h : MonAt w mb fb sb vs va l A F st) (vab : Value) (ab : List Ent) (hab : RdE entE w vab ab) (e : Ent) :
    Calls Tryz.prog 36 #[.pointer (some ⟨mb, 0, none⟩), vab, .agg e.cells.toArray] w fun en w' => HealthE w A ab (ownH l F st l.length) e en w' := by
  have M0 := Lib.hid ((Mods.refl (S := []) (w := w)).alloc (.cells e.cells.toArray 31))
  have HE0 := Lib.hid (heap_alloc_new w (.cells e.cells.toArray 31))
  have H := Lib.hid (h.mods0 M0.out)
  have HAB := Lib.hid (hab.mods0 entOk M0.out)
  have HP := Lib.hid (fun en w' => show HealthE w A ab (ownH l F st l.length) e en w' = (en = .returned (.tuple #[.int .i64 (hlthR A ab (ownH l F st l.length) e).1, .int .i64 (hlthR A ab (ownH l F st l.length) e).2]) ∧ Mods [] w w') from rfl)
  have HL32 := Lib.hid h.most
  obtain ⟨ad, cap, rfl⟩ := h.sens.rd.len
  obtain ⟨aad, acap, rfl⟩ := h.asc.len
  obtain ⟨bad, bcap, rfl⟩ := hab.len
  have c0 := H.out.c0
  clear h hab
  go_enter Tryz.func36, Tryz.ntmps36
  go_upto_region 2 with (fail)
  have HG5 := Lib.hid (show w.heap.size < (w.alloc (.cells e.cells.toArray 31)).heap.size from lt_of_block HE0.out)
  generalize w.alloc (.cells e.cells.toArray 31) = w0 at M0 HE0 H HAB HG5 c0 ⊢
  generalize hg5 : w.heap.size = g5 at HE0 HG5 ⊢
  go_wp2_with fail
  clear c0
  go_loopw [8, 18] (fun vo i wr => ∃ k : Nat, k ≤ l.length ∧ i = .int .i64 (k : Nat) ∧ Hid (OwnE cndE wr w0.heap.size vo (ownH l F st k)) ∧ Hid (Mods [] w0 wr)) (fun _ i _ => l.length - (intOf i).toNat)
  case atStart => exact ⟨0, Nat.zero_le _, rfl, Lib.hid (OwnE.nil _ _ _), Lib.hid Mods.refl⟩
  case round =>
    obtain ⟨k, hk, rfl, HOv, HM⟩ := hrel
    have i0 : (0 : Int) ≤ (k : Int) := by omega
    have HMO := Lib.hid (H.out.mods0 HM.out)
    obtain ⟨va8, vc8, rfl⟩ := (HOv.out.rd cndOk).len
    by_cases hlt : k < l.length
    · have i1 : (k : Int) < (l.length : Int) := by omega
      obtain ⟨bb, off, cap', hv2, hb1, hb2⟩ := HMO.out.sens.at (by omega)
      injection hv2 with hv3 hv5 hv4
      subst hv3 hv4
      clear hv5
      have HRG := Lib.hid (show wr.rangeAt bb (off + k * 28) (l.getD k default).S.cells.toList from HMO.out.sens.range hlt)
      have HIS := Lib.hid (HMO.out.sens.is k hlt)
      have HRD := Lib.hid (fun W (M : Mods [] wr W) => reading_ok (HMO.out.mods0 M) (l.getD k default).S.number)
      have HSTC := Lib.hid (fun W (M : Mods [] wr W) => (HMO.out.mods0 M).sc hlt)
      have HC3 := Lib.hid (fun W (M : Mods [] wr W) => (HMO.out.mods0 M).c3)
      have HSLT := Lib.hid (HMO.out.slt hlt)
      have HQ := Lib.hid (show ownH l F st (k + 1) = ownH l F st k ++ (if (readM l F (l.getD k default).S.number).2 then [⟨entS (l.getD k default).S, sevI (st.getD k 0 % 256)⟩] else []) from rfl)
      have HLN := Lib.hid (ownH_len (l := l) (F := F) (st := st) k)
      have hone := Lib.hid HIS.out.conv.rd.one
      generalize readM l F (l.getD k default).S.number = rv at HRD HQ
      generalize (l.getD k default).P = P at HIS
      generalize (l.getD k default).S = S at HRG HIS HQ hone HRD
      generalize st.getD k 0 = s0 at HSTC HSLT HQ
      have HENT := Lib.hid (entS_cells HIS.out)
      clear HMO
      go_wp2_with (first
        | (refine wpList_load_mid rfl 40 (.tmp 21) rfl bb (off + k * 28) (by rfl) S.cells.toList _ HRG.out Tryz.underlying40 rfl (Sen.infoS S) ?_)
        | (refine wpList_store_row (cs := S.cells) rfl 40 (.tmp 10) (.tmp 22) rfl (heap_alloc_new wr _) (by rfl) (by rfl) (by rfl) (Sen.infoS _) (Sen.one _ hone.out) ?_; go_loud (intro w3 R3 M3; have HB3 := Lib.hid (SenBox.mk R3); have HM3 := Lib.hid (freshA M3); have cn := (HB3.out.c 0).trans (show _ = some (Value.int .u8 ((S.number : Nat) : Int)) from rfl); clear R3 M3)))
      refine (HRD.out _ HM3.out).mono ?_
      rintro en w4 ⟨rfl, hrb, M4⟩
      have HM4 := Lib.hid (HM3.out.trans M4)
      have HB4 := Lib.hid (HB3.out.mods0 M4)
      clear M4 HM3 HB3 cn HRD
      obtain ⟨rd, okr⟩ := rv
      simp only at hrb ⊢
      clear hrb
      cases okr with
      | false =>
        have HQ2 := Lib.hid (show ownH l F st (k + 1) = ownH l F st k from by rw [HQ.out]; simp)
        go_wp2_with fail
        go_roundw
        case rel => exact ⟨k + 1, by omega, by go_num, Lib.hid (by rw [HQ2.out]; exact HOv.out.mods0 HM4.out), Lib.hid (HM.out.trans HM4.out)⟩
        case measure => simp [intOf]; omega
      | true =>
        obtain ⟨C, hC⟩ : ∃ C : Cnd, C = ⟨entS S, sevI (s0 % 256)⟩ := ⟨_, rfl⟩
        have HQ2 := Lib.hid (show ownH l F st (k + 1) = ownH l F st k ++ [C] from by rw [HQ.out, hC]; rfl)
        have HCE := Lib.hid (show C.cells = [.int .u8 ((S.eid : Nat) : Int), .int .u8 ((S.einst : Nat) : Int), .int .i64 (sevI (s0 % 256))] from by
          rw [hC]
          show [Value.int .u8 (((f8 S.eid).val : Nat) : Int), .int .u8 (((f8 S.einst).val : Nat) : Int), .int .i64 (sevI (s0 % 256))] = _
          rw [f8v HIS.out.eid, f8v HIS.out.einst])
        have HRGE := Lib.hid (show w4.rangeAt wr.heap.size 4 [.int .u8 ((S.eid : Nat) : Int), .int .u8 ((S.einst : Nat) : Int)] from fun j u hu => by
          rw [HB4.out.c]
          match j, hu with
          | 0, hu => exact hu
          | 1, hu => exact hu)
        have HSEV := Lib.hid (fun W => severity_ok (s0 % 256) (Nat.mod_lt _ (by decide)) W)
        have HW8 := Lib.hid (show IntKind.u8.wrap ((s0 : Nat) : Int) = ((s0 % 256 : Nat) : Int) from by rw [IntKind.wrap_u8]; omega)
        have HC3n := Lib.hid (HC3.out _ HM4.out)
        have HOW := Lib.hid (HOv.out.mods0 HM4.out)
        have HLE := Lib.hid (show (ownH l F st k).length + [C].length ≤ 1000000 from by have h1 := HLN.out; have h2 := HL32.out; simp; omega)
        obtain ⟨T, hT⟩ : ∃ T, T = (Value.slice va8 (ownH l F st k).length vc8).ownBlock.toList := ⟨_, rfl⟩
        have HT0 := Lib.hid (fun q (hq : q ∈ T) => show w0.heap.size ≤ q ∧ q < wr.heap.size from HOv.out.lt q (by rw [hT] at hq; simpa using hq))
        have HTT := Lib.hid hT
        have HN10 := Lib.hid (show wr.heap.size ∉ T from fun hm => by have := HT0.out _ hm; omega)
        have HNM := Lib.hid (show mb ∉ T from fun hm => by have h1 := HT0.out _ hm; have h2 := lt_of_block H.out.blk; omega)
        have HNS := Lib.hid (show sb ∉ T from fun hm => by have h1 := HT0.out _ hm; have h2 := lt_of_block H.out.sts; omega)
        have HSC4 := Lib.hid (HSTC.out _ HM4.out)
        clear hT
        generalize wr.heap.size = g10 at HRGE HB4 HN10 ⊢
        clear hC HENT HQ HRG HIS HSLT
        generalize sevI (s0 % 256) = sv at HCE HSEV
        go_upto_region 7 with (fail)
        (try dsimp only [Act.put])
        refine heldStart (S := fun W => Mods T w4 W) 16 rfl (by kernel_rfl) Mods.refl.drew (fun hHeld => ?_)
        refine takeD (i := 0) (d := 31) (v := ?_) rfl rfl (by kernel_rfl) (by kernel_rfl) (by kernel_rfl) (fun _ _ _ h => h) (Or.inl ⟨by rfl, ?_⟩) hHeld ?_
        rotate_left 1
        · (intro w hSw; (try dsimp only at hSw); go_simp; (try with_reducible rfl))
        simp only [List.setIfInBounds_toArray, List.set_cons_zero, List.set_cons_succ]
        refine takeD (i := 1) (d := 32) (v := ?_) rfl rfl (by kernel_rfl) (by kernel_rfl) (by kernel_rfl) (fun _ _ _ h => h) (Or.inl ⟨by rfl, ?_⟩) hHeld ?_
        rotate_left 1
        · (intro w hSw; (try dsimp only at hSw); go_simp; (try with_reducible rfl))
        simp only [List.setIfInBounds_toArray, List.set_cons_zero, List.set_cons_succ]
        refine takeD (i := 2) (d := 33) (v := .agg #[.int .u8 ((S.eid : Nat) : Int), .int .u8 ((S.einst : Nat) : Int)]) rfl rfl (by kernel_rfl) (by kernel_rfl) (by kernel_rfl) (fun _ _ _ h => h) (yieldsIf_load_mid (by rfl) 31 (.tmp 32) rfl g10 4 rfl [.int .u8 ((S.eid : Nat) : Int), .int .u8 ((S.einst : Nat) : Int)] _ (fun W h j u hu => h.cell (HRGE.out j u hu) HN10.out) Tryz.underlying31 rfl Tryz.sizeEnt) hHeld ?_
        simp only [List.setIfInBounds_toArray, List.set_cons_zero, List.set_cons_succ]
        refine takeD (i := 3) (d := 34) (v := ?_) rfl rfl (by kernel_rfl) (by kernel_rfl) (by kernel_rfl) (fun _ _ _ h => h) (Or.inl ⟨by rfl, ?_⟩) hHeld ?_
        rotate_left 1
        · (intro w hSw; (try dsimp only at hSw); go_simp; (try with_reducible rfl))
        simp only [List.setIfInBounds_toArray, List.set_cons_zero, List.set_cons_succ]
        refine takeD (i := 4) (d := 35) (v := ?_) rfl rfl (by kernel_rfl) (by kernel_rfl) (by kernel_rfl) (fun _ _ _ h => h) (Or.inl ⟨by rfl, ?_⟩) hHeld ?_
        rotate_left 1
        · (intro w hSw; (try dsimp only at hSw); go_simp; (try with_reducible rfl))
        simp only [List.setIfInBounds_toArray, List.set_cons_zero, List.set_cons_succ]
        refine takeD (i := 5) (d := 36) (v := ?_) rfl rfl (by kernel_rfl) (by kernel_rfl) (by kernel_rfl) (fun _ _ _ h => h) (Or.inl ⟨by rfl, ?_⟩) hHeld ?_
        rotate_left 1
        · (intro w hSw; (try dsimp only at hSw); go_simp; (try with_reducible rfl))
        simp only [List.setIfInBounds_toArray, List.set_cons_zero, List.set_cons_succ]
        refine takeD (i := 6) (d := 37) (v := .slice (some ⟨sb, 0, none⟩) l.length l.length) rfl rfl (by kernel_rfl) (by kernel_rfl) (by kernel_rfl) (fun _ _ _ h => h) (Or.inl ⟨by rfl, fun W hSw => ?_⟩) hHeld ?_
        · (try dsimp only at hSw)
          have cst := hSw.cell HC3n.out HNM.out
          go_simp
          skip
        simp only [List.setIfInBounds_toArray, List.set_cons_zero, List.set_cons_succ]
        refine takeD (i := 7) (d := 38) (v := ?_) rfl rfl (by kernel_rfl) (by kernel_rfl) (by kernel_rfl) (fun _ _ _ h => h) (Or.inl ⟨by rfl, ?_⟩) hHeld ?_
        rotate_left 1
        · (intro w hSw; (try dsimp only at hSw); go_simp; (try with_reducible rfl))
        simp only [List.setIfInBounds_toArray, List.set_cons_zero, List.set_cons_succ]
        refine takeD (i := 8) (d := 39) (v := ?_) rfl rfl (by kernel_rfl) (by kernel_rfl) (by kernel_rfl) (fun _ _ _ h => h) (Or.inl ⟨by rfl, ?_⟩) hHeld ?_
        rotate_left 1
        · (intro w hSw; (try dsimp only at hSw); go_simp; (try with_reducible rfl))
        simp only [List.setIfInBounds_toArray, List.set_cons_zero, List.set_cons_succ]
        refine takeD (i := 9) (d := 40) (v := .int .u16 ((s0:Nat):Int)) rfl rfl (by kernel_rfl) (by kernel_rfl) (by kernel_rfl) (fun _ _ _ h => h) (Or.inl ⟨by rfl, fun W hSw => ?_⟩) hHeld ?_
        · (try dsimp only at hSw)
          have cst := hSw.cell HSC4.out HNS.out
          go_simp
          skip
        simp only [List.setIfInBounds_toArray, List.set_cons_zero, List.set_cons_succ]
        refine takeD (i := 10) (d := 41) (v := .int .u8 ((s0%256:Nat):Int)) rfl rfl (by kernel_rfl) (by kernel_rfl) (by kernel_rfl) (fun _ _ _ h => h) (Or.inl ⟨by rfl, fun W hSw => ?_⟩) hHeld ?_
        · (try dsimp only at hSw)
          have hw8 := HW8.out
          go_simp
          skip
        simp only [List.setIfInBounds_toArray, List.set_cons_zero, List.set_cons_succ]
        refine wpAnyH_ready (rs := [11]) (by kernel_rfl) (by simp) ?_
        refine AllReadyH.cons rfl (fun K hK => ?_) AllReadyH.nil
        go_simp
        go_wp2_with (go_at_call 35; refine (HSEV.out _).mono ?_; rintro en w5 ⟨rfl, M5⟩; have HM45 := Lib.hid ((Mods.refl (S := []) (w := w4)).drew.trans M5))
        refine hK.out _ _ ?_ (fun hHeld => ?_)
        · exact hHeld.trans M5.nil
        clear hK K
        refine takeD (i := 12) (d := 43) (v := .agg #[.int .u8 ((S.eid:Nat):Int), .int .u8 ((S.einst:Nat):Int), .int .i64 sv]) rfl rfl (by kernel_rfl) (by kernel_rfl) (by kernel_rfl) (fun _ _ _ h => h) (Or.inl ⟨by rfl, fun W hSw => ?_⟩) hHeld ?_
        · (try dsimp only at hSw)
          skip
          go_simp
          skip
        simp only [List.setIfInBounds_toArray, List.set_cons_zero, List.set_cons_succ]
        refine wpAnyH_ready (rs := [13]) (by kernel_rfl) (by simp) ?_
        refine AllReadyH.cons rfl (fun K hK => ?_) AllReadyH.nil
        rw [if_pos (by rfl)]
        refine wp_oneE cndOk (by decide) (.tmp 43) rfl 44 rfl C #[.int .u8 ((S.eid : Nat) : Int), .int .u8 ((S.einst : Nat) : Int), .int .i64 sv] (by rfl) HCE.out.symm ?_
        intro CS hCS
        have HCS := Lib.hid hCS
        have MA := Lib.hid ((Mods.refl (S := []) (w := w5)).alloc (.cells CS 148))
        refine hK.out _ _ (hHeld.trans MA.out.nil) (fun hHeld => ?_)
        clear hK K hCS M5
        simp only [List.setIfInBounds_toArray, List.set_cons_zero, List.set_cons_succ]
        have HRX := Lib.hid (RdE.one (E := cndE) (a := C) (heap_alloc_new w5 (.cells CS 148)) HCS.out)
        have HMA := Lib.hid (HM45.out.trans MA.out)
        have HOA := Lib.hid (HOW.out.mods0 HMA.out)
        have HZA := Lib.hid (show w0.heap.size ≤ (w5.alloc (.cells CS 148)).heap.size from Nat.le_trans HM.out.size (HM4.out.trans HMA.out).size)
        refine wpAnyH_ready (rs := [14]) (by kernel_rfl) (by simp) ?_
        refine AllReadyH.cons rfl (fun K hK => ?_) AllReadyH.nil
        refine step_appE cndOk (by rfl) 45 rfl (.tmp 31) (.tmp 44) rfl (by rfl) HOA.out (by rfl) HRX.out HLE.out HZA.out (fun VB WB OB MB => ?_)
        have HOB := Lib.hid OB
        have HMB := Lib.hid ((HM.out.trans (HM4.out.trans HMA.out)).comp MB (fun q hq => .inr (HOA.out.back hq)))
        refine hK.out _ _ (hHeld.trans (HTT.out ▸ MB)) (fun hHeld => ?_)
        clear hK K OB MB
        simp only [List.setIfInBounds_toArray, List.set_cons_zero, List.set_cons_succ]
        obtain ⟨bv, bc, rfl⟩ := (HOB.out.rd cndOk).len
        refine takeD (i := 15) (d := 8) (v := ?_) rfl rfl (by kernel_rfl) (by kernel_rfl) (by kernel_rfl) (fun _ _ _ h => h) (Or.inl ⟨by rfl, ?_⟩) hHeld ?_
        rotate_left 1
        · (intro w hSw; (try dsimp only at hSw); go_simp; (try with_reducible rfl))
        simp only [List.setIfInBounds_toArray, List.set_cons_zero, List.set_cons_succ]
        refine wpAnyH_done (by kernel_rfl) ?_ _
        clear hHeld
        go_wp2_with fail
        go_roundw
        case rel => exact ⟨k + 1, by omega, by go_num, Lib.hid (by rw [HQ2.out]; have hx := HOB.out; rw [List.length_append] at hx; exact hx), Lib.hid HMB.out⟩
        case measure => simp [intOf]; omega
    · have i1 : ¬ (k : Int) < (l.length : Int) := by omega
      have hkl : k = l.length := by omega
      subst hkl
      have HC1n := Lib.hid HMO.out.c1
      have HAN := Lib.hid HMO.out.asc
      have HBN := Lib.hid (HAB.out.mods0 entOk HM.out)
      have HGE := Lib.hid (HM.out.heap HE0.out (by simp))
      have HHE := Lib.hid (fun W (M : Mods [] wr W) => healthE_ok W A _ (HAN.out.mods0 ascOk M) _ ab (HBN.out.mods0 entOk M) _ (ownH l F st l.length) ((HOv.out.mods0 M).rd cndOk) e)
      clear HMO
      go_upto_region 9 with (fail)
      (try dsimp only [Act.put])
      refine heldStart (S := fun W => Mods [] wr W) 12 rfl (by kernel_rfl) Mods.refl.drew (fun hHeld => ?_)
      refine takeD (i := 0) (d := 47) (v := ?_) rfl rfl (by kernel_rfl) (by kernel_rfl) (by kernel_rfl) (fun _ _ _ h => h) (Or.inl ⟨by rfl, ?_⟩) hHeld ?_
      rotate_left 1
      · (intro w hSw; (try dsimp only at hSw); go_simp; (try with_reducible rfl))
      simp only [List.setIfInBounds_toArray, List.set_cons_zero, List.set_cons_succ]
      refine takeD (i := 1) (d := 48) (v := ?_) rfl rfl (by kernel_rfl) (by kernel_rfl) (by kernel_rfl) (fun _ _ _ h => h) (Or.inl ⟨by rfl, ?_⟩) hHeld ?_
      rotate_left 1
      · (intro w hSw; (try dsimp only at hSw); go_simp; (try with_reducible rfl))
      simp only [List.setIfInBounds_toArray, List.set_cons_zero, List.set_cons_succ]
      refine takeD (i := 2) (d := 49) (v := ?_) rfl rfl (by kernel_rfl) (by kernel_rfl) (by kernel_rfl) (fun _ _ _ h => h) (Or.inl ⟨by rfl, ?_⟩) hHeld ?_
      rotate_left 1
      · (intro w hSw; (try dsimp only at hSw); go_simp; (try with_reducible rfl))
      simp only [List.setIfInBounds_toArray, List.set_cons_zero, List.set_cons_succ]
      refine takeD (i := 3) (d := 50) (v := .slice aad A.length acap) rfl rfl (by kernel_rfl) (by kernel_rfl) (by kernel_rfl) (fun _ _ _ h => h) (Or.inl ⟨by rfl, fun W hSw => ?_⟩) hHeld ?_
      · (try dsimp only at hSw)
        have cst := hSw.cell HC1n.out (by simp)
        go_simp
        skip
      simp only [List.setIfInBounds_toArray, List.set_cons_zero, List.set_cons_succ]
      refine takeD (i := 4) (d := 51) (v := ?_) rfl rfl (by kernel_rfl) (by kernel_rfl) (by kernel_rfl) (fun _ _ _ h => h) (Or.inl ⟨by rfl, ?_⟩) hHeld ?_
      rotate_left 1
      · (intro w hSw; (try dsimp only at hSw); go_simp; (try with_reducible rfl))
      simp only [List.setIfInBounds_toArray, List.set_cons_zero, List.set_cons_succ]
      refine takeD (i := 5) (d := 52) (v := ?_) rfl rfl (by kernel_rfl) (by kernel_rfl) (by kernel_rfl) (fun _ _ _ h => h) (Or.inl ⟨by rfl, ?_⟩) hHeld ?_
      rotate_left 1
      · (intro w hSw; (try dsimp only at hSw); go_simp; (try with_reducible rfl))
      simp only [List.setIfInBounds_toArray, List.set_cons_zero, List.set_cons_succ]
      refine takeD (i := 6) (d := 53) (v := .agg e.cells.toArray) rfl rfl (by kernel_rfl) (by kernel_rfl) (by kernel_rfl) (fun _ _ _ h => h) (yieldsIf_load_mid (by rfl) 31 (.tmp 5) rfl g5 0 rfl e.cells _ (fun W h k u hu => by
        rw [cell_blk (h.heap HGE.out (by simp)), Nat.zero_add]
        simpa using hu) Tryz.underlying31 rfl Tryz.sizeEnt) hHeld ?_
      simp only [List.setIfInBounds_toArray, List.set_cons_zero, List.set_cons_succ]
      refine wpAnyH_ready (rs := [7]) (by kernel_rfl) (by simp) ?_
      refine AllReadyH.cons rfl (fun K hK => ?_) AllReadyH.nil
      go_simp
      go_wp2_with (go_at_call 72; refine (HHE.out _ hHeld).mono ?_; rintro en w5 ⟨rfl, M5⟩)
      refine hK.out _ _ ?_ (fun hHeld => ?_)
      · exact hHeld.trans M5
      clear hK K
      refine takeD (i := 8) (d := 55) (v := ?_) rfl rfl (by kernel_rfl) (by kernel_rfl) (by kernel_rfl) (fun _ _ _ h => h) (Or.inl ⟨by rfl, ?_⟩) hHeld ?_
      rotate_left 1
      · (intro w hSw; (try dsimp only at hSw); go_simp; (try with_reducible rfl))
      simp only [List.setIfInBounds_toArray, List.set_cons_zero, List.set_cons_succ]
      refine takeD (i := 9) (d := 56) (v := ?_) rfl rfl (by kernel_rfl) (by kernel_rfl) (by kernel_rfl) (fun _ _ _ h => h) (Or.inl ⟨by rfl, ?_⟩) hHeld ?_
      rotate_left 1
      · (intro w hSw; (try dsimp only at hSw); go_simp; (try with_reducible rfl))
      simp only [List.setIfInBounds_toArray, List.set_cons_zero, List.set_cons_succ]
      refine takeD (i := 10) (d := 6) (v := ?_) rfl rfl (by kernel_rfl) (by kernel_rfl) (by kernel_rfl) (fun _ _ _ h => h) (Or.inl ⟨by rfl, ?_⟩) hHeld ?_
      rotate_left 1
      · (intro w hSw; (try dsimp only at hSw); go_simp; (try with_reducible rfl))
      simp only [List.setIfInBounds_toArray, List.set_cons_zero, List.set_cons_succ]
      refine takeD (i := 11) (d := 7) (v := ?_) rfl rfl (by kernel_rfl) (by kernel_rfl) (by kernel_rfl) (fun _ _ _ h => h) (Or.inl ⟨by rfl, ?_⟩) hHeld ?_
      rotate_left 1
      · (intro w hSw; (try dsimp only at hSw); go_simp; (try with_reducible rfl))
      simp only [List.setIfInBounds_toArray, List.set_cons_zero, List.set_cons_succ]
      refine wpAnyH_done (by kernel_rfl) ?_ _
      go_wp2_with fail
      go_ret2
      rw [HP.out]
      exact ⟨rfl, (M0.out.trans HM.out).trans hHeld⟩
end
end Go.Proofs.YtijjkonephjodaaGreatDoor
