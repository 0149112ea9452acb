/- Samples of the dice for sensors: a contract. -/
import Derived.Test.YtijjkonephjodaaGreatDoorMoScP
import Derived.Test.YtijjkonephjodaaGreatDoorOneE
import Derived.Test.YtijjkonephjodaaGreatDoorJoAF
namespace Go.Proofs.YtijjkonephjodaaGreatDoor
open Go.RowKit
set_option linter.unusedVariables false
set_option linter.unusedSimpArgs false
set_option maxRecDepth 100000
/-- Sensors that lie apart of a block. -/
structure SenFree (b : Nat) (vs : Value) (l : List SenX) : Prop where
  s : ∀ k, vs.ownBlock = some k → k ≠ b
  p : ∀ i, i < l.length → ∀ k, (l.getD i default).S.conv.pts.ownBlock = some k → k ≠ b
theorem RdSens.free {w W : World} {b : Nat} {vs : Value} {l : List SenX} (h : RdSens w vs l) (hf : SenFree b vs l) (M : Mods [b] w W) : RdSens W vs l :=
  ⟨h.rd.mods senOk M (fun _ k hk => by simpa using hf.s k hk), fun i hi => (h.is i hi).mods M (fun _ k hk => by simpa using hf.p i hi k hk)⟩
/-- Some samples of the dice. -/
def MadeSmps (w : World) (b : Nat) (v : Value) (L : List Int) (n : Nat) (en : Ending) (w' : World) : Prop :=
  ∃ u X j, en = .returned u ∧ OwnE smpE w' w.heap.size u X ∧ X.length ≤ n ∧ IsDice w' b v L j ∧ Mods [b] w w'
def MkSmps (w : World) (b : Nat) (v : Value) (L : List Int) (u : Value) (k : Nat) (wr : World) : Prop :=
  ∃ X j, OwnE smpE wr w.heap.size u X ∧ X.length ≤ k ∧ IsDice wr b v L j ∧ Mods [b] w wr
/-- A sample under way. -/
def SmAt (w4 : World) (b : Nat) (v : Value) (L : List Int) (g8 : Nat) (wx : World) : Prop :=
  ∃ x : Smp, ∃ j, wx.heap[g8]? = some (.cells x.cells.toArray 103 (0, 0)) ∧ IsDice wx b v L j ∧ Mods [b] w4 wx
theorem smp_set0 {w : World} {g : Nat} {x : Smp} {T : TypeId} {fr : Nat × Nat} (h : w.heap[g]? = some (.cells x.cells.toArray T fr)) (r : Nat) (hr : r < 256) : (w.setCell ⟨g, 0, none⟩ (.int .u8 (r : Int))).heap[g]? = some (.cells ({ x with num := ⟨r, hr⟩ } : Smp).cells.toArray T fr) := heap_setCell h
theorem smp_set2 {w : World} {g : Nat} {x : Smp} {T : TypeId} {fr : Nat × Nat} (h : w.heap[g]? = some (.cells x.cells.toArray T fr)) (r : Nat) (hr : r < 256) : (w.setCell ⟨g, 2, none⟩ (.int .u8 (r : Int))).heap[g]? = some (.cells ({ x with raw := ⟨r, hr⟩ } : Smp).cells.toArray T fr) := heap_setCell h
theorem smp_set3 {w : World} {g : Nat} {x : Smp} {T : TypeId} {fr : Nat × Nat} (h : w.heap[g]? = some (.cells x.cells.toArray T fr)) (r : Nat) (hr : r < 65536) : (w.setCell ⟨g, 3, none⟩ (.int .u16 (r : Int))).heap[g]? = some (.cells ({ x with sts := ⟨r, hr⟩ } : Smp).cells.toArray T fr) := heap_setCell h
theorem smp_c0 {w : World} {g : Nat} {x : Smp} {T : TypeId} (h : w.heap[g]? = some (.cells x.cells.toArray T (0, 0))) : w.cell? ⟨g, 0, none⟩ = some (.int .u8 ((x.num.val : Nat) : Int)) ∧ w.frozen? ⟨g, 0, none⟩ = false := ⟨(cell_blk h 0).trans rfl, froz_blk h 0⟩
theorem smp_c1 {w : World} {g : Nat} {x : Smp} {T : TypeId} (h : w.heap[g]? = some (.cells x.cells.toArray T (0, 0))) : w.cell? ⟨g, 1, none⟩ = some (.bool x.ok) := (cell_blk h 1).trans rfl
theorem smp_c2 {w : World} {g : Nat} {x : Smp} {T : TypeId} (h : w.heap[g]? = some (.cells x.cells.toArray T (0, 0))) : w.cell? ⟨g, 2, none⟩ = some (.int .u8 ((x.raw.val : Nat) : Int)) ∧ w.frozen? ⟨g, 2, none⟩ = false := ⟨(cell_blk h 2).trans rfl, froz_blk h 2⟩
theorem smp_c3 {w : World} {g : Nat} {x : Smp} {T : TypeId} (h : w.heap[g]? = some (.cells x.cells.toArray T (0, 0))) : w.cell? ⟨g, 3, none⟩ = some (.int .u16 ((x.sts.val : Nat) : Int)) ∧ w.frozen? ⟨g, 3, none⟩ = false := ⟨(cell_blk h 3).trans rfl, froz_blk h 3⟩
theorem SmAt.put {w4 wx : World} {b g8 i j j4 : Nat} {v u : Value} {L : List Int} {x' : Smp} (hx : (wx.setCell ⟨g8, i, none⟩ u).heap[g8]? = some (.cells x'.cells.toArray 103 (0, 0))) (D : IsDice wx b v L j) (M : Mods [b] w4 wx) (hg : w4.heap.size ≤ g8) (D4 : IsDice w4 b v L j4) : SmAt w4 b v L g8 (wx.setCell ⟨g8, i, none⟩ u) := by
  have M' : Mods [g8] wx (wx.setCell ⟨g8, i, none⟩ u) := (Mods.refl (S := [g8])).setCell (.inl (by simp)) _
  have hb := D4.lt
  exact ⟨x', j, hx, D.mods M' (by simp; omega) (fun hl k hk => by have := D4.old hl k hk; simp; omega), M.comp M' (fun q hq => by simp at hq; subst hq; exact .inr hg)⟩
set_option maxHeartbeats 8000000 in
theorem samples_ok (w : World) (b : Nat) (v : Value) (L : List Int) (j : Nat) (h : IsDice w b v L j) (vs : Value) (l : List SenX) (hs : RdSens w vs l) (hf : SenFree b vs l) (hl : l.length ≤ 1000) :
    Calls Tryz.prog 16 #[.pointer (some ⟨b, 0, none⟩), vs] w fun en w' => MadeSmps w b v L l.length en w' := by
  have H := Lib.hid h
  have HOL := Lib.hid h.old
  have hb := h.lt
  have HBL := Lib.hid hb
  have HSW := Lib.hid (fun W (M : Mods [b] w W) => hs.free hf M)
  obtain ⟨ad, cap, rfl⟩ := hs.rd.len
  have HLL := Lib.hid hl
  have hcap : l.length ≤ 9223372036854775807 := by omega
  clear h hs hf hb
  go_enter Tryz.func16, Tryz.ntmps16
  go_wp2_with fail
  have HST := Lib.hid (show MkSmps w b v L (.slice none 0 0) 0 w from ⟨[], j, OwnE.nil _ _ _, by simp, H.out, Mods.refl⟩)
  go_loopw [5, 6] (fun u i wr => ∃ k : Nat, k ≤ l.length ∧ i = .int .i64 (k : Nat) ∧ MkSmps w b v L u k wr) (fun _ i _ => l.length - (intOf i).toNat)
  case atStart => exact ⟨0, Nat.zero_le _, rfl, HST.out⟩
  clear HST
  case round =>
    obtain ⟨k, hk, rfl, X, j1, hO, hXl, hD, hM⟩ := hrel
    obtain ⟨au, cu, rfl⟩ := (hO.rd smpOk).len
    have HO := Lib.hid hO
    have HXL := Lib.hid hXl
    have HD := Lib.hid hD
    have HM := Lib.hid hM
    clear hO hXl hD hM
    have i0 : (0 : Int) ≤ (k : Int) := by omega
    by_cases hlt : k < l.length
    · have i1 : (k : Int) < (l.length : Int) := by omega
      obtain ⟨bb, off, cap', hv2, hb1, hb2⟩ := (HSW.out _ HM.out).at (by omega)
      injection hv2 with hv3 hv5 hv4
      subst hv3 hv4
      clear hv5
      have HRG := Lib.hid (show wr.rangeAt bb (off + k * 28) (l.getD k default).S.cells.toList from (HSW.out _ HM.out).range hlt)
      have HIS := Lib.hid (fun W (M : Mods [b] wr W) => (HSW.out _ (HM.out.trans M)).is k hlt)
      have hone := Lib.hid (HIS.out _ Mods.refl).conv.rd.one
      generalize (l.getD k default).P = P at HIS
      generalize (l.getD k default).S = S at HRG HIS hone
      have HSS := Lib.hid (HIS.out _ Mods.refl).states
      have HNUM := Lib.hid (HIS.out _ Mods.refl).number
      go_wp2_with (first
        | (refine wpList_load_mid rfl 40 (.tmp 17) rfl bb (off + k * 28) (by rfl) S.cells.toList _ HRG.out Tryz.underlying40 rfl (Sen.infoS S) ?_)
        | (refine wpList_store_row (cs := S.cells) rfl 40 (.tmp 7) (.tmp 18) rfl (heap_alloc_new wr _) (by rfl) (by rfl) (by rfl) (Sen.infoS _) (Sen.one _ hone.out) ?_; go_loud (intro w3 R3 M3; have HB3 := Lib.hid (SenBox.mk R3); have HM3 := Lib.hid (freshA M3); clear R3 M3)))
      have HG7 := Lib.hid (show w.heap.size ≤ wr.heap.size ∧ wr.heap.size ≠ b from ⟨HM.out.size, by have := HBL.out; have := HM.out.size; omega⟩)
      have HGL := Lib.hid (show ∀ q, (Value.slice au X.length cu).ownBlock = some q → q < wr.heap.size from fun q hq => (HO.out.lt q hq).2)
      generalize wr.heap.size = g7 at HB3 HG7 HGL ⊢
      refine (bool_ok w3 b v L j1 (HD.out.mods0 HM3.out) 8 (by omega) (by omega)).mono ?_
      rintro e w4 ⟨q, j4, rfl, D4, M4⟩
      have HD4 := Lib.hid D4
      have HM34 := Lib.hid (show Mods [b] wr w4 from (HM3.out.nil).trans M4)
      have HB4 := Lib.hid (HB3.out.mods M4 (by simpa using HG7.out.2))
      have HM4 := Lib.hid (HM.out.trans HM34.out)
      have HO4 := Lib.hid (HO.out.mods HM34.out (fun q hq hm => by simp at hm; subst hm; have := (HO.out.lt _ hq).1; have := HBL.out; omega))
      clear D4 M4 HB3 HM3 HD HM HO HRG
      cases q with
      | true =>
        go_wp2_with fail
        go_roundw
        case rel => exact ⟨k + 1, by omega, by go_num, X, j4, HO4.out, by have := HXL.out; omega, HD4.out, HM4.out⟩
        case measure => simp [intOf]; omega
      | false =>
        have HIS4 := Lib.hid (fun W (M : Mods [b] w4 W) => HIS.out W (HM34.out.trans M))
        clear HIS HM34
        have HC0 := Lib.hid ((HB4.out.c 0).trans (show _ = some (Value.int .u8 ((S.number : Nat) : Int)) from rfl))
        have HG74 := Lib.hid (lt_of_block HB4.out.blk)
        go_upto_region 7 with (fail)
        go_cut [8] (fun u wx => ∃ g8, u = .pointer (some ⟨g8, 0, none⟩) ∧ w4.heap.size ≤ g8 ∧ SmAt w4 b v L g8 wx)
        case first => as_aux_lemma =>
          have HDd := Lib.hid (HD4.out.mods0 (show Mods [] w4 w4.drew from Mods.refl.drew))
          have HGB := Lib.hid (show w4.heap.size ≠ b from by have := HD4.out.lt; omega)
          clear HIS4 HO4 HM4 HSW HOL H
          refine heldStart (S := fun W => Mods [b] w4 W) 8 rfl (by kernel_rfl) Mods.refl.drew (fun hHeld => ?_)
          refine takeD (i := 0) (d := 21) (v := ?_) rfl rfl (by kernel_rfl) (by kernel_rfl) (by kernel_rfl) (fun _ _ _ h => h) (Or.inl ⟨by rfl, ?_⟩) hHeld ?_
          rotate_left 1
          · (intro w hSw; (try dsimp only at hSw); go_simp; (try with_reducible rfl))
          simp only [List.setIfInBounds_toArray, List.set_cons_zero, List.set_cons_succ]
          refine takeD (i := 1) (d := 22) (v := .int .u8 ((S.number:Nat):Int)) rfl rfl (by kernel_rfl) (by kernel_rfl) (by kernel_rfl) (fun _ _ _ h => h) (Or.inl ⟨by rfl, fun W hSw => ?_⟩) hHeld ?_
          · (try dsimp only at hSw)
            have cst := hSw.cell HC0.out (by simpa using HG7.out.2)
            go_simp
            skip
          simp only [List.setIfInBounds_toArray, List.set_cons_zero, List.set_cons_succ]
          refine takeD (i := 2) (d := 23) (v := ?_) rfl rfl (by kernel_rfl) (by kernel_rfl) (by kernel_rfl) (fun _ _ _ h => h) (Or.inl ⟨by rfl, ?_⟩) hHeld ?_
          rotate_left 1
          · (intro w hSw; (try dsimp only at hSw); go_simp; (try with_reducible rfl))
          simp only [List.setIfInBounds_toArray, List.set_cons_zero, List.set_cons_succ]
          refine wpAnyH_ready (rs := [3, 6]) (by kernel_rfl) (by simp) ?_
          refine AllReadyH.cons rfl (fun K hK => ?_) (AllReadyH.cons rfl (fun K hK => ?_) AllReadyH.nil)
          · go_simp
            go_wp2_with (go_at_call 29; refine (bool_ok _ b v L j4 HDd.out 6 (by omega) (by omega)).mono ?_; rintro e w5 ⟨q5, j5, rfl, D5, M5⟩)
            refine hK.out _ _ (hHeld.trans M5) (fun hHeld => ?_)
            clear hK K
            refine takeD (i := 4) (d := 25) (v := ?_) rfl rfl (by kernel_rfl) (by kernel_rfl) (by kernel_rfl) (fun _ _ _ h => h) (Or.inl ⟨by rfl, ?_⟩) hHeld ?_
            rotate_left 1
            · (intro w hSw; (try dsimp only at hSw); go_simp; (try with_reducible rfl))
            simp only [List.setIfInBounds_toArray, List.set_cons_zero, List.set_cons_succ]
            refine takeD (i := 5) (d := 26) (v := .agg #[.int .u8 ((S.number:Nat):Int), .bool (!q5), .int .u8 0, .int .u16 0]) rfl rfl (by kernel_rfl) (by kernel_rfl) (by kernel_rfl) (fun _ _ _ h => h) (Or.inl ⟨by rfl, fun W hSw => ?_⟩) hHeld ?_
            · (try dsimp only at hSw)
              skip
              go_simp
              skip
            simp only [List.setIfInBounds_toArray, List.set_cons_zero, List.set_cons_succ]
            have HZ5 := Lib.hid (show w4.heap.size ≤ w5.heap.size from M5.size)
            have MA := Lib.hid ((Mods.refl (S := []) (w := w5)).alloc (.cells #[.int .u8 0, .bool false, .int .u8 0, .int .u16 0] 103))
            refine wpAnyH_ready (rs := [6]) (by kernel_rfl) (by simp) ?_
            refine AllReadyH.cons rfl (fun K hK => ?_) AllReadyH.nil
            go_simp
            refine hK.out _ _ ?_ (fun hHeld => ?_)
            · exact hHeld.trans MA.out.nil
            clear hK K
            refine wpAnyH_ready (rs := [7]) (by kernel_rfl) (by simp) ?_
            refine AllReadyH.cons rfl (fun K hK => ?_) AllReadyH.nil
            refine exec_store rfl rfl rfl (heap_alloc_new _ _) rfl rfl (by rfl) Tryz.sizeSm (by simp [Value.oneCell']) (fun w6 R6 M6 => ?_)
            refine hK.out _ _ ?_ (fun hHeld => ?_)
            · exact hHeld.comp M6 (fun q hq => by simp at hq; subst hq; exact .inr HZ5.out)
            clear hK K
            refine wpAnyH_done (by kernel_rfl) ?_ _
            have HD6 := Lib.hid ((D5.mods0 MA.out).mods M6 (by have := D5.lt; simp; omega) (fun hl q hq => by have h1 := D5.old hl q hq; simp; omega))
            go_wp2_with fail
            go_meet
            exact ⟨_, rfl, HZ5.out, ⟨⟨S.number, HNUM.out⟩, !q5, ⟨0, by decide⟩, ⟨0, by decide⟩⟩, j5, R6, HD6.out, hHeld⟩
          · have MA := Lib.hid ((Mods.refl (S := []) (w := w4.drew)).alloc (.cells #[.int .u8 0, .bool false, .int .u8 0, .int .u16 0] 103))
            go_simp
            refine hK.out _ _ (hHeld.trans MA.out.nil) (fun hHeld => ?_)
            clear hK K
            refine wpAnyH_ready (rs := [3]) (by kernel_rfl) (by simp) ?_
            refine AllReadyH.cons rfl (fun K hK => ?_) AllReadyH.nil
            go_simp
            go_wp2_with (go_at_call 29; refine (bool_ok _ b v L j4 (HDd.out.mods0 MA.out) 6 (by omega) (by omega)).mono ?_; rintro e w5 ⟨q5, j5, rfl, D5, M5⟩)
            have HR5 := Lib.hid (M5.heap (heap_alloc_new w4.drew (.cells #[.int .u8 0, .bool false, .int .u8 0, .int .u16 0] 103)) (by simpa using HGB.out))
            refine hK.out _ _ (hHeld.trans M5) (fun hHeld => ?_)
            clear hK K
            refine takeD (i := 4) (d := 25) (v := ?_) rfl rfl (by kernel_rfl) (by kernel_rfl) (by kernel_rfl) (fun _ _ _ h => h) (Or.inl ⟨by rfl, ?_⟩) hHeld ?_
            rotate_left 1
            · (intro w hSw; (try dsimp only at hSw); go_simp; (try with_reducible rfl))
            simp only [List.setIfInBounds_toArray, List.set_cons_zero, List.set_cons_succ]
            refine takeD (i := 5) (d := 26) (v := .agg #[.int .u8 ((S.number:Nat):Int), .bool (!q5), .int .u8 0, .int .u16 0]) rfl rfl (by kernel_rfl) (by kernel_rfl) (by kernel_rfl) (fun _ _ _ h => h) (Or.inl ⟨by rfl, fun W hSw => ?_⟩) hHeld ?_
            · (try dsimp only at hSw)
              skip
              go_simp
              skip
            simp only [List.setIfInBounds_toArray, List.set_cons_zero, List.set_cons_succ]
            refine wpAnyH_ready (rs := [7]) (by kernel_rfl) (by simp) ?_
            refine AllReadyH.cons rfl (fun K hK => ?_) AllReadyH.nil
            refine exec_store rfl rfl rfl HR5.out rfl rfl (by rfl) Tryz.sizeSm (by simp [Value.oneCell']) (fun w6 R6 M6 => ?_)
            refine hK.out _ _ ?_ (fun hHeld => ?_)
            · exact hHeld.comp M6 (fun q hq => by simp at hq; subst hq; exact .inr (Nat.le_refl _))
            clear hK K
            refine wpAnyH_done (by kernel_rfl) ?_ _
            have HD6 := Lib.hid (D5.mods M6 (by have := HGB.out; simp; exact fun h => this h.symm) (fun hl q hq => by have h1 := HDd.out.old hl q hq; have h2 : q < w4.heap.size := h1; simp; exact fun h => by subst h; exact Nat.lt_irrefl _ h2))
            go_wp2_with fail
            go_meet
            exact ⟨_, rfl, Nat.le_refl _, ⟨⟨S.number, HNUM.out⟩, !q5, ⟨0, by decide⟩, ⟨0, by decide⟩⟩, j5, R6, HD6.out, hHeld⟩
        case rest => as_aux_lemma =>
          obtain ⟨g8, rfl, hg8, hAT⟩ := hcut
          have HAT := Lib.hid hAT
          have HG8 := Lib.hid (show w4.heap.size ≤ g8 ∧ g8 ≠ b ∧ g8 ≠ g7 from ⟨hg8, by have := HD4.out.lt; omega, by have := HG74.out; omega⟩)
          clear hAT hg8 HC0 HSW
          obtain ⟨wA, hwA⟩ : ∃ x, x = wc := ⟨_, rfl⟩
          subst hwA
          obtain ⟨x, jx, RX, DX, MX⟩ := HAT.out
          have c1 := smp_c1 RX
          have cd := ((HB4.out.mods MX (by simpa using HG7.out.2)).c 6).trans (show _ = some (Value.bool S.disc) from rfl)
          generalize x.ok = ov at c1
          generalize S.disc = dv at cd
          clear RX DX MX
          go_upto_region 8 with (fail)
          go_cut [32] (fun u wx => (∃ t, u = .bool t) ∧ Mods [] wA wx)
          case first => as_aux_lemma =>
            clear HIS4 HO4 HM4 HOL H HAT
            cases ov <;> cases dv <;> (go_wp2_with fail; go_meet; exact ⟨⟨_, rfl⟩, Mods.refl⟩)
          case rest => as_aux_lemma =>
          obtain ⟨⟨t, rfl⟩, MC⟩ := hcut
          have HAT := Lib.hid (show SmAt w4 b v L g8 wc from by obtain ⟨x, jx, RX, DX, MX⟩ := HAT.out; exact ⟨x, jx, MC.heap RX (by simp), DX.mods0 MC, MX.comp0 MC⟩)
          clear MC c1 cd
          obtain ⟨wB, hwB⟩ : ∃ x, x = wc := ⟨_, rfl⟩
          subst hwB
          go_upto_if 32 with (fail)
          go_cut [8] (fun u wx => u = .pointer (some ⟨g8, 0, none⟩) ∧ SmAt w4 b v L g8 wx)
          case first => as_aux_lemma =>
            cases t with
            | false =>
              go_wp2_with fail
              go_meet
              exact ⟨rfl, HAT.out⟩
            | true =>
              obtain ⟨x, jx, RX, DX, MX⟩ := HAT.out
              have HRX := Lib.hid RX
              have HDX := Lib.hid (DX.mods0 (show Mods [] wB wB.drew from Mods.refl.drew))
              have HMX := Lib.hid MX
              have HC23 := Lib.hid (((HB4.out.mods MX (by simpa using HG7.out.2)).c 23).trans (show _ = some (Value.int .u16 ((S.states : Nat) : Int)) from rfl))
              have HN7 := Lib.hid (show g7 ∉ [b, g8] from by have h1 := HG7.out.2; have h2 := HG8.out.2.2; simp; exact ⟨h1, fun h => h2 h.symm⟩)
              clear RX DX MX HIS4 HO4 HM4 HOL H HAT
              go_upto_region 9 with (fail)
              (try dsimp only [Act.put])
              refine heldStart (S := fun W => Mods [b, g8] wB W) 8 rfl (by kernel_rfl) Mods.refl.drew (fun hHeld => ?_)
              refine takeD (i := 0) (d := 33) (v := ?_) rfl rfl (by kernel_rfl) (by kernel_rfl) (by kernel_rfl) (fun _ _ _ h => h) (Or.inl ⟨by rfl, ?_⟩) hHeld ?_
              rotate_left 1
              · (intro w hSw; (try dsimp only at hSw); go_simp; (try with_reducible rfl))
              simp only [List.setIfInBounds_toArray, List.set_cons_zero, List.set_cons_succ]
              refine takeD (i := 3) (d := 36) (v := ?_) rfl rfl (by kernel_rfl) (by kernel_rfl) (by kernel_rfl) (fun _ _ _ h => h) (Or.inl ⟨by rfl, ?_⟩) hHeld ?_
              rotate_left 1
              · (intro w hSw; (try dsimp only at hSw); go_simp; (try with_reducible rfl))
              simp only [List.setIfInBounds_toArray, List.set_cons_zero, List.set_cons_succ]
              refine takeD (i := 4) (d := 37) (v := .int .u16 ((S.states:Nat):Int)) rfl rfl (by kernel_rfl) (by kernel_rfl) (by kernel_rfl) (fun _ _ _ h => h) (Or.inl ⟨by rfl, fun W hSw => ?_⟩) hHeld ?_
              · (try dsimp only at hSw)
                have cst := hSw.cell HC23.out HN7.out
                go_simp
                skip
              simp only [List.setIfInBounds_toArray, List.set_cons_zero, List.set_cons_succ]
              refine wpAnyH_ready (rs := [1]) (by kernel_rfl) (by simp) ?_
              refine AllReadyH.cons rfl (fun K hK => ?_) AllReadyH.nil
              go_simp
              go_wp2_with (go_at_call 24; refine (next_ok _ b v L jx HDX.out 32768 (by omega) (by omega)).mono ?_; rintro e w6 ⟨r, j6, rfl, r0, r1, D6, M6⟩)
              refine hK.out _ _ ?_ (fun hHeld => ?_)
              · exact hHeld.trans (M6.mono (fun q hq => .inl (by simp at hq; simp [hq])))
              clear hK K
              obtain ⟨rn, rfl⟩ := Int.eq_ofNat_of_zero_le r0
              have HW16 := Lib.hid (show IntKind.u16.wrap ((rn : Nat) : Int) = ((rn : Nat) : Int) from by rw [IntKind.wrap_u16]; omega)
              have HAND := Lib.hid (show bits .and .u16 ((rn : Nat) : Int) ((S.states : Nat) : Int) = ((rn &&& S.states : Nat) : Int) from u16_and_nat _ _ (by omega) HSS.out)
              have HLT := Lib.hid (show rn &&& S.states < 65536 from Nat.lt_of_le_of_lt Nat.and_le_right HSS.out)
              refine takeD (i := 2) (d := 35) (v := .int .u16 ((rn:Nat):Int)) rfl rfl (by kernel_rfl) (by kernel_rfl) (by kernel_rfl) (fun _ _ _ h => h) (Or.inl ⟨by rfl, fun W hSw => ?_⟩) hHeld ?_
              · (try dsimp only at hSw)
                have hw := HW16.out
                go_simp
                skip
              simp only [List.setIfInBounds_toArray, List.set_cons_zero, List.set_cons_succ]
              refine takeD (i := 5) (d := 38) (v := .int .u16 ((rn &&& S.states:Nat):Int)) rfl rfl (by kernel_rfl) (by kernel_rfl) (by kernel_rfl) (fun _ _ _ h => h) (Or.inl ⟨by rfl, fun W hSw => ?_⟩) hHeld ?_
              · (try dsimp only at hSw)
                have hw := HAND.out
                go_simp
                skip
              simp only [List.setIfInBounds_toArray, List.set_cons_zero, List.set_cons_succ]
              refine takeD (i := 6) (d := 39) (v := ?_) rfl rfl (by kernel_rfl) (by kernel_rfl) (by kernel_rfl) (fun _ _ _ h => h) (Or.inl ⟨by rfl, ?_⟩) hHeld ?_
              rotate_left 1
              · (intro w hSw; (try dsimp only at hSw); go_simp; (try with_reducible rfl))
              simp only [List.setIfInBounds_toArray, List.set_cons_zero, List.set_cons_succ]
              have HR6 := Lib.hid (M6.heap HRX.out (by simpa using HG8.out.2.1))
              have HM6 := Lib.hid (show Mods [b] w4 w6 from (HMX.out.comp0 Mods.refl.drew).trans M6)
              have ⟨cs3, cf3⟩ := smp_c3 HR6.out
              generalize rn &&& S.states = z at HLT ⊢
              refine wpAnyH_ready (rs := [7]) (by kernel_rfl) (by simp) ?_
              refine AllReadyH.cons rfl (fun K hK => ?_) AllReadyH.nil
              go_simp
              refine hK.out _ _ ?_ (fun hHeld => ?_)
              · exact hHeld.setCell (.inl (by simp)) _
              clear hK K
              refine wpAnyH_done (by kernel_rfl) ?_ _
              have hat := SmAt.put (smp_set3 HR6.out z HLT.out) D6 HM6.out HG8.out.1 HD4.out
              go_wp2_with fail
              go_meet
              exact ⟨rfl, hat⟩
          case rest => as_aux_lemma =>
          obtain ⟨rfl, hAT⟩ := hcut
          have HAT := Lib.hid hAT
          clear hAT
          obtain ⟨wD, hwD⟩ : ∃ x, x = wc := ⟨_, rfl⟩
          subst hwD
          obtain ⟨x, jx, RX, DX, MX⟩ := HAT.out
          have c1 := smp_c1 RX
          have cd := ((HB4.out.mods MX (by simpa using HG7.out.2)).c 6).trans (show _ = some (Value.bool S.disc) from rfl)
          generalize x.ok = ov at c1
          generalize S.disc = dv at cd
          clear RX DX MX
          go_upto_region 10 with (fail)
          go_cut [46] (fun u wx => (∃ t, u = .bool t) ∧ Mods [] wD wx)
          case first => as_aux_lemma =>
            clear HIS4 HO4 HM4 HOL H HAT
            cases ov <;> cases dv <;> (go_wp2_with fail; go_meet; exact ⟨⟨_, rfl⟩, Mods.refl⟩)
          case rest => as_aux_lemma =>
          obtain ⟨⟨t, rfl⟩, MC⟩ := hcut
          have HAT := Lib.hid (show SmAt w4 b v L g8 wc from by obtain ⟨x, jx, RX, DX, MX⟩ := HAT.out; exact ⟨x, jx, MC.heap RX (by simp), DX.mods0 MC, MX.comp0 MC⟩)
          clear MC c1 cd
          obtain ⟨wE, hwE⟩ : ∃ x, x = wc := ⟨_, rfl⟩
          subst hwE
          go_upto_if 46 with (fail)
          go_cut [8] (fun u wx => u = .pointer (some ⟨g8, 0, none⟩) ∧ SmAt w4 b v L g8 wx)
          case first => as_aux_lemma =>
            cases t with
            | false =>
              go_wp2_with fail
              go_meet
              exact ⟨rfl, HAT.out⟩
            | true =>
              obtain ⟨x, jx, RX, DX, MX⟩ := HAT.out
              have HBX := Lib.hid (HB4.out.mods MX (by simpa using HG7.out.2))
              have HNR := Lib.hid (nearI_ok wE b v L jx DX S P (HIS4.out _ MX))
              have HRX := Lib.hid RX
              have HMX := Lib.hid MX
              clear RX DX MX HIS4 HO4 HM4 HOL H HAT
              go_wp2_with (refine wpList_load_row rfl 40 (.tmp 7) rfl g7 (by rfl) _ _ _ _ HBX.out.blk Tryz.underlying40 rfl (Sen.infoS S) ?_)
              refine HNR.out.mono ?_
              rintro e w6 ⟨r, j6, rfl, r0, r1, D6, M6⟩
              obtain ⟨rn, rfl⟩ := Int.eq_ofNat_of_zero_le r0
              have HR6 := Lib.hid (M6.heap HRX.out (by simpa using HG8.out.2.1))
              have ⟨cs2, cf2⟩ := smp_c2 HR6.out
              have HAT6 := Lib.hid (SmAt.put (smp_set2 HR6.out rn (by omega)) D6 (HMX.out.trans M6) HG8.out.1 HD4.out)
              clear D6 M6 r0 r1
              go_wp2_with fail
              go_meet
              exact ⟨rfl, HAT6.out⟩
          case rest => as_aux_lemma =>
          obtain ⟨rfl, hAT⟩ := hcut
          have HAT := Lib.hid hAT
          clear hAT
          obtain ⟨wF, hwF⟩ : ∃ x, x = wc := ⟨_, rfl⟩
          subst hwF
          obtain ⟨x, jx, RX, DX, MX⟩ := HAT.out
          have HRX := Lib.hid RX
          have HMX := Lib.hid MX
          have HDX := Lib.hid DX
          clear RX DX MX HAT
          go_wp2_with fail
          refine (bool_ok wF b v L jx HDX.out 150 (by omega) (by omega)).mono ?_
          rintro e w6 ⟨t, j6, rfl, D6, M6⟩
          have HAT := Lib.hid (show SmAt w4 b v L g8 w6 from ⟨x, j6, M6.heap HRX.out (by simpa using HG8.out.2.1), D6, HMX.out.trans M6⟩)
          clear D6 M6 HRX HMX HDX
          go_upto_if 52 with (fail)
          go_cut [8] (fun u wx => u = .pointer (some ⟨g8, 0, none⟩) ∧ SmAt w4 b v L g8 wx)
          case first => as_aux_lemma =>
            cases t with
            | false =>
              go_wp2_with fail
              go_meet
              exact ⟨rfl, HAT.out⟩
            | true =>
              obtain ⟨x, jx, RX, DX, MX⟩ := HAT.out
              have HRX := Lib.hid RX
              have HMX := Lib.hid MX
              clear RX MX HIS4 HO4 HM4 HOL H HAT
              go_wp2_with fail
              refine (byte_ok _ b v L jx DX).mono ?_
              rintro e w7 ⟨r, j7, rfl, r0, r1, D7, M7⟩
              obtain ⟨rn, rfl⟩ := Int.eq_ofNat_of_zero_le r0
              have HR7 := Lib.hid (M7.heap HRX.out (by simpa using HG8.out.2.1))
              have ⟨cs2, cf2⟩ := smp_c2 HR7.out
              have HAT7 := Lib.hid (SmAt.put (smp_set2 HR7.out rn (by omega)) D7 (HMX.out.trans M7) HG8.out.1 HD4.out)
              clear D7 M7 r0 r1 DX HRX HMX
              go_wp2_with fail
              clear cs2 cf2
              obtain ⟨x, jx, RX, DX, MX⟩ := HAT7.out
              have HRX := Lib.hid RX
              have HMX := Lib.hid MX
              clear RX MX HAT7
              refine (next_ok _ b v L jx DX 65536 (by omega) (by omega)).mono ?_
              rintro e w8 ⟨r, j8, rfl, r0, r1, D8, M8⟩
              obtain ⟨rm, rfl⟩ := Int.eq_ofNat_of_zero_le r0
              have hw16 : IntKind.u16.wrap ((rm : Nat) : Int) = ((rm : Nat) : Int) := by rw [IntKind.wrap_u16]; omega
              have HR8 := Lib.hid (M8.heap HRX.out (by simpa using HG8.out.2.1))
              have ⟨cs3, cf3⟩ := smp_c3 HR8.out
              have HAT8 := Lib.hid (SmAt.put (smp_set3 HR8.out rm (by omega)) D8 (HMX.out.trans M8) HG8.out.1 HD4.out)
              clear D8 M8 r0 r1 DX HRX HMX
              go_wp2_with fail
              clear cs3 cf3
              obtain ⟨x, jx, RX, DX, MX⟩ := HAT8.out
              have HRX := Lib.hid RX
              have HMX := Lib.hid MX
              clear RX MX HAT8
              refine (byte_ok _ b v L jx DX).mono ?_
              rintro e w9 ⟨r, j9, rfl, r0, r1, D9, M9⟩
              obtain ⟨ro, rfl⟩ := Int.eq_ofNat_of_zero_le r0
              have HR9 := Lib.hid (M9.heap HRX.out (by simpa using HG8.out.2.1))
              have ⟨cs0, cf0⟩ := smp_c0 HR9.out
              have HAT9 := Lib.hid (SmAt.put (smp_set0 HR9.out ro (by omega)) D9 (HMX.out.trans M9) HG8.out.1 HD4.out)
              clear D9 M9 r0 r1 DX HRX HMX
              go_wp2_with fail
              go_meet
              exact ⟨rfl, HAT9.out⟩
          case rest => as_aux_lemma =>
          obtain ⟨rfl, hAT⟩ := hcut
          obtain ⟨x, jx, RX, DX, MX⟩ := hAT
          have HRX := Lib.hid RX
          have HDX := Lib.hid DX
          have HMX := Lib.hid (HM4.out.trans MX)
          have HOX := Lib.hid (HO4.out.mods MX (fun q hq hm => by simp at hm; subst hm; have := (HO4.out.lt _ hq).1; have := HBL.out; omega))
          clear RX DX MX
          go_wp2_with (first
            | (refine wpList_load_row rfl 103 (.tmp 8) rfl g8 (by rfl) _ _ _ _ HRX.out Tryz.underlying103 rfl Tryz.sizeSm ?_)
            | (refine wpList_oneE smpOk (by decide) (by rfl) (.tmp 64) rfl 65 rfl x x.cells.toArray (by rfl) (by rfl) ?_; go_loud (intro CS hCS; have HMA := Lib.hid ((Mods.refl (S := []) (w := wc)).alloc (.cells CS 103)); have HRE := Lib.hid (RdE.one (E := smpE) (a := x) (heap_alloc_new wc (.cells CS 103)) hCS); have HOA := Lib.hid (HOX.out.mods0 HMA.out); clear hCS))
            | (at_builtin; go_loud (refine wpList_appE smpOk (by rfl) (.tmp 63) (.tmp 65) rfl (by rfl) HOA.out (by rfl) HRE.out (by rw [List.length_singleton]; have h1 := HXL.out; have h2 := HLL.out; omega) (Nat.le_trans HMX.out.size HMA.out.size) ?_; intro VB WB OB MB; have HOB := Lib.hid OB; have HMB := Lib.hid MB; clear OB MB)))
          go_roundw
          case rel => exact ⟨k + 1, by omega, by go_num, X ++ [x], jx, HOB.out, by rw [List.length_append, List.length_singleton]; have := HXL.out; omega,
            (HDX.out.mods0 HMA.out).mods HMB.out (fun hm => by have h1 := HOA.out.back hm; have h2 := HBL.out; omega) (fun hl q hq hm => by have h1 := HOA.out.back hm; have h2 := HOL.out hl q hq; omega), (HMX.out.comp0 HMA.out).comp HMB.out (fun q hq => .inr (HOA.out.back hq))⟩
          case measure => simp [intOf]; omega
    · have i1 : ¬ (k : Int) < (l.length : Int) := by omega
      have hkl : k = l.length := by omega
      subst hkl
      go_wp2_with fail
      go_ret
      exact ⟨_, X, j1, rfl, HO.out, HXL.out, HD.out, HM.out⟩
end Go.Proofs.YtijjkonephjodaaGreatDoor
