/- monitor.events: contract. -/
import Derived.Test.YtijjkonephjodaaGreatDoorMoMade
import Derived.Test.YtijjkonephjodaaGreatDoorMoIx
import Derived.Test.YtijjkonephjodaaGreatDoorJoAD
namespace Go.Proofs.YtijjkonephjodaaGreatDoor
open Go.RowKit
set_option linter.unusedVariables false
set_option linter.unusedSimpArgs false
set_option maxRecDepth 100000
/-- Whether a change creates an event. -/
def enB (S : Sen) (c : Chg) : Bool := (if c.on then S.asrt else S.deas).testBit c.idx.toNat
def oneE (S : Sen) (raw : Nat) (c : Chg) : Evt := if S.disc then staE S.type S.number c.idx.toNat c.on else thrE S.type S.number c.idx.toNat c.on raw (S.raw c.idx.toNat)
/-- The events of changes. -/
def evsM (S : Sen) (l : List Chg) (raw : Nat) : List Evt := (l.filter (enB S)).map (oneE S raw)
theorem evsM_snoc (S : Sen) (l : List Chg) (raw k : Nat) (hk : k < l.length) : evsM S (l.take (k + 1)) raw = evsM S (l.take k) raw ++ if enB S (l.getD k default) then [oneE S raw (l.getD k default)] else [] := by
  unfold evsM
  rw [List.take_succ_eq_append_getElem hk, List.filter_append, List.map_append, List.getD_eq_getElem?_getD, List.getElem?_eq_getElem hk]
  congr 1
  simp only [List.filter_cons, List.filter_nil, Option.getD_some]
  split <;> rfl
theorem Tryz.sizeCh : (Tryz.prog.info? 162).map (·.size) = some 2 := by kernel_rfl
theorem evsM_len (S : Sen) (l : List Chg) (raw : Nat) : (evsM S l raw).length ≤ l.length := by
  unfold evsM
  rw [List.length_map]
  exact List.length_filter_le _ _
/-- Changes whose indices are those of a sensor. -/
def ChgIn9 (S : Sen) (l : List Chg) : Prop := ∀ i, i < l.length → 0 ≤ (l.getD i default).idx ∧ (l.getD i default).idx < (if S.disc then 15 else 6)
def EvsPost (w : World) (E : List Evt) (en : Ending) (w' : World) : Prop := ∃ v', en = .returned v' ∧ OwnE evE w' w.heap.size v' E ∧ Mods [] w w'
set_option maxHeartbeats 8000000 in
theorem events_ok (w : World) (hO : OffAt w) (S : Sen) (P : List Pt) (hS : IsSen w S P) (v : Value) (l : List Chg) (hv : RdChg w v l) (hin : ChgIn9 S l) (hl : l.length ≤ 100) (raw : Nat) (hraw : raw < 256) :
    Calls Tryz.prog 53 #[.agg S.cells, v, .int .u8 (raw : Nat)] w fun en w' => EvsPost w (evsM S l raw) en w' := by
  have M0 := Lib.hid ((Mods.refl (S := []) (w := w)).alloc (.cells S.cells 40))
  have HB0 := Lib.hid (SenBox.new w S)
  have HV := Lib.hid (hv.mods0 M0.out)
  have HO := Lib.hid (hO.mods0 M0.out)
  have HIN := Lib.hid hin
  have HL := Lib.hid hl
  have ht := hS.type
  have hn := hS.number
  have hra := hS.asrt
  have hrd := hS.deas
  have HRB := Lib.hid hS.raw
  obtain ⟨ad, cap, rfl⟩ := hv.len
  have hcap : l.length ≤ 9223372036854775807 := by obtain ⟨_, _, _, h1, h2, _⟩ := hv; exact Nat.le_trans h1 h2
  clear hv hO hin hl hS
  go_enter Tryz.func53, Tryz.ntmps53
  go_upto_region 1 with (fail)
  have HZ := Lib.hid (show w.heap.size ≤ (w.alloc (.cells S.cells 40)).heap.size from M0.out.size)
  generalize w.alloc (.cells S.cells 40) = w0 at M0 HB0 HV HO HZ ⊢
  generalize w.heap.size = g3 at HB0 HZ ⊢
  have HG30 := Lib.hid (show g3 < w0.heap.size from lt_of_block HB0.out.blk)
  go_wp2_with fail
  go_loopw [7, 14] (fun u i wr => ∃ k : Nat, k ≤ l.length ∧ i = .int .i64 (k : Nat) ∧ OwnE evE wr w0.heap.size u (evsM S (l.take k) raw) ∧ Mods [] w0 wr) (fun _ i _ => l.length - (intOf i).toNat)
  case atStart => exact ⟨0, Nat.zero_le _, rfl, OwnE.nil _ _ _, Mods.refl⟩
  case round =>
    obtain ⟨k, hk, rfl, hOu, hM⟩ := hrel
    obtain ⟨au, cu, hu⟩ := (hOu.rd evOk).len
    have i0 : (0 : Int) ≤ (k : Int) := by omega
    have HM := Lib.hid hM
    have HU := Lib.hid hOu
    have HEL := Lib.hid (show (evsM S (l.take k) raw).length ≤ 100 from by have h1 := evsM_len S (l.take k) raw; have h2 := HL.out; rw [List.length_take] at h1; omega)
    clear hM hOu hu
    by_cases hlt : k < l.length
    · have i1 : (k : Int) < (l.length : Int) := by omega
      obtain ⟨ad2, cap2, hv2, h1, h2, hc⟩ := HV.out.mods0 HM.out
      injection hv2 with hv3 _ hv4
      subst hv3 hv4
      obtain ⟨bb, off, rfl, x0, x1⟩ := hc k hlt
      have HSN := Lib.hid (evsM_snoc S l raw k hlt)
      have hix := HIN.out k hlt
      have HEB := Lib.hid (show enB S (l.getD k default) = (if (l.getD k default).on then S.asrt else S.deas).testBit (l.getD k default).idx.toNat from rfl)
      have HOE := Lib.hid (show oneE S raw (l.getD k default) = if S.disc then staE S.type S.number (l.getD k default).idx.toNat (l.getD k default).on else thrE S.type S.number (l.getD k default).idx.toNat (l.getD k default).on raw (S.raw (l.getD k default).idx.toNat) from rfl)
      generalize l.getD k default = c at x0 x1 HSN hix HEB HOE
      obtain ⟨ci, on⟩ := c
      simp only at x0 x1 hix HEB HOE
      obtain ⟨ix, rfl⟩ := Int.eq_ofNat_of_zero_le hix.1
      rw [Int.toNat_natCast] at HEB HOE
      have HXR := Lib.hid (show wr.rangeAt bb (off + k * 2) [.int .i64 ((ix : Nat) : Int), .bool on] from fun j u hu => by
        match j with
        | 0 => simp at hu; subst hu; exact x0
        | 1 => simp at hu; subst hu; exact x1
        | j + 2 => simp at hu)
      generalize enB S ⟨((ix : Nat) : Int), on⟩ = eb at HSN HEB
      generalize oneE S raw ⟨((ix : Nat) : Int), on⟩ = oe at HSN HOE
      generalize hen : evsM S (l.take (k + 1)) raw = EN at HSN
      have HEN := Lib.hid hen
      clear hen
      generalize evsM S (l.take k) raw = EK at HU HEL HSN
      clear hc x0 x1 h1 h2
      go_upto_region 5 with (first
        | (refine wpList_load_mid rfl 162 (.tmp 16) rfl bb (off + k * 2) (by rfl) [.int .i64 ((ix : Nat) : Int), .bool on] _ HXR.out Tryz.underlying162 rfl Tryz.sizeCh ?_)
        | (refine wpList_store_row (cs := #[.int .i64 ((ix : Nat) : Int), .bool on]) rfl 162 (.tmp 9) (.tmp 17) rfl (heap_alloc_new wr _) (by rfl) (by rfl) (by rfl) Tryz.sizeCh (by simp [Value.oneCell']) ?_; intro w3 R3 M3; have HF3 := Lib.hid (freshA M3); have HR3 := Lib.hid R3; clear R3 M3))
      have HM3 := Lib.hid (HM.out.trans HF3.out)
      have HU3 := Lib.hid (HU.out.mods0 HF3.out)
      clear HM HU HF3 HXR
      generalize wr.heap.size = g9 at HR3 ⊢
      have HX0 := Lib.hid ((cell_blk HR3.out 0).trans (show _ = some (Value.int .i64 ((ix : Nat) : Int)) from rfl))
      have HX1 := Lib.hid ((cell_blk HR3.out 1).trans (show _ = some (Value.bool on) from rfl))
      have HB3 := Lib.hid (HB0.out.mods0 HM3.out)
      have hx0 := HX0.out
      have hx1 := HX1.out
      have ca := HB3.out.rest.2.2.2.1
      have cd := HB3.out.rest.2.2.2.2.1
      have ix0 : (0 : Int) ≤ ((ix : Nat) : Int) := by omega
      have ix15 : ((ix : Nat) : Int) < 15 := by
        have := hix.2
        split at this <;> omega
      have hb16a := bit16 hra ix
      have hb16d := bit16 hrd ix
      have HNX0 := Lib.hid (fun (h : eb = false) => show EN = EK from by rw [HSN.out, h]; simp)
      have HNX1 := Lib.hid (fun (h : eb = true) => show EN = EK ++ [oe] from by rw [HSN.out, h]; rfl)
      clear HSN
      have HTH := Lib.hid (fun (hd : S.disc = false) W (M : Mods [] w0 W) => thrE_ok W (HO.out.mods0 M) S.type S.number ix on raw (S.raw ix) ht hn (by have := hix.2; rw [hd] at this; simp at this; omega) hraw (HRB.out ix))
      have HSA := Lib.hid (fun W => staE_ok W S.type S.number ix on ht hn (by omega))
      have HRI := Lib.hid (fun (hd : S.disc = false) => show ix < 6 from by have := hix.2; rw [hd] at this; simp at this; omega)
      cases on with
      | true =>
        have HBITS := hb16a
        clear hb16a hb16d
        clear HX1
        have HX1 := Lib.hid ((cell_blk HR3.out 1).trans (show _ = some (Value.bool true) from rfl))
        cases hq : eb with
        | false =>
          have hne := HNX0.out hq
          rw [hq] at HEB
          have hbb := HEB.out
          simp only [if_true, if_false, Bool.false_eq_true] at hbb
          rw [← hbb] at HBITS
          have HUN := Lib.hid (show OwnE evE w3 w0.heap.size _ EN from by rw [hne]; exact HU3.out)
          clear hq hne hbb
          go_wp2_with fail
          go_roundw
          case rel => exact ⟨k + 1, by omega, by go_num, by rw [HEN.out]; exact HUN.out, HM3.out⟩
          case measure => simp [intOf]; omega
        | true =>
          have hne := HNX1.out hq
          rw [hq] at HEB
          have hbb := HEB.out
          simp only [if_true, if_false, Bool.false_eq_true] at hbb
          rw [← hbb] at HBITS
          clear hq hbb
          go_upto_region 10 with (fail)
          have HM4 := Lib.hid (HM3.out.alloc (.cells zEv 65))
          have HA4 := Lib.hid ((Mods.refl (S := []) (w := w3)).alloc (.cells zEv 65))
          have HBQ0 := Lib.hid (heap_alloc_new w3 (.cells zEv 65))
          have HG11 := Lib.hid (Nat.le_refl w3.heap.size)
          generalize w3.alloc (.cells zEv 65) = w5 at HM4 HA4 HBQ0 ⊢
          generalize hg11 : w3.heap.size = g11 at HBQ0 ⊢
          have HGE := Lib.hid hg11
          clear hg11
          have HB5 := Lib.hid (HB3.out.mods0 HA4.out)
          have cdi := HB5.out.head.2.2.2.2.2.2
          have HT0 := Lib.hid HB3.out.head.1
          have HT1 := Lib.hid HB3.out.head.2.1
          have ct0 := HA4.out.cell HT0.out (by simp)
          have ct1 := HA4.out.cell HT1.out (by simp)
          have hx0 := HA4.out.cell HX0.out (by simp)
          have hx1 := HA4.out.cell HX1.out (by simp)
          go_upto_if 31 with (fail)
          go_cut [11] (fun u wx => u = .pointer (some ⟨g11, 0, none⟩) ∧ Mods [] w3 wx ∧ wx.heap[g11]? = some (.cells oe.cells.toArray 65 (0, 0)))
          case first => as_aux_lemma =>
            cases hd : S.disc with
            | true =>
              have HOQ := Lib.hid (show oe = staE S.type S.number ix true from by rw [HOE.out, hd]; rfl)
              rw [hd] at cdi
              clear hd
              go_wp2_with fail
              refine (HSA.out _).mono ?_
              rintro en w6 ⟨rfl, M6⟩
              have HB6 := Lib.hid (M6.heap HBQ0.out (by simp))
              have HM6 := Lib.hid (HA4.out.trans M6)
              clear M6
              go_wp2_with (refine wpList_store_row (cs := (staE S.type S.number ix true).cells.toArray) rfl 65 (.tmp 11) (.tmp 42) rfl HB6.out (by rfl) (by rfl) (by rfl) Tryz.sizeEv (Evt.one _) ?_; intro w7 R7 M7; have HR7 := Lib.hid R7; have HM7 := Lib.hid (HM6.out.comp M7 (fun q hq => by simp at hq; subst hq; exact .inr (Nat.le_of_eq HGE.out))); clear R7 M7)
              go_meet
              exact ⟨rfl, HM7.out, by rw [HOQ.out]; exact HR7.out⟩
            | false =>
              have HOQ := Lib.hid (show oe = thrE S.type S.number ix true raw (S.raw ix) from by rw [HOE.out, hd]; rfl)
              have HTH := Lib.hid (HTH.out hd)
              have HRW := Lib.hid (HB3.out.craw (HRI.out hd))
              have i6 : ((ix : Nat) : Int) < 6 := by have := HRI.out hd; omega
              rw [hd] at cdi
              clear hd
              go_upto_region 12 with (fail)
              have HBQ := Lib.hid (show w5.drew.heap[g11]? = _ from HBQ0.out)
              refine heldStart (S := fun W => Mods [] w3 W) 20 rfl (by kernel_rfl) HA4.out.drew (fun hHeld => ?_)
              refine takeD (i := 0) (d := 45) (v := ?_) rfl rfl (by kernel_rfl) (by kernel_rfl) (by kernel_rfl) (fun _ _ _ h => h) (Or.inl ⟨by rfl, ?_⟩) hHeld ?_
              rotate_left 1
              · (intro w hSw; (try dsimp only at hSw); go_simp; (try with_reducible rfl))
              simp only [List.setIfInBounds_toArray, List.set_cons_zero, List.set_cons_succ]
              refine takeD (i := 1) (d := 46) (v := .int .u8 ((S.type:Nat):Int)) rfl rfl (by kernel_rfl) (by kernel_rfl) (by kernel_rfl) (fun _ _ _ h => h) (Or.inl ⟨by rfl, fun W hSw => ?_⟩) hHeld ?_
              · (try dsimp only at hSw)
                have cst := hSw.cell HT1.out (by simp)
                go_simp
                skip
              simp only [List.setIfInBounds_toArray, List.set_cons_zero, List.set_cons_succ]
              refine takeD (i := 2) (d := 47) (v := ?_) rfl rfl (by kernel_rfl) (by kernel_rfl) (by kernel_rfl) (fun _ _ _ h => h) (Or.inl ⟨by rfl, ?_⟩) hHeld ?_
              rotate_left 1
              · (intro w hSw; (try dsimp only at hSw); go_simp; (try with_reducible rfl))
              simp only [List.setIfInBounds_toArray, List.set_cons_zero, List.set_cons_succ]
              refine takeD (i := 3) (d := 48) (v := .int .u8 ((S.number:Nat):Int)) rfl rfl (by kernel_rfl) (by kernel_rfl) (by kernel_rfl) (fun _ _ _ h => h) (Or.inl ⟨by rfl, fun W hSw => ?_⟩) hHeld ?_
              · (try dsimp only at hSw)
                have cst := hSw.cell HT0.out (by simp)
                go_simp
                skip
              simp only [List.setIfInBounds_toArray, List.set_cons_zero, List.set_cons_succ]
              refine takeD (i := 4) (d := 49) (v := ?_) rfl rfl (by kernel_rfl) (by kernel_rfl) (by kernel_rfl) (fun _ _ _ h => h) (Or.inl ⟨by rfl, ?_⟩) hHeld ?_
              rotate_left 1
              · (intro w hSw; (try dsimp only at hSw); go_simp; (try with_reducible rfl))
              simp only [List.setIfInBounds_toArray, List.set_cons_zero, List.set_cons_succ]
              refine takeD (i := 5) (d := 50) (v := .int .i64 ((ix:Nat):Int)) rfl rfl (by kernel_rfl) (by kernel_rfl) (by kernel_rfl) (fun _ _ _ h => h) (Or.inl ⟨by rfl, fun W hSw => ?_⟩) hHeld ?_
              · (try dsimp only at hSw)
                have cst := hSw.cell HX0.out (by simp)
                go_simp
                skip
              simp only [List.setIfInBounds_toArray, List.set_cons_zero, List.set_cons_succ]
              refine takeD (i := 6) (d := 51) (v := ?_) rfl rfl (by kernel_rfl) (by kernel_rfl) (by kernel_rfl) (fun _ _ _ h => h) (Or.inl ⟨by rfl, ?_⟩) hHeld ?_
              rotate_left 1
              · (intro w hSw; (try dsimp only at hSw); go_simp; (try with_reducible rfl))
              simp only [List.setIfInBounds_toArray, List.set_cons_zero, List.set_cons_succ]
              refine takeD (i := 7) (d := 52) (v := .bool true) rfl rfl (by kernel_rfl) (by kernel_rfl) (by kernel_rfl) (fun _ _ _ h => h) (Or.inl ⟨by rfl, fun W hSw => ?_⟩) hHeld ?_
              · (try dsimp only at hSw)
                have cst := hSw.cell HX1.out (by simp)
                go_simp
                skip
              simp only [List.setIfInBounds_toArray, List.set_cons_zero, List.set_cons_succ]
              refine takeD (i := 8) (d := 53) (v := ?_) rfl rfl (by kernel_rfl) (by kernel_rfl) (by kernel_rfl) (fun _ _ _ h => h) (Or.inl ⟨by rfl, ?_⟩) hHeld ?_
              rotate_left 1
              · (intro w hSw; (try dsimp only at hSw); go_simp; (try with_reducible rfl))
              simp only [List.setIfInBounds_toArray, List.set_cons_zero, List.set_cons_succ]
              refine takeD (i := 9) (d := 54) (v := ?_) rfl rfl (by kernel_rfl) (by kernel_rfl) (by kernel_rfl) (fun _ _ _ h => h) (Or.inl ⟨by rfl, ?_⟩) hHeld ?_
              rotate_left 1
              · (intro w hSw; (try dsimp only at hSw); go_simp; (try with_reducible rfl))
              simp only [List.setIfInBounds_toArray, List.set_cons_zero, List.set_cons_succ]
              refine takeD (i := 10) (d := 55) (v := .int .i64 ((ix:Nat):Int)) rfl rfl (by kernel_rfl) (by kernel_rfl) (by kernel_rfl) (fun _ _ _ h => h) (Or.inl ⟨by rfl, fun W hSw => ?_⟩) hHeld ?_
              · (try dsimp only at hSw)
                have cst := hSw.cell HX0.out (by simp)
                go_simp
                skip
              simp only [List.setIfInBounds_toArray, List.set_cons_zero, List.set_cons_succ]
              refine takeD (i := 11) (d := 56) (v := ?_) rfl rfl (by kernel_rfl) (by kernel_rfl) (by kernel_rfl) (fun _ _ _ h => h) (Or.inl ⟨by rfl, ?_⟩) hHeld ?_
              rotate_left 1
              · (intro w hSw; (try dsimp only at hSw); go_simp; (try with_reducible rfl))
              simp only [List.setIfInBounds_toArray, List.set_cons_zero, List.set_cons_succ]
              refine takeD (i := 12) (d := 57) (v := ?_) rfl rfl (by kernel_rfl) (by kernel_rfl) (by kernel_rfl) (fun _ _ _ h => h) (Or.inl ⟨by rfl, ?_⟩) hHeld ?_
              rotate_left 1
              · (intro w hSw; (try dsimp only at hSw); go_simp; (try with_reducible rfl))
              simp only [List.setIfInBounds_toArray, List.set_cons_zero, List.set_cons_succ]
              refine takeD (i := 13) (d := 58) (v := ?_) rfl rfl (by kernel_rfl) (by kernel_rfl) (by kernel_rfl) (fun _ _ _ h => h) (Or.inl ⟨by rfl, ?_⟩) hHeld ?_
              rotate_left 1
              · (intro w hSw; (try dsimp only at hSw); go_simp; (try with_reducible rfl))
              simp only [List.setIfInBounds_toArray, List.set_cons_zero, List.set_cons_succ]
              refine takeD (i := 14) (d := 59) (v := .int .u8 ((S.raw ix:Nat):Int)) rfl rfl (by kernel_rfl) (by kernel_rfl) (by kernel_rfl) (fun _ _ _ h => h) (Or.inl ⟨by rfl, fun W hSw => ?_⟩) hHeld ?_
              · (try dsimp only at hSw)
                have cst := hSw.cell HRW.out (by simp)
                go_simp
                skip
              simp only [List.setIfInBounds_toArray, List.set_cons_zero, List.set_cons_succ]
              refine wpAnyH_ready (rs := [15]) (by kernel_rfl) (by simp) ?_
              refine AllReadyH.cons rfl (fun K hK => ?_) AllReadyH.nil
              go_simp
              go_wp2_with (go_at_call 88; refine (HTH.out _ (HM3.out.trans hHeld)).mono ?_; rintro en w6 ⟨rfl, M6⟩; have HB6 := Lib.hid (M6.heap HBQ.out (by simp)))
              refine hK.out _ _ ?_ (fun hHeld => ?_)
              · exact hHeld.trans M6
              clear hK K
              refine takeD (i := 16) (d := 44) (v := ?_) rfl rfl (by kernel_rfl) (by kernel_rfl) (by kernel_rfl) (fun _ _ _ h => h) (Or.inl ⟨by rfl, ?_⟩) hHeld ?_
              rotate_left 1
              · (intro w hSw; (try dsimp only at hSw); go_simp; (try with_reducible rfl))
              simp only [List.setIfInBounds_toArray, List.set_cons_zero, List.set_cons_succ]
              refine takeD (i := 17) (d := 61) (v := ?_) rfl rfl (by kernel_rfl) (by kernel_rfl) (by kernel_rfl) (fun _ _ _ h => h) (Or.inl ⟨by rfl, ?_⟩) hHeld ?_
              rotate_left 1
              · (intro w hSw; (try dsimp only at hSw); go_simp; (try with_reducible rfl))
              simp only [List.setIfInBounds_toArray, List.set_cons_zero, List.set_cons_succ]
              refine takeD (i := 18) (d := 62) (v := ?_) rfl rfl (by kernel_rfl) (by kernel_rfl) (by kernel_rfl) (fun _ _ _ h => h) (Or.inl ⟨by rfl, ?_⟩) hHeld ?_
              rotate_left 1
              · (intro w hSw; (try dsimp only at hSw); go_simp; (try with_reducible rfl))
              simp only [List.setIfInBounds_toArray, List.set_cons_zero, List.set_cons_succ]
              refine wpAnyH_ready (rs := [19]) (by kernel_rfl) (by simp) ?_
              refine AllReadyH.cons rfl (fun K hK => ?_) AllReadyH.nil
              refine exec_store rfl rfl rfl HB6.out rfl rfl (by rfl) Tryz.sizeEv (Evt.one (thrE S.type S.number ix true raw (S.raw ix))) (fun w7 R7 M7 => ?_)
              refine hK.out _ _ ?_ (fun hHeld => ?_)
              · exact hHeld.comp M7 (fun q hq => by simp at hq; subst hq; exact .inr (Nat.le_of_eq HGE.out))
              clear hK K
              refine wpAnyH_done (by kernel_rfl) ?_ _
              go_wp2_with fail
              go_meet
              exact ⟨rfl, hHeld, by rw [HOQ.out]; exact R7⟩
          case rest => as_aux_lemma =>
            obtain ⟨rfl, MC, RC⟩ := hcut
            have HRC := Lib.hid RC
            have HMC := Lib.hid (HM3.out.trans MC)
            have HUC := Lib.hid (HU3.out.mods0 MC)
            clear MC RC HTH HSA HT0 HT1 ct0 ct1 hx0 hx1 cdi HB5 HB3 HBQ0 HA4 HM4
            go_upto_region 14 with (first
              | (refine wpList_load_row rfl 65 (.tmp 11) rfl g11 (by rfl) _ _ _ _ HRC.out Tryz.underlying65 rfl Tryz.sizeEv ?_)
              | (refine wpList_oneE evOk (by decide) (by rfl) (.tmp 64) rfl 65 rfl oe oe.cells.toArray (by rfl) (by rfl) ?_; intro CS hCS; have HCS := Lib.hid hCS; clear hCS; have HMA := Lib.hid ((Mods.refl (S := []) (w := wc)).alloc (.cells CS 65)); have HRX := Lib.hid (show RdE evE (wc.alloc (.cells CS 65)) (.slice (some ⟨wc.heap.size, 0, none⟩) 1 1) [oe] from RdE.one (a := oe) (heap_alloc_new wc _) HCS.out); have HOA := Lib.hid (HUC.out.mods0 HMA.out))
              | (at_builtin; refine wpList_appE evOk (by rfl) (.tmp 63) (.tmp 65) rfl (by rfl) HOA.out (by rfl) HRX.out (by rw [List.length_singleton]; have := HEL.out; omega) (Nat.le_trans HMC.out.size HMA.out.size) ?_; intro VB WB OB MB; have HOB := Lib.hid OB; have HMB := Lib.hid MB; clear OB MB))
            have HMN := Lib.hid (show Mods [] w0 WB from (HMC.out.trans HMA.out).comp HMB.out (fun q hq => .inr (HOA.out.back hq)))
            have HUN := Lib.hid (show OwnE evE WB w0.heap.size VB EN from by rw [hne]; exact HOB.out)
            clear HMB HOB HOA HRX HMA HMC HUC hne
            go_wp2_with fail
            go_roundw
            case rel => exact ⟨k + 1, by omega, by go_num, by rw [HEN.out]; exact HUN.out, HMN.out⟩
            case measure => simp [intOf]; omega
      | false =>
        have HBITS := hb16d
        clear hb16a hb16d
        clear HX1
        have HX1 := Lib.hid ((cell_blk HR3.out 1).trans (show _ = some (Value.bool false) from rfl))
        cases hq : eb with
        | false =>
          have hne := HNX0.out hq
          rw [hq] at HEB
          have hbb := HEB.out
          simp only [if_true, if_false, Bool.false_eq_true] at hbb
          rw [← hbb] at HBITS
          have HUN := Lib.hid (show OwnE evE w3 w0.heap.size _ EN from by rw [hne]; exact HU3.out)
          clear hq hne hbb
          go_wp2_with fail
          go_roundw
          case rel => exact ⟨k + 1, by omega, by go_num, by rw [HEN.out]; exact HUN.out, HM3.out⟩
          case measure => simp [intOf]; omega
        | true =>
          have hne := HNX1.out hq
          rw [hq] at HEB
          have hbb := HEB.out
          simp only [if_true, if_false, Bool.false_eq_true] at hbb
          rw [← hbb] at HBITS
          clear hq hbb
          go_upto_region 10 with (fail)
          have HM4 := Lib.hid (HM3.out.alloc (.cells zEv 65))
          have HA4 := Lib.hid ((Mods.refl (S := []) (w := w3)).alloc (.cells zEv 65))
          have HBQ0 := Lib.hid (heap_alloc_new w3 (.cells zEv 65))
          have HG11 := Lib.hid (Nat.le_refl w3.heap.size)
          generalize w3.alloc (.cells zEv 65) = w5 at HM4 HA4 HBQ0 ⊢
          generalize hg11 : w3.heap.size = g11 at HBQ0 ⊢
          have HGE := Lib.hid hg11
          clear hg11
          have HB5 := Lib.hid (HB3.out.mods0 HA4.out)
          have cdi := HB5.out.head.2.2.2.2.2.2
          have HT0 := Lib.hid HB3.out.head.1
          have HT1 := Lib.hid HB3.out.head.2.1
          have ct0 := HA4.out.cell HT0.out (by simp)
          have ct1 := HA4.out.cell HT1.out (by simp)
          have hx0 := HA4.out.cell HX0.out (by simp)
          have hx1 := HA4.out.cell HX1.out (by simp)
          go_upto_if 31 with (fail)
          go_cut [11] (fun u wx => u = .pointer (some ⟨g11, 0, none⟩) ∧ Mods [] w3 wx ∧ wx.heap[g11]? = some (.cells oe.cells.toArray 65 (0, 0)))
          case first => as_aux_lemma =>
            cases hd : S.disc with
            | true =>
              have HOQ := Lib.hid (show oe = staE S.type S.number ix false from by rw [HOE.out, hd]; rfl)
              rw [hd] at cdi
              clear hd
              go_wp2_with fail
              refine (HSA.out _).mono ?_
              rintro en w6 ⟨rfl, M6⟩
              have HB6 := Lib.hid (M6.heap HBQ0.out (by simp))
              have HM6 := Lib.hid (HA4.out.trans M6)
              clear M6
              go_wp2_with (refine wpList_store_row (cs := (staE S.type S.number ix false).cells.toArray) rfl 65 (.tmp 11) (.tmp 42) rfl HB6.out (by rfl) (by rfl) (by rfl) Tryz.sizeEv (Evt.one _) ?_; intro w7 R7 M7; have HR7 := Lib.hid R7; have HM7 := Lib.hid (HM6.out.comp M7 (fun q hq => by simp at hq; subst hq; exact .inr (Nat.le_of_eq HGE.out))); clear R7 M7)
              go_meet
              exact ⟨rfl, HM7.out, by rw [HOQ.out]; exact HR7.out⟩
            | false =>
              have HOQ := Lib.hid (show oe = thrE S.type S.number ix false raw (S.raw ix) from by rw [HOE.out, hd]; rfl)
              have HTH := Lib.hid (HTH.out hd)
              have HRW := Lib.hid (HB3.out.craw (HRI.out hd))
              have i6 : ((ix : Nat) : Int) < 6 := by have := HRI.out hd; omega
              rw [hd] at cdi
              clear hd
              go_upto_region 12 with (fail)
              have HBQ := Lib.hid (show w5.drew.heap[g11]? = _ from HBQ0.out)
              refine heldStart (S := fun W => Mods [] w3 W) 20 rfl (by kernel_rfl) HA4.out.drew (fun hHeld => ?_)
              refine takeD (i := 0) (d := 45) (v := ?_) rfl rfl (by kernel_rfl) (by kernel_rfl) (by kernel_rfl) (fun _ _ _ h => h) (Or.inl ⟨by rfl, ?_⟩) hHeld ?_
              rotate_left 1
              · (intro w hSw; (try dsimp only at hSw); go_simp; (try with_reducible rfl))
              simp only [List.setIfInBounds_toArray, List.set_cons_zero, List.set_cons_succ]
              refine takeD (i := 1) (d := 46) (v := .int .u8 ((S.type:Nat):Int)) rfl rfl (by kernel_rfl) (by kernel_rfl) (by kernel_rfl) (fun _ _ _ h => h) (Or.inl ⟨by rfl, fun W hSw => ?_⟩) hHeld ?_
              · (try dsimp only at hSw)
                have cst := hSw.cell HT1.out (by simp)
                go_simp
                skip
              simp only [List.setIfInBounds_toArray, List.set_cons_zero, List.set_cons_succ]
              refine takeD (i := 2) (d := 47) (v := ?_) rfl rfl (by kernel_rfl) (by kernel_rfl) (by kernel_rfl) (fun _ _ _ h => h) (Or.inl ⟨by rfl, ?_⟩) hHeld ?_
              rotate_left 1
              · (intro w hSw; (try dsimp only at hSw); go_simp; (try with_reducible rfl))
              simp only [List.setIfInBounds_toArray, List.set_cons_zero, List.set_cons_succ]
              refine takeD (i := 3) (d := 48) (v := .int .u8 ((S.number:Nat):Int)) rfl rfl (by kernel_rfl) (by kernel_rfl) (by kernel_rfl) (fun _ _ _ h => h) (Or.inl ⟨by rfl, fun W hSw => ?_⟩) hHeld ?_
              · (try dsimp only at hSw)
                have cst := hSw.cell HT0.out (by simp)
                go_simp
                skip
              simp only [List.setIfInBounds_toArray, List.set_cons_zero, List.set_cons_succ]
              refine takeD (i := 4) (d := 49) (v := ?_) rfl rfl (by kernel_rfl) (by kernel_rfl) (by kernel_rfl) (fun _ _ _ h => h) (Or.inl ⟨by rfl, ?_⟩) hHeld ?_
              rotate_left 1
              · (intro w hSw; (try dsimp only at hSw); go_simp; (try with_reducible rfl))
              simp only [List.setIfInBounds_toArray, List.set_cons_zero, List.set_cons_succ]
              refine takeD (i := 5) (d := 50) (v := .int .i64 ((ix:Nat):Int)) rfl rfl (by kernel_rfl) (by kernel_rfl) (by kernel_rfl) (fun _ _ _ h => h) (Or.inl ⟨by rfl, fun W hSw => ?_⟩) hHeld ?_
              · (try dsimp only at hSw)
                have cst := hSw.cell HX0.out (by simp)
                go_simp
                skip
              simp only [List.setIfInBounds_toArray, List.set_cons_zero, List.set_cons_succ]
              refine takeD (i := 6) (d := 51) (v := ?_) rfl rfl (by kernel_rfl) (by kernel_rfl) (by kernel_rfl) (fun _ _ _ h => h) (Or.inl ⟨by rfl, ?_⟩) hHeld ?_
              rotate_left 1
              · (intro w hSw; (try dsimp only at hSw); go_simp; (try with_reducible rfl))
              simp only [List.setIfInBounds_toArray, List.set_cons_zero, List.set_cons_succ]
              refine takeD (i := 7) (d := 52) (v := .bool false) rfl rfl (by kernel_rfl) (by kernel_rfl) (by kernel_rfl) (fun _ _ _ h => h) (Or.inl ⟨by rfl, fun W hSw => ?_⟩) hHeld ?_
              · (try dsimp only at hSw)
                have cst := hSw.cell HX1.out (by simp)
                go_simp
                skip
              simp only [List.setIfInBounds_toArray, List.set_cons_zero, List.set_cons_succ]
              refine takeD (i := 8) (d := 53) (v := ?_) rfl rfl (by kernel_rfl) (by kernel_rfl) (by kernel_rfl) (fun _ _ _ h => h) (Or.inl ⟨by rfl, ?_⟩) hHeld ?_
              rotate_left 1
              · (intro w hSw; (try dsimp only at hSw); go_simp; (try with_reducible rfl))
              simp only [List.setIfInBounds_toArray, List.set_cons_zero, List.set_cons_succ]
              refine takeD (i := 9) (d := 54) (v := ?_) rfl rfl (by kernel_rfl) (by kernel_rfl) (by kernel_rfl) (fun _ _ _ h => h) (Or.inl ⟨by rfl, ?_⟩) hHeld ?_
              rotate_left 1
              · (intro w hSw; (try dsimp only at hSw); go_simp; (try with_reducible rfl))
              simp only [List.setIfInBounds_toArray, List.set_cons_zero, List.set_cons_succ]
              refine takeD (i := 10) (d := 55) (v := .int .i64 ((ix:Nat):Int)) rfl rfl (by kernel_rfl) (by kernel_rfl) (by kernel_rfl) (fun _ _ _ h => h) (Or.inl ⟨by rfl, fun W hSw => ?_⟩) hHeld ?_
              · (try dsimp only at hSw)
                have cst := hSw.cell HX0.out (by simp)
                go_simp
                skip
              simp only [List.setIfInBounds_toArray, List.set_cons_zero, List.set_cons_succ]
              refine takeD (i := 11) (d := 56) (v := ?_) rfl rfl (by kernel_rfl) (by kernel_rfl) (by kernel_rfl) (fun _ _ _ h => h) (Or.inl ⟨by rfl, ?_⟩) hHeld ?_
              rotate_left 1
              · (intro w hSw; (try dsimp only at hSw); go_simp; (try with_reducible rfl))
              simp only [List.setIfInBounds_toArray, List.set_cons_zero, List.set_cons_succ]
              refine takeD (i := 12) (d := 57) (v := ?_) rfl rfl (by kernel_rfl) (by kernel_rfl) (by kernel_rfl) (fun _ _ _ h => h) (Or.inl ⟨by rfl, ?_⟩) hHeld ?_
              rotate_left 1
              · (intro w hSw; (try dsimp only at hSw); go_simp; (try with_reducible rfl))
              simp only [List.setIfInBounds_toArray, List.set_cons_zero, List.set_cons_succ]
              refine takeD (i := 13) (d := 58) (v := ?_) rfl rfl (by kernel_rfl) (by kernel_rfl) (by kernel_rfl) (fun _ _ _ h => h) (Or.inl ⟨by rfl, ?_⟩) hHeld ?_
              rotate_left 1
              · (intro w hSw; (try dsimp only at hSw); go_simp; (try with_reducible rfl))
              simp only [List.setIfInBounds_toArray, List.set_cons_zero, List.set_cons_succ]
              refine takeD (i := 14) (d := 59) (v := .int .u8 ((S.raw ix:Nat):Int)) rfl rfl (by kernel_rfl) (by kernel_rfl) (by kernel_rfl) (fun _ _ _ h => h) (Or.inl ⟨by rfl, fun W hSw => ?_⟩) hHeld ?_
              · (try dsimp only at hSw)
                have cst := hSw.cell HRW.out (by simp)
                go_simp
                skip
              simp only [List.setIfInBounds_toArray, List.set_cons_zero, List.set_cons_succ]
              refine wpAnyH_ready (rs := [15]) (by kernel_rfl) (by simp) ?_
              refine AllReadyH.cons rfl (fun K hK => ?_) AllReadyH.nil
              go_simp
              go_wp2_with (go_at_call 88; refine (HTH.out _ (HM3.out.trans hHeld)).mono ?_; rintro en w6 ⟨rfl, M6⟩; have HB6 := Lib.hid (M6.heap HBQ.out (by simp)))
              refine hK.out _ _ ?_ (fun hHeld => ?_)
              · exact hHeld.trans M6
              clear hK K
              refine takeD (i := 16) (d := 44) (v := ?_) rfl rfl (by kernel_rfl) (by kernel_rfl) (by kernel_rfl) (fun _ _ _ h => h) (Or.inl ⟨by rfl, ?_⟩) hHeld ?_
              rotate_left 1
              · (intro w hSw; (try dsimp only at hSw); go_simp; (try with_reducible rfl))
              simp only [List.setIfInBounds_toArray, List.set_cons_zero, List.set_cons_succ]
              refine takeD (i := 17) (d := 61) (v := ?_) rfl rfl (by kernel_rfl) (by kernel_rfl) (by kernel_rfl) (fun _ _ _ h => h) (Or.inl ⟨by rfl, ?_⟩) hHeld ?_
              rotate_left 1
              · (intro w hSw; (try dsimp only at hSw); go_simp; (try with_reducible rfl))
              simp only [List.setIfInBounds_toArray, List.set_cons_zero, List.set_cons_succ]
              refine takeD (i := 18) (d := 62) (v := ?_) rfl rfl (by kernel_rfl) (by kernel_rfl) (by kernel_rfl) (fun _ _ _ h => h) (Or.inl ⟨by rfl, ?_⟩) hHeld ?_
              rotate_left 1
              · (intro w hSw; (try dsimp only at hSw); go_simp; (try with_reducible rfl))
              simp only [List.setIfInBounds_toArray, List.set_cons_zero, List.set_cons_succ]
              refine wpAnyH_ready (rs := [19]) (by kernel_rfl) (by simp) ?_
              refine AllReadyH.cons rfl (fun K hK => ?_) AllReadyH.nil
              refine exec_store rfl rfl rfl HB6.out rfl rfl (by rfl) Tryz.sizeEv (Evt.one (thrE S.type S.number ix false raw (S.raw ix))) (fun w7 R7 M7 => ?_)
              refine hK.out _ _ ?_ (fun hHeld => ?_)
              · exact hHeld.comp M7 (fun q hq => by simp at hq; subst hq; exact .inr (Nat.le_of_eq HGE.out))
              clear hK K
              refine wpAnyH_done (by kernel_rfl) ?_ _
              go_wp2_with fail
              go_meet
              exact ⟨rfl, hHeld, by rw [HOQ.out]; exact R7⟩
          case rest => as_aux_lemma =>
            obtain ⟨rfl, MC, RC⟩ := hcut
            have HRC := Lib.hid RC
            have HMC := Lib.hid (HM3.out.trans MC)
            have HUC := Lib.hid (HU3.out.mods0 MC)
            clear MC RC HTH HSA HT0 HT1 ct0 ct1 hx0 hx1 cdi HB5 HB3 HBQ0 HA4 HM4
            go_upto_region 14 with (first
              | (refine wpList_load_row rfl 65 (.tmp 11) rfl g11 (by rfl) _ _ _ _ HRC.out Tryz.underlying65 rfl Tryz.sizeEv ?_)
              | (refine wpList_oneE evOk (by decide) (by rfl) (.tmp 64) rfl 65 rfl oe oe.cells.toArray (by rfl) (by rfl) ?_; intro CS hCS; have HCS := Lib.hid hCS; clear hCS; have HMA := Lib.hid ((Mods.refl (S := []) (w := wc)).alloc (.cells CS 65)); have HRX := Lib.hid (show RdE evE (wc.alloc (.cells CS 65)) (.slice (some ⟨wc.heap.size, 0, none⟩) 1 1) [oe] from RdE.one (a := oe) (heap_alloc_new wc _) HCS.out); have HOA := Lib.hid (HUC.out.mods0 HMA.out))
              | (at_builtin; refine wpList_appE evOk (by rfl) (.tmp 63) (.tmp 65) rfl (by rfl) HOA.out (by rfl) HRX.out (by rw [List.length_singleton]; have := HEL.out; omega) (Nat.le_trans HMC.out.size HMA.out.size) ?_; intro VB WB OB MB; have HOB := Lib.hid OB; have HMB := Lib.hid MB; clear OB MB))
            have HMN := Lib.hid (show Mods [] w0 WB from (HMC.out.trans HMA.out).comp HMB.out (fun q hq => .inr (HOA.out.back hq)))
            have HUN := Lib.hid (show OwnE evE WB w0.heap.size VB EN from by rw [hne]; exact HOB.out)
            clear HMB HOB HOA HRX HMA HMC HUC hne
            go_wp2_with fail
            go_roundw
            case rel => exact ⟨k + 1, by omega, by go_num, by rw [HEN.out]; exact HUN.out, HMN.out⟩
            case measure => simp [intOf]; omega
    · have i1 : ¬ (k : Int) < (l.length : Int) := by omega
      have hkl : k = l.length := by omega
      have HUF := Lib.hid (show OwnE evE wr w0.heap.size _ (evsM S l raw) from by
        have h := HU.out
        rw [hkl, List.take_length] at h
        exact h)
      clear hkl
      go_wp2_with fail
      go_ret
      exact ⟨_, rfl, HUF.out.down M0.out.size, M0.out.trans HM.out⟩
end Go.Proofs.YtijjkonephjodaaGreatDoor
