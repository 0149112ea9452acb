/- The dice's OddSensor: contract. -/
import Derived.Test.YtijjkonephjodaaMadeOddC
namespace Go.Proofs.Ytijjkonephjodaa
open Go.RowKit

/-- A sensor under way: its block, the result's block, its points. -/
structure SX (w0 w : World) (b : Nat) (v : Value) (L : List Int) (n gr gc : Nat) (S : Sen) (P : List Pt) : Prop where
  bl : Bld w0 w b v L n 32 gr gc zS.cells S.cells
  own : OwnPts w w0.heap.size S.conv.pts P
  far : ∀ q, S.conv.pts.ownBlock = some q → q ≠ b ∧ q ≠ gr ∧ q ≠ gc
theorem SX.dice {w0 w w' : World} {b n n' gr gc : Nat} {v : Value} {L : List Int} {S : Sen} {P : List Pt} (h : SX w0 w b v L n gr gc S P) (D : IsDice w' b v L n') (M : Mods [b] w w') : SX w0 w' b v L n' gr gc S P :=
  ⟨h.bl.dice D M, M.owns h.own fun q hq => by simpa using (h.far q hq).1, h.far⟩
theorem SX.set {w0 w : World} {b n gr gc : Nat} {v : Value} {L : List Int} {S S' : Sen} {P : List Pt} (h : SX w0 w b v L n gr gc S P) (i : Nat) (u : Value) (hC : S.cells.setIfInBounds i u = S'.cells) (hp : S'.conv.pts = S.conv.pts) : SX w0 (w.setCell ⟨gc, i, none⟩ u) b v L n gr gc S' P :=
  ⟨hC ▸ h.bl.set i u, by rw [hp]; exact ((Mods.refl (S := [gc])).setCell (p := ⟨gc, i, none⟩) (.inl (by simp)) u).owns h.own (fun q hq => by simpa using (h.far q hq).2.2), by rw [hp]; exact h.far⟩
/-- What is asked of a sensor's numbers. -/
structure SNums (S : Sen) (P : List Pt) : Prop where
  conv : CNums S.conv P
  number : S.number < 256
  type : S.type < 256
  unit : S.unit < 256
  name : S.name.size ≤ 1000
  eid : S.eid < 256
  einst : S.einst < 256
  mask : S.mask < 256
  raw : ∀ i, S.raw i < 256
  hl : S.hl < 256
  hu : S.hu < 256
  states : S.states < 65536
  asrt : S.asrt < 65536
  deas : S.deas < 65536
  samples : I64 S.samples
theorem SNums.of {w : World} {S : Sen} {P : List Pt} (h : IsSen w S P) : SNums S P :=
  ⟨⟨h.conv.pok, h.conv.form, h.conv.m, h.conv.b, h.conv.k1, h.conv.k2⟩, h.number, h.type, h.unit, h.name, h.eid, h.einst, h.mask, h.raw, h.hl, h.hu, h.states, h.asrt, h.deas, h.samples⟩
theorem SNums.is {w : World} {S : Sen} {P : List Pt} (h : SNums S P) (hr : RdPts w S.conv.pts P) : IsSen w S P :=
  ⟨⟨hr, h.conv.1, h.conv.2.1, h.conv.2.2.1, h.conv.2.2.2.1, h.conv.2.2.2.2.1, h.conv.2.2.2.2.2⟩, h.number, h.type, h.unit, h.name, h.eid, h.einst, h.mask, h.raw, h.hl, h.hu, h.states, h.asrt, h.deas, h.samples⟩
/-- A sensor of the dice, often not valid. -/
def MadeOddS (w : World) (b : Nat) (v : Value) (L : List Int) (e : Ending) (w' : World) : Prop :=
  ∃ (S : Sen) (P : List Pt) (n : Nat), e = .returned (.agg S.cells) ∧ IsSen w' S P ∧ OwnPts w' w.heap.size S.conv.pts P ∧ P.length ≤ 13 ∧ IsDice w' b v L n ∧ Mods [b] w w'
def alphaA : ByteArray := ⟨#[97, 127]⟩
def Sen.setRaw (S : Sen) (j x : Nat) : Sen := match j with
  | 0 => { S with r0 := x }
  | 1 => { S with r1 := x }
  | 2 => { S with r2 := x }
  | 3 => { S with r3 := x }
  | 4 => { S with r4 := x }
  | _ => { S with r5 := x }
theorem setRaw_cells (S : Sen) {j : Nat} (hj : j < 6) (x : Nat) : S.cells.setIfInBounds (15 + j) (.int .u8 x) = (S.setRaw j x).cells := by
  match j, hj with
  | 0, _ | 1, _ | 2, _ | 3, _ | 4, _ | 5, _ => rfl
theorem setRaw_nums {S : Sen} {P : List Pt} (h : SNums S P) {j : Nat} (hj : j < 6) {x : Nat} (hx : x < 256) : SNums (S.setRaw j x) P := by
  have hr : ∀ i, (S.setRaw j x).raw i < 256 := fun i => by
    have h0 := h.raw i
    match j, hj with
    | 0, _ | 1, _ | 2, _ | 3, _ | 4, _ | 5, _ =>
      unfold Sen.raw at h0 ⊢
      rcases Nat.lt_or_ge i 6 with hi | hi
      · match i, hi with
        | 0, _ | 1, _ | 2, _ | 3, _ | 4, _ | 5, _ => first | exact hx | exact h0
      · rw [List.getD_eq_getElem?_getD, List.getElem?_eq_none (by simpa using hi)]; decide
  match j, hj with
  | 0, _ | 1, _ | 2, _ | 3, _ | 4, _ | 5, _ => exact { h with raw := hr }
set_option maxRecDepth 100000 in
set_option maxHeartbeats 4000000 in
theorem oddSensor_ok (w : World) (b : Nat) (v : Value) (L : List Int) (n : Nat) (h : IsDice w b v L n) :
    Calls Try.prog 15 #[.pointer (some ⟨b, 0, none⟩)] w fun e w' => MadeOddS w b v L e w' := by
  have hbl := h.lt
  have H := Lib.hid h
  have hv := Lib.hid h.vlt
  clear h
  go_enter Try.func15, Try.ntmps15
  go_wp2_with fail
  change Calls _ _ _ (w.alloc (.cells zS.cells 32)) _
  have M1 := (Mods.refl (S := []) (w := w)).alloc (.cells zS.cells 32)
  have R1 := heap_alloc_new w (.cells zS.cells 32)
  have Z1 : (w.alloc (.cells zS.cells 32)).heap.size = w.heap.size + 1 := by simp
  generalize w.alloc (.cells zS.cells 32) = w1 at M1 R1 Z1 ⊢
  generalize hgr : w.heap.size = gr at R1 Z1 hbl ⊢
  have HGR := Lib.hid hgr
  clear hgr
  have D1 := H.out.mods0 M1
  refine (byte_ok w1 b v L n D1).mono ?_
  rintro e wb ⟨num', nb, rfl, nu0, nu1, Db, Mb⟩
  obtain ⟨num, rfl⟩ := Int.eq_ofNat_of_zero_le nu0
  go_wp2_with fail
  refine (sensor_ok wb b v L nb Db num (by omega)).mono ?_
  rintro e w2 ⟨S, P, n2, rfl, IS, VS, OP, PL, SN, D2, M2⟩
  have hone := Lib.hid IS.conv.rd.one
  have HIC := Lib.hid (SNums.of IS)
  have zb := Mb.size
  have z2 := M2.size
  have HSX : Hid (∀ W, W.heap[w2.heap.size]? = some (.cells S.cells 32 (0, 0)) → Mods [w2.heap.size] (w2.alloc (.cells zS.cells 32)) W → SX w W b v L n2 gr w2.heap.size S P) := Lib.hid (fun W R M => by
    have MF := fresh M
    have hb2 := D2.lt
    refine ⟨⟨D2.mods0 MF, ((M1.nil.trans Mb).trans M2).comp0 MF, MF.heap (M2.heap (Mb.heap R1 (by simp; omega)) (by simp; omega)) (by simp), R, by have := HGR.out; omega, by have := HGR.out; omega, by have := HGR.out; omega, by omega, hv.out⟩, OwnPts.down (MF.owns OP (by simp)) (by have := HGR.out; omega), fun q hq => by have := OP.own q hq; refine ⟨?_, ?_, ?_⟩ <;> omega⟩)
  clear IS VS OP D2 M2 M1 R1 D1 Z1 Mb Db
  have hPL := Lib.hid (show P.length ≤ 13 by omega)
  go_wp2_with (refine wpList_store_row (cs := S.cells) rfl 32 (.tmp 3) (.tmp 7) rfl (heap_alloc_new w2 _) (by rfl) (by rfl) (by rfl) (Sen.infoS _) (Sen.one _ hone.out) ?_; intro w4 R4 M4; have HB := Lib.hid (HSX.out w4 R4 M4); clear M4 R4)
  clear HSX z2 zb
  generalize w2.heap.size = gc at HB ⊢
  refine (next_ok w4 b v L _ HB.out.bl.D 12 (by omega) (by omega)).mono ?_
  rintro e w5 ⟨k, n5, rfl, k0, k1, D5, M5⟩
  have HB := Lib.hid (HB.out.dice D5 M5)
  clear D5 M5
  rcases (show k = 0 ∨ k = 1 ∨ k = 2 ∨ k = 3 ∨ k = 4 ∨ k = 5 ∨ k = 6 ∨ k = 7 ∨ k = 8 ∨ 9 ≤ k by omega) with rfl | rfl | rfl | rfl | rfl | rfl | rfl | rfl | rfl | hk
  · go_wp2_with fail
    refine (next_ok w5 b v L _ HB.out.bl.D 19 (by omega) (by omega)).mono ?_
    rintro e w6 ⟨m', n6, rfl, m0, m1, D6, M6⟩
    obtain ⟨m, rfl⟩ := Int.eq_ofNat_of_zero_le m0
    have HB := Lib.hid (HB.out.dice D6 M6)
    clear D6 M6
    go_wp2_with fail
    refine (text_ok w6 b v L _ HB.out.bl.D alphaA (by decide) (by decide) m (by omega)).mono ?_
    rintro e w7 ⟨nm, n7, rfl, nm0, nm1, D7, M7⟩
    have HB := Lib.hid (HB.out.dice D7 M7)
    have hnm : nm.size ≤ 1000 := by omega
    clear D7 M7 nm0 nm1
    have cx : w7.cell? ⟨gc, 3, none⟩ = some (.string S.name) := HB.out.bl.c 3
    have fx : w7.frozen? ⟨gc, 3, none⟩ = false := HB.out.bl.f 3
    have HB : Hid (SX w (w7.setCell ⟨gc, 3, none⟩ (.string nm)) b v L n7 gr gc { S with name := nm } P) := Lib.hid (HB.out.set 3 (.string nm) rfl rfl)
    have HIN : Hid (SNums { S with name := nm } P) := Lib.hid { HIC.out with name := hnm }
    have HSB := Lib.hid (SenBox.mk HB.out.bl.G)
    go_wp2_with (first
      | (refine wpList_load_sen rfl (.tmp 3) rfl HSB.out (by rfl) ?_)
      | (refine wpList_store_row (cs := Sen.cells {S with name:=nm}) rfl 32 (.tmp 2) (.tmp 66) rfl HB.out.bl.R (by rfl) (by rfl) (by rfl) (Sen.infoS _) (Sen.one _ HB.out.own.rd.one) ?_; intro w39 R39 M39))
    have HF := HB.out.bl.fin R39 M39
    have HO : OwnPts w39 w.heap.size (Sen.conv {S with name:=nm}).pts P := M39.owns HB.out.own (fun q hq => by simpa using (HB.out.far q hq).2.1)
    refine bodyPost_ret (results_cell_row rfl _ _ gr _ _ _ _ rfl HF.R Try.underlying32 rfl (Sen.infoS _)) rfl ?_
    exact ⟨{S with name:=nm}, P, _, rfl, HIN.out.is HO.rd, HO, hPL.out, HF.D, HF.M⟩
  · go_wp2_with fail
    refine (next_ok w5 b v L _ HB.out.bl.D 8 (by omega) (by omega)).mono ?_
    rintro e w7 ⟨r, n7, rfl, r0, r1, D7, M7⟩
    have HB := Lib.hid (HB.out.dice D7 M7)
    clear D7 M7
    have cx : w7.cell? ⟨gc, 27, none⟩ = some (.int .i64 S.samples) := HB.out.bl.c 27
    have fx : w7.frozen? ⟨gc, 27, none⟩ = false := HB.out.bl.f 27
    have HB : Hid (SX w (w7.setCell ⟨gc, 27, none⟩ (.int .i64 (r - 1))) b v L n7 gr gc { S with samples := r - 1 } P) := Lib.hid (HB.out.set 27 (.int .i64 (r - 1)) rfl rfl)
    have HIN : Hid (SNums { S with samples := r - 1 } P) := Lib.hid { HIC.out with samples := (⟨by show _ ≤ r - 1; omega, by show r - 1 ≤ _; omega⟩ : I64 (r - 1)) }
    have HSB := Lib.hid (SenBox.mk HB.out.bl.G)
    go_wp2_with (first
      | (refine wpList_load_sen rfl (.tmp 3) rfl HSB.out (by rfl) ?_)
      | (refine wpList_store_row (cs := Sen.cells {S with samples:=r-1}) rfl 32 (.tmp 2) (.tmp 66) rfl HB.out.bl.R (by rfl) (by rfl) (by rfl) (Sen.infoS _) (Sen.one _ HB.out.own.rd.one) ?_; intro w39 R39 M39))
    have HF := HB.out.bl.fin R39 M39
    have HO : OwnPts w39 w.heap.size (Sen.conv {S with samples:=r-1}).pts P := M39.owns HB.out.own (fun q hq => by simpa using (HB.out.far q hq).2.1)
    refine bodyPost_ret (results_cell_row rfl _ _ gr _ _ _ _ rfl HF.R Try.underlying32 rfl (Sen.infoS _)) rfl ?_
    exact ⟨{S with samples:=r-1}, P, _, rfl, HIN.out.is HO.rd, HO, hPL.out, HF.D, HF.M⟩
  · have cx : w5.cell? ⟨gc, 6, none⟩ = some (.bool S.disc) := HB.out.bl.c 6
    have fx : w5.frozen? ⟨gc, 6, none⟩ = false := HB.out.bl.f 6
    have HB : Hid (SX w (w5.setCell ⟨gc, 6, none⟩ (.bool (!S.disc))) b v L n5 gr gc { S with disc := !S.disc } P) := Lib.hid (HB.out.set 6 (.bool (!S.disc)) rfl rfl)
    have HIN : Hid (SNums { S with disc := !S.disc } P) := Lib.hid { HIC.out with }
    have HSB := Lib.hid (SenBox.mk HB.out.bl.G)
    go_wp2_with (first
      | (refine wpList_load_sen rfl (.tmp 3) rfl HSB.out (by rfl) ?_)
      | (refine wpList_store_row (cs := Sen.cells {S with disc:=!S.disc}) rfl 32 (.tmp 2) (.tmp 66) rfl HB.out.bl.R (by rfl) (by rfl) (by rfl) (Sen.infoS _) (Sen.one _ HB.out.own.rd.one) ?_; intro w39 R39 M39))
    have HF := HB.out.bl.fin R39 M39
    have HO : OwnPts w39 w.heap.size (Sen.conv {S with disc:=!S.disc}).pts P := M39.owns HB.out.own (fun q hq => by simpa using (HB.out.far q hq).2.1)
    refine bodyPost_ret (results_cell_row rfl _ _ gr _ _ _ _ rfl HF.R Try.underlying32 rfl (Sen.infoS _)) rfl ?_
    exact ⟨{S with disc:=!S.disc}, P, _, rfl, HIN.out.is HO.rd, HO, hPL.out, HF.D, HF.M⟩
  · go_wp2_with fail
    refine (next_ok w5 b v L _ HB.out.bl.D 6 (by omega) (by omega)).mono ?_
    rintro e w6 ⟨j', n6, rfl, j0, j1, D6, M6⟩
    obtain ⟨j, rfl⟩ := Int.eq_ofNat_of_zero_le j0
    have hj : j < 6 := by omega
    have HB := Lib.hid (HB.out.dice D6 M6)
    clear D6 M6
    go_wp2_with fail
    refine (byte_ok w6 b v L _ HB.out.bl.D).mono ?_
    rintro e w7 ⟨r', n7, rfl, r0, r1, D7, M7⟩
    obtain ⟨r, rfl⟩ := Int.eq_ofNat_of_zero_le r0
    have HB := Lib.hid (HB.out.dice D7 M7)
    clear D7 M7
    have cx : w7.cell? ⟨gc, 15 + j, none⟩ = some (.int .u8 (S.raw j)) := SenBox.craw ⟨HB.out.bl.G⟩ hj
    have fx : w7.frozen? ⟨gc, 15 + j, none⟩ = false := HB.out.bl.f _
    have i1 : (0 : Int) ≤ (j : Int) := by omega
    have i2 : (j : Int) < 6 := by omega
    have hpp : (S.setRaw j r).conv.pts = S.conv.pts := by
      match j, hj with
      | 0, _ | 1, _ | 2, _ | 3, _ | 4, _ | 5, _ => rfl
    have HB : Hid (SX w (w7.setCell ⟨gc, 15 + j, none⟩ (.int .u8 r)) b v L n7 gr gc (S.setRaw j r) P) := Lib.hid (HB.out.set (15 + j) (.int .u8 r) (setRaw_cells S hj r) hpp)
    have HIN : Hid (SNums (S.setRaw j r) P) := Lib.hid (setRaw_nums HIC.out hj (by omega))
    clear hpp
    have HSB := Lib.hid (SenBox.mk HB.out.bl.G)
    go_wp2_with (first
      | (refine wpList_load_sen rfl (.tmp 3) rfl HSB.out (by rfl) ?_)
      | (refine wpList_store_row (cs := Sen.cells (S.setRaw j r)) rfl 32 (.tmp 2) (.tmp 66) rfl HB.out.bl.R (by rfl) (by rfl) (by rfl) (Sen.infoS _) (Sen.one _ HB.out.own.rd.one) ?_; intro w39 R39 M39))
    have HF := HB.out.bl.fin R39 M39
    have HO : OwnPts w39 w.heap.size (Sen.conv (S.setRaw j r)).pts P := M39.owns HB.out.own (fun q hq => by simpa using (HB.out.far q hq).2.1)
    refine bodyPost_ret (results_cell_row rfl _ _ gr _ _ _ _ rfl HF.R Try.underlying32 rfl (Sen.infoS _)) rfl ?_
    exact ⟨(S.setRaw j r), P, _, rfl, HIN.out.is HO.rd, HO, hPL.out, HF.D, HF.M⟩
  · skip
    go_wp2_with fail
    refine (byte_ok w5 b v L _ HB.out.bl.D).mono ?_
    rintro e w7 ⟨r', n7, rfl, r0, r1, D7, M7⟩
    obtain ⟨r, rfl⟩ := Int.eq_ofNat_of_zero_le r0
    have HB := Lib.hid (HB.out.dice D7 M7)
    clear D7 M7
    have cx : w7.cell? ⟨gc, 14, none⟩ = some (.int .u8 S.mask) := HB.out.bl.c 14
    have fx : w7.frozen? ⟨gc, 14, none⟩ = false := HB.out.bl.f 14
    have HB : Hid (SX w (w7.setCell ⟨gc, 14, none⟩ (.int .u8 r)) b v L n7 gr gc ({S with mask:=r}) P) := Lib.hid (HB.out.set 14 (.int .u8 r) rfl rfl)
    have HIN : Hid (SNums ({S with mask:=r}) P) := Lib.hid { HIC.out with mask := (show r < 256 by omega) }
    have HSB := Lib.hid (SenBox.mk HB.out.bl.G)
    go_wp2_with (first
      | (refine wpList_load_sen rfl (.tmp 3) rfl HSB.out (by rfl) ?_)
      | (refine wpList_store_row (cs := Sen.cells ({S with mask:=r})) rfl 32 (.tmp 2) (.tmp 66) rfl HB.out.bl.R (by rfl) (by rfl) (by rfl) (Sen.infoS _) (Sen.one _ HB.out.own.rd.one) ?_; intro w39 R39 M39))
    have HF := HB.out.bl.fin R39 M39
    have HO : OwnPts w39 w.heap.size (Sen.conv ({S with mask:=r})).pts P := M39.owns HB.out.own (fun q hq => by simpa using (HB.out.far q hq).2.1)
    refine bodyPost_ret (results_cell_row rfl _ _ gr _ _ _ _ rfl HF.R Try.underlying32 rfl (Sen.infoS _)) rfl ?_
    exact ⟨({S with mask:=r}), P, _, rfl, HIN.out.is HO.rd, HO, hPL.out, HF.D, HF.M⟩
  · skip
    go_wp2_with fail
    refine (next_ok w5 b v L _ HB.out.bl.D 65536 (by omega) (by omega)).mono ?_
    rintro e w7 ⟨r', n7, rfl, r0, r1, D7, M7⟩
    obtain ⟨r, rfl⟩ := Int.eq_ofNat_of_zero_le r0
    have HB := Lib.hid (HB.out.dice D7 M7)
    clear D7 M7
    have cx : w7.cell? ⟨gc, 23, none⟩ = some (.int .u16 S.states) := HB.out.bl.c 23
    have fx : w7.frozen? ⟨gc, 23, none⟩ = false := HB.out.bl.f 23
    have HB : Hid (SX w (w7.setCell ⟨gc, 23, none⟩ (.int .u16 r)) b v L n7 gr gc ({S with states:=r}) P) := Lib.hid (HB.out.set 23 (.int .u16 r) rfl rfl)
    have HIN : Hid (SNums ({S with states:=r}) P) := Lib.hid { HIC.out with states := (show r<65536 by omega) }
    have HSB := Lib.hid (SenBox.mk HB.out.bl.G)
    go_wp2_with (first
      | (refine wpList_load_sen rfl (.tmp 3) rfl HSB.out (by rfl) ?_)
      | (refine wpList_store_row (cs := Sen.cells ({S with states:=r})) rfl 32 (.tmp 2) (.tmp 66) rfl HB.out.bl.R (by rfl) (by rfl) (by rfl) (Sen.infoS _) (Sen.one _ HB.out.own.rd.one) ?_; intro w39 R39 M39))
    have HF := HB.out.bl.fin R39 M39
    have HO : OwnPts w39 w.heap.size (Sen.conv ({S with states:=r})).pts P := M39.owns HB.out.own (fun q hq => by simpa using (HB.out.far q hq).2.1)
    refine bodyPost_ret (results_cell_row rfl _ _ gr _ _ _ _ rfl HF.R Try.underlying32 rfl (Sen.infoS _)) rfl ?_
    exact ⟨({S with states:=r}), P, _, rfl, HIN.out.is HO.rd, HO, hPL.out, HF.D, HF.M⟩
  · skip
    go_wp2_with fail
    refine (next_ok w5 b v L _ HB.out.bl.D 65536 (by omega) (by omega)).mono ?_
    rintro e w7 ⟨r', n7, rfl, r0, r1, D7, M7⟩
    obtain ⟨r, rfl⟩ := Int.eq_ofNat_of_zero_le r0
    have HB := Lib.hid (HB.out.dice D7 M7)
    clear D7 M7
    have cx : w7.cell? ⟨gc, 24, none⟩ = some (.int .u16 S.asrt) := HB.out.bl.c 24
    have fx : w7.frozen? ⟨gc, 24, none⟩ = false := HB.out.bl.f 24
    have HB : Hid (SX w (w7.setCell ⟨gc, 24, none⟩ (.int .u16 r)) b v L n7 gr gc ({S with asrt:=r}) P) := Lib.hid (HB.out.set 24 (.int .u16 r) rfl rfl)
    have HIN : Hid (SNums ({S with asrt:=r}) P) := Lib.hid { HIC.out with asrt := (show r<65536 by omega) }
    have HSB := Lib.hid (SenBox.mk HB.out.bl.G)
    go_wp2_with (first
      | (refine wpList_load_sen rfl (.tmp 3) rfl HSB.out (by rfl) ?_)
      | (refine wpList_store_row (cs := Sen.cells ({S with asrt:=r})) rfl 32 (.tmp 2) (.tmp 66) rfl HB.out.bl.R (by rfl) (by rfl) (by rfl) (Sen.infoS _) (Sen.one _ HB.out.own.rd.one) ?_; intro w39 R39 M39))
    have HF := HB.out.bl.fin R39 M39
    have HO : OwnPts w39 w.heap.size (Sen.conv ({S with asrt:=r})).pts P := M39.owns HB.out.own (fun q hq => by simpa using (HB.out.far q hq).2.1)
    refine bodyPost_ret (results_cell_row rfl _ _ gr _ _ _ _ rfl HF.R Try.underlying32 rfl (Sen.infoS _)) rfl ?_
    exact ⟨({S with asrt:=r}), P, _, rfl, HIN.out.is HO.rd, HO, hPL.out, HF.D, HF.M⟩
  · go_wp2_with fail
    refine (oddConversion_ok w5 b v L _ HB.out.bl.D).mono ?_
    rintro e w7 ⟨C, P7, n7, rfl, IC, OC, PL7, D7, M7⟩
    have hg5 := lt_of_block HB.out.bl.G
    have hr5 := lt_of_block HB.out.bl.R
    have hb5 := HB.out.bl.D.lt
    have hw5 := HB.out.bl.hc
    have HB := Lib.hid (HB.out.dice D7 M7)
    have HONE := Lib.hid IC.rd.one
    have HIN : Hid (SNums { S with conv := C } P7) := Lib.hid { HIC.out with conv := ⟨IC.pok, IC.form, IC.m, IC.b, IC.k1, IC.k2⟩ }
    have HX : Hid (∀ W, W.heap[gc]? = some (.cells (setAll S.cells 7 C.cells.toList) 32 (0, 0)) → Mods [gc] w7 W → SX w W b v L n7 gr gc { S with conv := C } P7) := Lib.hid (fun W G M => by
      have hf : ∀ q, C.pts.ownBlock = some q → q ≠ b ∧ q ≠ gr ∧ q ≠ gc := fun q hq => by have := OC.own q hq; refine ⟨?_, ?_, ?_⟩ <;> omega
      rw [setAll_conv] at G
      exact ⟨HB.out.bl.part G M, OwnPts.down (M.owns OC (fun q hq => by simpa using (hf q hq).2.2)) (by omega), hf⟩)
    have HP7 := Lib.hid PL7
    clear IC OC D7 M7 hg5 hr5 hb5 hw5 PL7
    go_wp2_with (first
      | (refine wpList_load_sen rfl (.tmp 3) rfl HSB.out (by rfl) ?_)
      | (refine wpList_store_row (cs := ({ S with conv := C } : Sen).cells) rfl 32 (.tmp 2) (.tmp 66) rfl HB9.out.bl.R (by rfl) (by rfl) (by rfl) (Sen.infoS _) (Sen.one _ HONE.out) ?_; intro w39 R39 M39)
      | (refine wpList_store_part (cs := C.cells) rfl 26 (.tmp 60) (.tmp 59) rfl HB.out.bl.G 7 (by rfl) (by rfl) (show 7 + 7 ≤ 28 by decide) Try.infoC (Conv.one _ HONE.out) ?_; intro w13 R13 M13; have HB9 := Lib.hid (HX.out w13 R13 M13); have HSB : Hid (SenBox w13 gc ({ S with conv := C } : Sen)) := Lib.hid ⟨HB9.out.bl.G⟩; clear R13 M13))
    have HF := HB9.out.bl.fin R39 M39
    have HO : OwnPts w39 w.heap.size C.pts P7 := M39.owns HB9.out.own (fun q hq => by simpa using (HB9.out.far q hq).2.1)
    refine bodyPost_ret (results_cell_row rfl _ _ gr _ _ _ _ rfl HF.R Try.underlying32 rfl (Sen.infoS _)) rfl ?_
    exact ⟨{ S with conv := C }, P7, _, rfl, HIN.out.is HO.rd, HO, HP7.out, HF.D, HF.M⟩
  · skip
    go_wp2_with fail
    refine (byte_ok w5 b v L _ HB.out.bl.D).mono ?_
    rintro e w7 ⟨r', n7, rfl, r0, r1, D7, M7⟩
    obtain ⟨r, rfl⟩ := Int.eq_ofNat_of_zero_le r0
    have HB := Lib.hid (HB.out.dice D7 M7)
    clear D7 M7
    have cx : w7.cell? ⟨gc, 21, none⟩ = some (.int .u8 S.hl) := HB.out.bl.c 21
    have fx : w7.frozen? ⟨gc, 21, none⟩ = false := HB.out.bl.f 21
    have HB : Hid (SX w (w7.setCell ⟨gc, 21, none⟩ (.int .u8 r)) b v L n7 gr gc ({S with hl:=r}) P) := Lib.hid (HB.out.set 21 (.int .u8 r) rfl rfl)
    have HIN : Hid (SNums ({S with hl:=r}) P) := Lib.hid { HIC.out with hl := (show r < 256 by omega) }
    have HSB := Lib.hid (SenBox.mk HB.out.bl.G)
    go_wp2_with (first
      | (refine wpList_load_sen rfl (.tmp 3) rfl HSB.out (by rfl) ?_)
      | (refine wpList_store_row (cs := Sen.cells ({S with hl:=r})) rfl 32 (.tmp 2) (.tmp 66) rfl HB.out.bl.R (by rfl) (by rfl) (by rfl) (Sen.infoS _) (Sen.one _ HB.out.own.rd.one) ?_; intro w39 R39 M39))
    have HF := HB.out.bl.fin R39 M39
    have HO : OwnPts w39 w.heap.size (Sen.conv ({S with hl:=r})).pts P := M39.owns HB.out.own (fun q hq => by simpa using (HB.out.far q hq).2.1)
    refine bodyPost_ret (results_cell_row rfl _ _ gr _ _ _ _ rfl HF.R Try.underlying32 rfl (Sen.infoS _)) rfl ?_
    exact ⟨({S with hl:=r}), P, _, rfl, HIN.out.is HO.rd, HO, hPL.out, HF.D, HF.M⟩
  · have d0 : (k == 0) = false := by simp; omega
    have d1 : (k == 1) = false := by simp; omega
    have d2 : (k == 2) = false := by simp; omega
    have d3 : (k == 3) = false := by simp; omega
    have d4 : (k == 4) = false := by simp; omega
    have d5 : (k == 5) = false := by simp; omega
    have d6 : (k == 6) = false := by simp; omega
    have d7 : (k == 7) = false := by simp; omega
    have d8 : (k == 8) = false := by simp; omega
    have HIN := HIC
    have HSB := Lib.hid (SenBox.mk HB.out.bl.G)
    go_wp2_with (first
      | (refine wpList_load_sen rfl (.tmp 3) rfl HSB.out (by rfl) ?_)
      | (refine wpList_store_row (cs := Sen.cells S) rfl 32 (.tmp 2) (.tmp 66) rfl HB.out.bl.R (by rfl) (by rfl) (by rfl) (Sen.infoS _) (Sen.one _ HB.out.own.rd.one) ?_; intro w39 R39 M39))
    have HF := HB.out.bl.fin R39 M39
    have HO : OwnPts w39 w.heap.size (Sen.conv S).pts P := M39.owns HB.out.own (fun q hq => by simpa using (HB.out.far q hq).2.1)
    refine bodyPost_ret (results_cell_row rfl _ _ gr _ _ _ _ rfl HF.R Try.underlying32 rfl (Sen.infoS _)) rfl ?_
    exact ⟨S, P, _, rfl, HIN.out.is HO.rd, HO, hPL.out, HF.D, HF.M⟩
end Go.Proofs.Ytijjkonephjodaa
