/- The dice's Digital: contract. -/
import Derived.Test.YtokokojmeepoeaaMadeSen
namespace Go.Proofs.Ytokokojmeepoeaa
open Go.RowKit

/-- A discrete sensor made. -/
def digS (num typ ei en st : Nat) (host : Bool) (a d : Nat) : Sen := ⟨num, typ, 0, ⟨#[115, 116, 97, 116, 101]⟩, ei, en, true, zC, 0, 0, 0, 0, 0, 0, 0, 0, 0, st, a, d, host, 1⟩
theorem digS_valid {num typ ei en st : Nat} {host : Bool} (h : st < 32768) : validB (digS num typ ei en st host st st) [] = true := by
  have hn : nameB ⟨#[115, 116, 97, 116, 101]⟩ = true := by decide
  have hm := or_mask (a := st) (and_sub st (by omega)) (and_sub st (by omega))
  show (nameB ⟨#[115, 116, 97, 116, 101]⟩ && _ && discB _ _) = true
  rw [hn]
  simp only [discB, digS, zC]
  simp
  exact ⟨by omega, by simpa using hm⟩
theorem digS_is (w : World) {num typ ei en st : Nat} {host : Bool} (h1 : num < 256) (h2 : typ < 256) (h3 : ei < 256) (h4 : en < 256) (h5 : st < 65536) : IsSen w (digS num typ ei en st host st st) [] :=
  IsSen.made ⟨RdPts.nil _, PtsOk.nil, i64_small (x := 0) ⟨by omega, by omega⟩, i64_small (x := 0) ⟨by omega, by omega⟩, i64_small (x := 0) ⟨by omega, by omega⟩, i64_small (x := 0) ⟨by omega, by omega⟩, i64_small (x := 0) ⟨by omega, by omega⟩⟩
    ⟨h1, h2, (by decide : 0 < 256), (by decide : 5 ≤ 1000), h3, h4, (by decide : 0 < 256), (by decide : 0 < 256), (by decide : 0 < 256), h5, h5, h5⟩
    (by decide : 0 < 256 ∧ 0 < 256 ∧ 0 < 256 ∧ 0 < 256 ∧ 0 < 256 ∧ 0 < 256) (i64_small (x := 1) ⟨by omega, by omega⟩)
/-- A discrete sensor of the dice. -/
def MadeDig (w : World) (b : Nat) (v : Value) (L : List Int) (num : Nat) (e : Ending) (w' : World) : Prop :=
  ∃ (S : Sen) (n : Nat), e = .returned (.agg S.cells) ∧ IsSen w' S [] ∧ validB S [] = true ∧ S.disc = true ∧ S.states < 32768 ∧ OwnPts w' w.heap.size S.conv.pts [] ∧ S.number = num ∧ IsDice w' b v L n ∧ Mods [b] w w'
theorem digS_cells (num typ ei en st : Nat) (host : Bool) :
    (#[.int .u8 num, .int .u8 (1 + (typ : Int)), .int .u8 0, .string ⟨#[115, 116, 97, 116, 101]⟩, .int .u8 ei, .int .u8 en, .bool true, .int .i64 0, .bool false, .int .i64 0, .int .i64 0, .int .i64 0, .int .i64 0, .slice none 0 0,
      .int .u8 0, .int .u8 0, .int .u8 0, .int .u8 0, .int .u8 0, .int .u8 0, .int .u8 0, .int .u8 0, .int .u8 0, .int .u16 st, .int .u16 0, .int .u16 0, .bool host, .int .i64 1] : Array Value) = (digS num (1 + typ) ei en st host 0 0).cells := by
  simp [Sen.cells, digS, zC]
theorem digS_set (num typ ei en st : Nat) (host : Bool) : ((digS num typ ei en st host 0 0).cells.setIfInBounds 24 (.int .u16 st)).setIfInBounds 25 (.int .u16 st) = (digS num typ ei en st host st st).cells := rfl
set_option maxRecDepth 100000 in
set_option maxHeartbeats 4000000 in
theorem digital_ok (w : World) (b : Nat) (v : Value) (L : List Int) (n : Nat) (h : IsDice w b v L n) (num : Nat) (hnum : num < 256) :
    Calls Try.prog 23 #[.pointer (some ⟨b, 0, none⟩), .int .u8 num] w fun e w' => MadeDig w b v L num e w' := by
  have hbl := h.lt
  have H := Lib.hid h
  have hv := Lib.hid h.vlt
  clear h
  go_enter Try.func23, Try.ntmps23
  go_wp2_with fail
  change Calls _ _ _ (w.alloc (.cells zS.cells 32)) _
  have M1 := (Mods.refl (S := []) (w := w)).alloc (.cells zS.cells 32)
  have R1 := heap_alloc_new w (.cells zS.cells 32)
  have Z1 : (w.alloc (.cells zS.cells 32)).heap.size = w.heap.size + 1 := by simp
  generalize w.alloc (.cells zS.cells 32) = w1 at M1 R1 Z1 ⊢
  generalize hgr : w.heap.size = gr at R1 Z1 hbl ⊢
  have HGR := Lib.hid hgr
  clear hgr
  have D1 := H.out.mods0 M1
  have MM := Lib.hid (M1.nil (S := [b]))
  have RR := Lib.hid R1
  clear M1 R1
  refine (next_ok w1 b v L _ D1 4 (by omega) (by omega)).mono ?_
  rintro e w2 ⟨typ, n2, rfl, ty0, ty1, D2, M2⟩
  have MM := Lib.hid (MM.out.trans M2)
  have RR := Lib.hid (M2.heap RR.out (by simp; omega))
  have z2 := M2.size
  clear M2
  obtain ⟨typ', rfl⟩ := Int.eq_ofNat_of_zero_le ty0
  go_wp2_with fail
  refine (entity_ok w2 b v L _ D2).mono ?_
  rintro e w6 ⟨ei, en, n6, rfl, ei1, en1, D6, M6⟩
  have MM := Lib.hid (MM.out.trans M6)
  have RR := Lib.hid (M6.heap RR.out (by simp; omega))
  have z6 := M6.size
  clear M6 D1 D2
  go_wp2_with fail
  refine (next_ok w6 b v L _ D6 32768 (by omega) (by omega)).mono ?_
  rintro e w4 ⟨sti, n4, rfl, st0, st1, D4, M4⟩
  have MM := Lib.hid (MM.out.trans M4)
  have RR := Lib.hid (M4.heap RR.out (by simp; omega))
  have z4 := M4.size
  clear M4
  obtain ⟨st, rfl⟩ := Int.eq_ofNat_of_zero_le st0
  have hst : st < 32768 := by omega
  go_wp2_with fail
  refine (bool_ok w4 b v L _ D4 4 (by omega) (by omega)).mono ?_
  rintro e w7 ⟨host, n7, rfl, D7, M7⟩
  have MM := Lib.hid (MM.out.trans M7)
  have RR := Lib.hid (M7.heap RR.out (by simp; omega))
  have z7 := M7.size
  clear M7 D6 D4
  have H28 := Lib.hid (digS_cells num typ' ei en st host)
  obtain ⟨S0, hS0⟩ : ∃ S0 : Sen, S0 = digS num (1 + typ') ei en st host 0 0 := ⟨_, rfl⟩
  obtain ⟨S1, hS1⟩ : ∃ S1 : Sen, S1 = digS num (1 + typ') ei en st host st st := ⟨_, rfl⟩
  rw [← hS0] at H28
  have HX := Lib.hid (show S0.cells.size = 28 ∧ S0.cells.all (·.oneCell') = true ∧ S0.cells[23]? = some (.int .u16 st) ∧ S0.cells[24]? = some (.int .u16 0) ∧ S0.cells[25]? = some (.int .u16 0) from by rw [hS0]; exact ⟨rfl, Sen.one _ rfl, rfl, rfl, rfl⟩)
  have HY := Lib.hid (show (S0.cells.setIfInBounds 24 (.int .u16 st)).setIfInBounds 25 (.int .u16 st) = S1.cells from by rw [hS0, hS1]; rfl)
  have HZ : Hid (S1.cells.all (·.oneCell') = true ∧ S1.disc = true ∧ S1.states < 32768 ∧ S1.conv.pts = .slice none 0 0 ∧ S1.number = num) := Lib.hid (by rw [hS1]; exact ⟨Sen.one _ rfl, rfl, hst, rfl, rfl⟩)
  have HV1 : Hid (validB S1 [] = true) := Lib.hid (by rw [hS1]; exact digS_valid hst)
  have HI1 : Hid (∀ W, IsSen W S1 []) := Lib.hid (fun W => by rw [hS1]; exact digS_is W hnum (by omega) ei1 en1 (by omega))
  clear hS0 hS1
  have zgc : gr < w7.heap.size := by omega
  have zgw : w.heap.size ≤ w7.heap.size := by have := HGR.out; omega
  have hb7 := D7.lt
  have HD7 := Lib.hid D7
  have hbl2 := Lib.hid hbl
  clear D7
  have HB : Hid (∀ W, W.heap[w7.heap.size]? = some (.cells S0.cells 32 (0, 0)) → Mods [w7.heap.size] (w7.alloc (.cells zS.cells 32)) W → Bld w W b v L n7 32 gr w7.heap.size zS.cells S0.cells) :=
    Lib.hid (fun w8 R8 M8 => ⟨(HD7.out.mods0 (Mods.refl.alloc _)).mods M8 (by simp; omega) (fun hl k hk hk2 => by have := hv.out hl k hk; simp at hk2; omega), (MM.out.trans (Mods.nil (Mods.refl.alloc _))).comp M8 (fun k hk => by simp at hk; subst hk; exact .inr zgw), M8.heap (heap_alloc RR.out) (by simp; omega), R8, by have := HGR.out; omega, by have := HGR.out; omega, zgw, by omega, hv.out⟩)
  go_wp2_with (first
    | (refine wpList_load_sen rfl (.tmp 5) rfl HSB.out (by rfl) ?_)
    | (refine wpList_store_row (cs := S1.cells) rfl 32 (.tmp 4) (.tmp 25) rfl HB2.out.R (by rfl) (by rfl) (by rfl) (Sen.infoS _) HZ.out.1 ?_; intro w39 R39 M39)
    | (refine wpList_store_row (cs := S0.cells) rfl 32 (.tmp 5) (.tmp 18) rfl (heap_alloc_new w7 _) (by rfl) (by exact congrArg Value.agg H28.out) (by rfl) (Sen.infoS _) HX.out.2.1 ?_; intro w8 R8 M8; have HB8 := Lib.hid (HB.out w8 R8 M8); have HB2 := Lib.hid (HY.out ▸ (HB8.out.set 24 (.int .u16 st)).set 25 (.int .u16 st)); have HSB := Lib.hid (show SenBox ((w8.setCell ⟨w7.heap.size, 24, none⟩ (.int .u16 st)).setCell ⟨w7.heap.size, 25, none⟩ (.int .u16 st)) w7.heap.size S1 from ⟨HB2.out.G⟩); have c23 : w8.cell? ⟨w7.heap.size, 23, none⟩ = some (.int .u16 st) := (by rw [cell_blk R8]; exact HX.out.2.2.1); have c24 : w8.cell? ⟨w7.heap.size, 24, none⟩ = some (.int .u16 0) := (by rw [cell_blk R8]; exact HX.out.2.2.2.1); have c25 : w8.cell? ⟨w7.heap.size, 25, none⟩ = some (.int .u16 0) := (by rw [cell_blk R8]; exact HX.out.2.2.2.2); have f24 : w8.frozen? ⟨w7.heap.size, 24, none⟩ = false := froz_blk R8 _; have f25 : w8.frozen? ⟨w7.heap.size, 25, none⟩ = false := froz_blk R8 _; clear R8 M8))
  have HB := Lib.hid (HB2.out.fin R39 M39)
  refine bodyPost_ret (results_cell_row rfl _ _ gr _ _ _ _ rfl HB.out.R Try.underlying32 rfl (Sen.infoS _)) rfl ?_
  exact ⟨S1, n7, rfl, HI1.out _, HV1.out, HZ.out.2.1, HZ.out.2.2.1, HZ.out.2.2.2.1 ▸ OwnPts.nil _ _, HZ.out.2.2.2.2, HB.out.D, HB.out.M⟩
end Go.Proofs.Ytokokojmeepoeaa
