/- sampling.Reading: contract. -/
import Derived.Test.YtgjjmiaiclhidaaSamSort
import Derived.Test.YtgjjmiaiclhidaaSamS
namespace Go.Proofs.Ytgjjmiaiclhidaa
open Go.RowKit

def rdB (S : Sen) (P : List Pt) (W : List Int) (n : Int) : Bool := fltB S P W n && decide ((W.length : Int) = S.samples)
theorem rdB_eq (S : Sen) (P : List Pt) (W : List Int) (n : Int) : rdB S P W n = (fltB S P W n && decide ((W.length : Int) = S.samples)) := rfl
def ReadRes (w : World) (b sgn : Bool) (W : List Int) (e : Ending) (w' : World) : Prop :=
  if b = true then ∃ m, e = .returned (.tuple #[.int .u8 m, .bool true]) ∧ IsMed sgn W m ∧ Mods [] w w' else e = .returned (.tuple #[.int .u8 0, .bool false]) ∧ Mods [] w w'
theorem ret_twoB {k : IntKind} {a b : Int} {p q : Bool} (h : a = b) (h2 : p = q) : Ending.returned (.tuple #[.int k a, .bool p]) = .returned (.tuple #[.int k b, .bool q]) := by rw [h, h2]
set_option maxRecDepth 100000 in
set_option maxHeartbeats 4000000 in
theorem samReading_ok (w : World) (S : Sen) (P : List Pt) (win : Value) (W : List Int) (n : Int) (hS : IsSen w S P) (hF : IsFlt w win W n) :
    Calls Try.prog 66 #[.agg S.cells, .agg #[win, .int .i64 n]] w fun e w' => ReadRes w (rdB S P W n) S.conv.sgn W e w' := by
  have HS := Lib.hid hS
  have HF := Lib.hid hF
  obtain ⟨ad, cap, rfl, h1, h2, -⟩ := hF.rd.u8
  have h3 : cap ≤ 9223372036854775807 := h2
  have hlen := hF.len
  clear hS hF h2
  have R1 := heap_alloc_new (w.alloc (.cells S.cells 32)) (.cells #[.slice ad W.length cap, .int .i64 n] 90)
  rw [World.size_alloc] at R1
  have HB := Lib.hid (SenBox.mk (heap_alloc (o' := .cells #[.slice ad W.length cap, .int .i64 n] 90) (heap_alloc_new w (.cells S.cells 32))))
  have HR1 := Lib.hid R1
  have HM0 := Lib.hid (((Mods.refl (S := []) (w := w)).alloc (.cells S.cells 32)).alloc (.cells #[.slice ad W.length cap, .int .i64 n] 90))
  obtain ⟨_, _, _, _, _, _, x27⟩ := S.restc
  clear R1
  obtain ⟨_, x8, _, _, _, _, _⟩ := S.convc
  have HA := Lib.hid (rdB_eq S P W n)
  generalize rdB S P W n = r at HA ⊢
  go_enter Try.func66, Try.ntmps66
  go_wp2_with (refine wpList_load_sen rfl (.tmp 2) rfl HB.out (by rfl) ?_)
  refine (samValid_ok _ S P _ W n (HS.out.mods0 HM0.out) (HF.out.mods0 HM0.out)).mono ?_
  rintro e w1 ⟨rfl, M1⟩
  have HM1 := Lib.hid (HM0.out.trans M1)
  have RB := (M1.heap HB.out.blk (by simp))
  have RF := (M1.heap HR1.out (by simp))
  have hw1 := M1.size
  simp only [World.size_alloc] at hw1
  have y0 : w1.cell? ⟨w.heap.size, 27, none⟩ = some (.int .i64 S.samples) := (cell_blk RB 27).trans x27
  have y1 : w1.cell? ⟨w.heap.size + 1, 0, none⟩ = some (.slice ad W.length cap) := (cell_blk RF 0).trans rfl
  have HS8 := Lib.hid (show w1.cell? ⟨w.heap.size, 8, none⟩ = some (.bool S.conv.sgn) from (cell_blk RB 8).trans x8)
  have HF1 := Lib.hid (HF.out.mods0 HM1.out)
  clear M1 RB RF HB HR1 HM0 HS HF x27 x8
  cases hb : fltB S P W n with
  | false =>
    have hb2 := Lib.hid hb
    clear hb
    obtain rfl : r = false := by rw [HA.out]; (rw [hb2.out]; rfl)
    go_wp2_with fail
    go_ret2
    exact ⟨rfl, HM1.out⟩
  | true =>
    have hsam := flt_samples hb
    have hb2 := Lib.hid hb
    clear hb
    by_cases hl : (W.length : Int) = S.samples
    · obtain rfl : r = true := by rw [HA.out, hb2.out, decide_eq_true hl]; rfl
      have e0 : ((W.length : Int) != S.samples) = false := by simpa using hl
      have hW1 : 1 ≤ W.length := by omega
      obtain ⟨ad', cap', he, -, -, hc⟩ := HF1.out.rd.u8
      injection he with he1 he2 he3
      subst he1 he3
      obtain ⟨bb, off, rfl, x0⟩ := hc 0 (by omega)
      have hbb := World.block_lt_of_cell? w1 _ x0
      have HCC := Lib.hid (fun i (hi : i < W.length) => show w1.cell? ⟨bb, off + i, none⟩ = some (.int .u8 (W.getD i 0)) from by
        obtain ⟨b', o', he, hx⟩ := hc i hi
        cases he
        exact hx)
      have HBy := Lib.hid HF1.out.byt
      have hlt : w.heap.size < w1.heap.size := by omega
      clear hc x0 HA hl he2
      go_wp2_with fail
      refine (values_ok _ w1 _ _ _ rfl).mono ?_
      rintro e w2 ⟨rfl, hw2⟩
      have M2 : Mods [] w1 w2 := by rw [hw2]; exact Mods.refl.alloc _
      have B2 : w2.cell? ⟨w1.heap.size, 0, none⟩ = some (.slice (some ⟨bb, off, none⟩) W.length cap) := by rw [hw2]; exact (cell_blk (heap_alloc_new w1 _) 0).trans rfl
      have hz2 : w2.heap.size = w1.heap.size + 1 := by rw [hw2]; simp
      have HSO := Lib.hid (sortedFunc_ok S.conv.sgn w.heap.size w1.heap.size bb off cap W (by omega) hW1 HBy.out w2 (by omega) (by omega) (M2.cell HS8.out (by simp)) B2 (fun i hi => M2.cell (HCC.out i hi) (by simp)))
      have HM2 := Lib.hid (HM1.out.trans M2)
      clear M2 B2 hw2 HS8 HCC
      go_wp2_with fail
      refine HSO.out.mono ?_
      rintro e w3 ⟨v, l, rfl, hrd, hp, hso, M3⟩
      have hmed := med_sorted (sgn := S.conv.sgn) (bytes_mem HBy.out) hp hso (by omega)
      have hll := hp.length_eq
      rw [← hll] at hmed
      obtain ⟨ad3, cap3, rfl, -, -, hc3⟩ := hrd.u8
      have hlt3 : l.length / 2 < l.length := by omega
      obtain ⟨b3, o3, rfl, c3⟩ := hc3 _ hlt3
      have i0 : (0 : Int) ≤ (l.length : Int) / 2 := by omega
      have i1 : (l.length : Int) / 2 < (l.length : Int) := by omega
      have i2 : ((l.length : Int) / 2).toNat = l.length / 2 := by omega
      have HME := Lib.hid hmed
      have HM3 := Lib.hid (HM2.out.trans M3)
      generalize l.getD (l.length / 2) 0 = m at c3 HME
      clear hc3 hrd hp hso hmed M3 HSO
      rw [hll] at c3 i0 i1 i2 ⊢
      clear hll hlt3
      go_wp2_with fail
      go_ret2
      exact ⟨m, rfl, HME.out, HM3.out⟩
    · have e0 : ((W.length : Int) != S.samples) = true := by simpa using hl
      obtain rfl : r = false := by rw [HA.out]; (rw [hb2.out, decide_eq_false hl]; rfl)
      go_wp2_with fail
      go_ret2
      exact ⟨rfl, HM1.out⟩
end Go.Proofs.Ytgjjmiaiclhidaa
