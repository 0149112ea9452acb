/- sampling.Valid, the reference's, and its Same: contracts. -/
import Derived.Test.YtgjjmiaiclhidaaSamP
import Derived.Test.YtgjjmiaiclhidaaBaseH
import Derived.Test.YtgjjmiaiclhidaaBaseC
import Derived.Test.YtgjjmiaiclhidaaBaseD
import Derived.Test.YtgjjmiaiclhidaaBaseA
import Derived.Test.YtgjjmiaiclhidaaBaseG
import Derived.BigGuardPart
namespace Go.Proofs.Ytgjjmiaiclhidaa
open Go.RowKit

theorem fltB_eq (S : Sen) (P : List Pt) (W : List Int) (n : Int) : fltB S P W n = (validB S P && decide ((W.length : Int) ≤ S.samples ∧ 0 ≤ n ∧ n ≤ 3 ∧ (n < 3 ∨ W.length = 0))) := rfl
/-- A filter in a world. -/
structure IsFlt (w : World) (win : Value) (W : List Int) (n : Int) : Prop where
  rd : Rd w win (u8s W)
  byt : Bytes W
  len : W.length ≤ 1000
  n : I64 n
theorem IsFlt.mods {S : List Nat} {w w' : World} {win : Value} {W : List Int} {n : Int} (h : IsFlt w win W n) (M : Mods S w w') (hn : W ≠ [] → ∀ k, win.ownBlock = some k → k ∉ S) : IsFlt w' win W n :=
  ⟨h.rd.mods M fun h0 => hn fun h1 => h0 (by rw [h1]; rfl), h.byt, h.len, h.n⟩
theorem IsFlt.mods0 {w w' : World} {win : Value} {W : List Int} {n : Int} (h : IsFlt w win W n) (M : Mods [] w w') : IsFlt w' win W n := ⟨h.rd.mods0 M, h.byt, h.len, h.n⟩
def fltC (win : Value) (n : Int) : Array Value := #[win, .int .i64 n]
set_option maxRecDepth 100000 in
set_option maxHeartbeats 4000000 in
theorem samValid_ok (w : World) (S : Sen) (P : List Pt) (win : Value) (W : List Int) (n : Int) (hS : IsSen w S P) (hF : IsFlt w win W n) :
    Calls Try.prog 68 #[.agg S.cells, .agg #[win, .int .i64 n]] w fun e w' => e = .returned (.bool (fltB S P W n)) ∧ Mods [] w w' := by
  have HS := Lib.hid hS
  obtain ⟨ad, cap, rfl, h1, h2, -⟩ := hF.rd.u8
  have h3 : cap ≤ 9223372036854775807 := h2
  have hlen := hF.len
  clear hS hF h2
  have R1 := heap_alloc_new (w.alloc (.cells S.cells 32)) (.cells #[.slice ad W.length cap, .int .i64 n] 90)
  rw [World.size_alloc] at R1
  have HB := Lib.hid (SenBox.mk (heap_alloc (o' := .cells #[.slice ad W.length cap, .int .i64 n] 90) (heap_alloc_new w (.cells S.cells 32))))
  have HR1 := Lib.hid R1
  have HM0 := Lib.hid (((Mods.refl (S := []) (w := w)).alloc (.cells S.cells 32)).alloc (.cells #[.slice ad W.length cap, .int .i64 n] 90))
  obtain ⟨_, _, _, _, _, _, x27⟩ := S.restc
  clear R1
  have HV := Lib.hid (fltB_eq S P W n)
  go_enter Try.func68, Try.ntmps68
  go_wp2_with (refine wpList_load_sen rfl (.tmp 2) rfl HB.out (by rfl) ?_)
  refine (valid_ok _ S P (HS.out.mods0 HM0.out)).mono ?_
  rintro e w1 ⟨rfl, M1⟩
  have HM1 := Lib.hid (HM0.out.trans M1)
  have RB := (M1.heap HB.out.blk (by simp))
  have RF := (M1.heap HR1.out (by simp))
  have y0 : w1.cell? ⟨w.heap.size, 27, none⟩ = some (.int .i64 S.samples) := (cell_blk RB 27).trans x27
  have y1 : w1.cell? ⟨w.heap.size + 1, 0, none⟩ = some (.slice ad W.length cap) := (cell_blk RF 0).trans rfl
  have y2 : w1.cell? ⟨w.heap.size + 1, 1, none⟩ = some (.int .i64 n) := (cell_blk RF 1).trans rfl
  clear M1 RB RF HB HR1 HM0 HS x27
  cases hvb : validB S P with
  | false =>
    go_wp2_with fail
    go_ret
    exact ⟨ret_bool (by rw [HV.out, hvb]; rfl), HM1.out⟩
  | true =>
    replace HV := Lib.hid (HV.out.trans ((congrArg (· && _) hvb).trans (Bool.true_and _)))
    have hb : ((W.length : Int) == 0) = decide (W.length = 0) := by rw [Bool.eq_iff_iff]; simp
    go_wp2_with fail
    all_goals
      go_ret
      exact ⟨ret_bool (by rw [HV.out]; first | exact (decide_eq_true (by omega)).symm | exact (decide_eq_false (by omega)).symm | (rw [Bool.eq_iff_iff]; simp; omega) | (rw [Bool.eq_iff_iff, decide_eq_true_eq, decide_eq_true_eq, ← List.length_eq_zero_iff]; omega)), HM1.out⟩
set_option maxRecDepth 100000 in
set_option maxHeartbeats 4000000 in
theorem refSamValid_ok (w : World) (S : Sen) (P : List Pt) (win : Value) (W : List Int) (n : Int) (hS : IsSen w S P) (hF : IsFlt w win W n) :
    Calls Try.prog 69 #[.agg S.cells, .agg #[win, .int .i64 n]] w fun e w' => e = .returned (.bool (fltB S P W n)) ∧ Mods [] w w' := by
  have HS := Lib.hid hS
  obtain ⟨ad, cap, rfl, h1, h2, -⟩ := hF.rd.u8
  have h3 : cap ≤ 9223372036854775807 := h2
  have hlen := hF.len
  clear hS hF h2
  have R1 := heap_alloc_new (w.alloc (.cells S.cells 32)) (.cells #[.slice ad W.length cap, .int .i64 n] 90)
  rw [World.size_alloc] at R1
  have HB := Lib.hid (SenBox.mk (heap_alloc (o' := .cells #[.slice ad W.length cap, .int .i64 n] 90) (heap_alloc_new w (.cells S.cells 32))))
  have HR1 := Lib.hid R1
  have HM0 := Lib.hid (((Mods.refl (S := []) (w := w)).alloc (.cells S.cells 32)).alloc (.cells #[.slice ad W.length cap, .int .i64 n] 90))
  obtain ⟨_, _, _, _, _, _, x27⟩ := S.restc
  clear R1
  have HV := Lib.hid (fltB_eq S P W n)
  go_enter Try.func69, Try.ntmps69
  go_wp2_with (refine wpList_load_sen rfl (.tmp 2) rfl HB.out (by rfl) ?_)
  refine (refValid_ok _ S P (HS.out.mods0 HM0.out)).mono ?_
  rintro e w1 ⟨rfl, M1⟩
  have HM1 := Lib.hid (HM0.out.trans M1)
  have RB := (M1.heap HB.out.blk (by simp))
  have RF := (M1.heap HR1.out (by simp))
  have y0 : w1.cell? ⟨w.heap.size, 27, none⟩ = some (.int .i64 S.samples) := (cell_blk RB 27).trans x27
  have y1 : w1.cell? ⟨w.heap.size + 1, 0, none⟩ = some (.slice ad W.length cap) := (cell_blk RF 0).trans rfl
  have y2 : w1.cell? ⟨w.heap.size + 1, 1, none⟩ = some (.int .i64 n) := (cell_blk RF 1).trans rfl
  clear M1 RB RF HB HR1 HM0 HS x27
  cases hvb : validB S P with
  | false =>
    go_wp2_with fail
    go_ret
    exact ⟨ret_bool (by rw [HV.out, hvb]; rfl), HM1.out⟩
  | true =>
    replace HV := Lib.hid (HV.out.trans ((congrArg (· && _) hvb).trans (Bool.true_and _)))
    have hb : ((W.length : Int) == 0) = decide (W.length = 0) := by rw [Bool.eq_iff_iff]; simp
    go_wp2_with fail
    all_goals
      go_ret
      exact ⟨ret_bool (by rw [HV.out]; first | exact (decide_eq_true (by omega)).symm | exact (decide_eq_false (by omega)).symm | (rw [Bool.eq_iff_iff]; simp; omega) | (rw [Bool.eq_iff_iff, decide_eq_true_eq, decide_eq_true_eq, ← List.length_eq_zero_iff]; omega)), HM1.out⟩
end Go.Proofs.Ytgjjmiaiclhidaa
