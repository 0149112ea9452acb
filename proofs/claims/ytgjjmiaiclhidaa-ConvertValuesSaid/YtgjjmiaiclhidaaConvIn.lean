/- A conversion that came in: how it reads. -/
import Derived.Test.YtgjjmiaiclhidaaSenIn
namespace Go.Proofs.Ytgjjmiaiclhidaa
open Go.RowKit Go.ChangeShapes Go.WideShapes Go.Deep

/-- A conversion that came in. -/
structure ConvIn (w : World) (C : Conv) (P : List Pt) : Prop where
  rd : RdPts w C.pts P
  pt : ∀ i, (P.getD i default).raw < 256 ∧ I64 (P.getD i default).val
  form : I64 C.form
  m : I64 C.m
  b : I64 C.b
  k1 : I64 C.k1
  k2 : I64 C.k2
theorem ConvIn.mods0 {w w' : World} {C : Conv} {P : List Pt} (h : ConvIn w C P) (M : Mods [] w w') : ConvIn w' C P := ⟨h.rd.mods0 M, h.pt, h.form, h.m, h.b, h.k1, h.k2⟩
theorem ConvIn.is {w : World} {C : Conv} {P : List Pt} (h : ConvIn w C P) (hl : P.length ≤ 1000) : IsConv w C P := ⟨h.rd, ⟨hl, fun i => (h.pt i).1, fun i => (h.pt i).2⟩, h.form, h.m, h.b, h.k1, h.k2⟩
set_option maxRecDepth 100000 in
theorem conv_in {H : Type} {enc : TypeId × Value → H} {w : World} {base : Nat} {spare : Nat → Bool} {held : Bool} {fuel : Nat} {cs : Array Value} {x : DataW H × List MemPlace}
    (h : DataW.trod enc Try.prog w base spare held fuel 26 cs.toList = some x) : ∃ C P, cs = Conv.cells C ∧ ConvIn w C P := by
  obtain ⟨xs, n, _, _, hlen, hxl, hf⟩ := DataW.trod_struct Try.underlying26 h
  rw [show Try.prog.cellsOf 26 = 7 by kernel_rfl] at hlen
  obtain ⟨l⟩ := cs
  simp only at hlen hf h
  match l, hlen with
  | [v0, v1, v2, v3, v4, v5, v6], _ =>
    obtain ⟨y0, t0⟩ := fieldAt hxl hf 0 _ rfl 3 0 1 rfl rfl Try.cI
    simp only [List.drop_zero, List.take_succ_cons, List.take_zero] at t0
    obtain ⟨n0, e0, _, w0⟩ := DataW.trod_int Try.underlying3 t0
    simp only [List.cons.injEq, and_true] at e0
    subst e0
    have b0 : I64 n0 := bounds_i64 w0
    obtain ⟨y1, t1⟩ := fieldAt hxl hf 1 _ rfl 4 1 1 rfl rfl Try.cO
    simp only [List.drop_succ_cons, List.drop_zero, List.take_succ_cons, List.take_zero] at t1
    obtain ⟨n1, e1, _⟩ := DataW.trod_bool Try.underlying4 t1
    simp only [List.cons.injEq, and_true] at e1
    subst e1
    obtain ⟨y2, t2⟩ := fieldAt hxl hf 2 _ rfl 3 2 1 rfl rfl Try.cI
    simp only [List.drop_succ_cons, List.drop_zero, List.take_succ_cons, List.take_zero] at t2
    obtain ⟨n2, e2, _, w2⟩ := DataW.trod_int Try.underlying3 t2
    simp only [List.cons.injEq, and_true] at e2
    subst e2
    have b2 : I64 n2 := bounds_i64 w2
    obtain ⟨y3, t3⟩ := fieldAt hxl hf 3 _ rfl 3 3 1 rfl rfl Try.cI
    simp only [List.drop_succ_cons, List.drop_zero, List.take_succ_cons, List.take_zero] at t3
    obtain ⟨n3, e3, _, w3⟩ := DataW.trod_int Try.underlying3 t3
    simp only [List.cons.injEq, and_true] at e3
    subst e3
    have b3 : I64 n3 := bounds_i64 w3
    obtain ⟨y4, t4⟩ := fieldAt hxl hf 4 _ rfl 3 4 1 rfl rfl Try.cI
    simp only [List.drop_succ_cons, List.drop_zero, List.take_succ_cons, List.take_zero] at t4
    obtain ⟨n4, e4, _, w4⟩ := DataW.trod_int Try.underlying3 t4
    simp only [List.cons.injEq, and_true] at e4
    subst e4
    have b4 : I64 n4 := bounds_i64 w4
    obtain ⟨y5, t5⟩ := fieldAt hxl hf 5 _ rfl 3 5 1 rfl rfl Try.cI
    simp only [List.drop_succ_cons, List.drop_zero, List.take_succ_cons, List.take_zero] at t5
    obtain ⟨n5, e5, _, w5⟩ := DataW.trod_int Try.underlying3 t5
    simp only [List.cons.injEq, and_true] at e5
    subst e5
    have b5 : I64 n5 := bounds_i64 w5
    obtain ⟨y6, t6⟩ := fieldAt hxl hf 6 _ rfl 24 6 1 rfl rfl Try.cP
    simp only [List.drop_succ_cons, List.drop_zero, List.take_succ_cons, List.take_zero] at t6
    obtain ⟨P, hP, hQ⟩ := pts_in t6
    exact ⟨⟨n0, n1, n2, n3, n4, n5, v6⟩, P, rfl, ⟨hP, hQ, b0, b2, b3, b4, b5⟩⟩
end Go.Proofs.Ytgjjmiaiclhidaa
