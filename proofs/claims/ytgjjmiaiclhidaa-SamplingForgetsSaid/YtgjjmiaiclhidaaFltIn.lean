/- A filter that came in. -/
import Derived.Test.YtgjjmiaiclhidaaBaseH
import Derived.Test.YtgjjmiaiclhidaaBaseA
import Derived.Test.YtgjjmiaiclhidaaSamV
namespace Go.Proofs.Ytgjjmiaiclhidaa
open Go.RowKit Go.ChangeShapes Go.WideShapes Go.Deep Go.ChangeAt

theorem Try.cFB : Try.prog.cellsOf 33 = 1 := by kernel_rfl
theorem Try.cFI : Try.prog.cellsOf 3 = 1 := by kernel_rfl
/-- A filter that came in: its window whatever its length. -/
structure FltIn (w : World) (win : Value) (W : List Int) (n : Int) : Prop where
  rd : Rd w win (u8s W)
  byt : Bytes W
  n : I64 n
theorem FltIn.is {w : World} {win : Value} {W : List Int} {n : Int} (h : FltIn w win W n) (hl : W.length ≤ 1000) : IsFlt w win W n := ⟨h.rd, h.byt, hl, h.n⟩
set_option maxRecDepth 100000 in
theorem flt_in {H : Type} {enc : TypeId × Value → H} {w : World} {base : Nat} {held : Bool} {fuel : Nat} {cs : Array Value} {x : DataW H × List MemPlace}
    (h : DataW.trod enc Try.prog w base (fun _ => true) held fuel 90 cs.toList = some x) : ∃ win W n, cs = #[win, .int .i64 n] ∧ FltIn w win W n := by
  obtain ⟨xs, n, _, _, hlen, hxl, hf⟩ := DataW.trod_struct Try.underlying90 h
  rw [show Try.prog.cellsOf 90 = 2 by kernel_rfl] at hlen
  obtain ⟨l⟩ := cs
  simp only at hlen hf h
  match l, hlen with
  | [v0, v1], _ =>
    obtain ⟨y0, t0⟩ := fieldAt hxl hf 0 _ rfl 33 0 1 rfl rfl Try.cFB
    simp only [List.drop_zero, List.take_succ_cons, List.take_zero] at t0
    obtain ⟨y1, t1⟩ := fieldAt hxl hf 1 _ rfl 3 1 1 rfl rfl Try.cFI
    simp only [List.drop_succ_cons, List.drop_zero, List.take_succ_cons, List.take_zero] at t1
    obtain ⟨n1, e1, _, w1⟩ := DataW.trod_int Try.underlying3 t1
    simp only [List.cons.injEq, and_true] at e1
    subst e1
    have b1 : I64 n1 := bounds_i64 w1
    have hrow : ∃ a len cap zs, v0 = .slice a len cap ∧ IsRow .u8 w a len cap zs := by
      rcases open_ints Try.underlying33 Try.underlying5 (by kernel_rfl) t0 with ⟨hcs, _⟩ | ⟨x, l, c, zs, hcs, _, hl, hm, hz, _, hcell, hwz⟩
      · simp at hcs
        subst hcs
        exact ⟨_, _, _, [], rfl, .inl ⟨rfl, rfl, rfl, rfl⟩⟩
      · simp at hcs
        subst hcs
        exact ⟨_, _, _, zs, rfl, .inr ⟨_, rfl, hl, hm, by simpa using hz, hcell, hwz⟩⟩
    obtain ⟨a, len, cap, zs, rfl, hr⟩ := hrow
    exact ⟨_, _, n1, rfl, hr.rd.1, hr.u8, b1⟩
end Go.Proofs.Ytgjjmiaiclhidaa
