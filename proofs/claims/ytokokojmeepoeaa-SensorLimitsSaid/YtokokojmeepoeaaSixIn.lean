/- Six bytes that came in as an array. -/
import Derived.Test.YtokokojmeepoeaaSenIn
namespace Go.Proofs.Ytokokojmeepoeaa
open Go.RowKit Go.ChangeShapes Go.WideShapes Go.Deep

set_option maxRecDepth 100000
theorem six_agg {w : World} {r : Reach} {b0 : Nat} {v : Value} (h : Value.okWide Try.prog w r b0 27 v) : ∃ cs, v = .agg cs := by
  simp only [Value.okWide, Try.underlying27] at h
  obtain ⟨cs, h1, _⟩ := h
  exact ⟨cs, h1⟩
theorem six_in {H : Type} {enc : TypeId × Value → H} {w : World} {base : Nat} {spare : Nat → Bool} {held : Bool} {fuel : Nat} {cs : Array Value} {x : DataW H × List MemPlace}
    (h : DataW.trod enc Try.prog w base spare held fuel 27 cs.toList = some x) :
    ∃ r0 r1 r2 r3 r4 r5 : Nat, cs = #[.int .u8 r0, .int .u8 r1, .int .u8 r2, .int .u8 r3, .int .u8 r4, .int .u8 r5] ∧ (r0 < 256 ∧ r1 < 256 ∧ r2 < 256 ∧ r3 < 256 ∧ r4 < 256 ∧ r5 < 256) := by
  obtain ⟨xsr, mr, _, _, hlen, hlr, hfr⟩ := DataW.trod_array Try.underlying27 h
  rw [Try.cR] at hlen
  obtain ⟨l⟩ := cs
  simp only at hlen hfr
  match l, hlen with
  | [v15, v16, v17, v18, v19, v20], _ =>
    have tr0 := hfr 0 (by omega)
    rw [Try.cB, List.getElem?_eq_getElem (by omega)] at tr0
    simp only [Nat.mul_one, List.drop_zero, List.take_succ_cons, List.take_zero] at tr0
    obtain ⟨n15, e15, _, w15⟩ := DataW.trod_int Try.underlying5 tr0
    simp only [List.cons.injEq, and_true] at e15
    subst e15
    have b15 := bounds_u8 w15
    obtain ⟨n15, rfl⟩ := Int.eq_ofNat_of_zero_le b15.1
    have tr1 := hfr 1 (by omega)
    rw [Try.cB, List.getElem?_eq_getElem (by omega)] at tr1
    simp only [Nat.mul_one, List.drop_succ_cons, List.drop_zero, List.take_succ_cons, List.take_zero] at tr1
    obtain ⟨n16, e16, _, w16⟩ := DataW.trod_int Try.underlying5 tr1
    simp only [List.cons.injEq, and_true] at e16
    subst e16
    have b16 := bounds_u8 w16
    obtain ⟨n16, rfl⟩ := Int.eq_ofNat_of_zero_le b16.1
    have tr2 := hfr 2 (by omega)
    rw [Try.cB, List.getElem?_eq_getElem (by omega)] at tr2
    simp only [Nat.mul_one, List.drop_succ_cons, List.drop_zero, List.take_succ_cons, List.take_zero] at tr2
    obtain ⟨n17, e17, _, w17⟩ := DataW.trod_int Try.underlying5 tr2
    simp only [List.cons.injEq, and_true] at e17
    subst e17
    have b17 := bounds_u8 w17
    obtain ⟨n17, rfl⟩ := Int.eq_ofNat_of_zero_le b17.1
    have tr3 := hfr 3 (by omega)
    rw [Try.cB, List.getElem?_eq_getElem (by omega)] at tr3
    simp only [Nat.mul_one, List.drop_succ_cons, List.drop_zero, List.take_succ_cons, List.take_zero] at tr3
    obtain ⟨n18, e18, _, w18⟩ := DataW.trod_int Try.underlying5 tr3
    simp only [List.cons.injEq, and_true] at e18
    subst e18
    have b18 := bounds_u8 w18
    obtain ⟨n18, rfl⟩ := Int.eq_ofNat_of_zero_le b18.1
    have tr4 := hfr 4 (by omega)
    rw [Try.cB, List.getElem?_eq_getElem (by omega)] at tr4
    simp only [Nat.mul_one, List.drop_succ_cons, List.drop_zero, List.take_succ_cons, List.take_zero] at tr4
    obtain ⟨n19, e19, _, w19⟩ := DataW.trod_int Try.underlying5 tr4
    simp only [List.cons.injEq, and_true] at e19
    subst e19
    have b19 := bounds_u8 w19
    obtain ⟨n19, rfl⟩ := Int.eq_ofNat_of_zero_le b19.1
    have tr5 := hfr 5 (by omega)
    rw [Try.cB, List.getElem?_eq_getElem (by omega)] at tr5
    simp only [Nat.mul_one, List.drop_succ_cons, List.drop_zero, List.take_succ_cons, List.take_zero] at tr5
    obtain ⟨n20, e20, _, w20⟩ := DataW.trod_int Try.underlying5 tr5
    simp only [List.cons.injEq, and_true] at e20
    subst e20
    have b20 := bounds_u8 w20
    obtain ⟨n20, rfl⟩ := Int.eq_ofNat_of_zero_le b20.1
    exact ⟨n15, n16, n17, n18, n19, n20, rfl, by omega, by omega, by omega, by omega, by omega, by omega⟩
end Go.Proofs.Ytokokojmeepoeaa
