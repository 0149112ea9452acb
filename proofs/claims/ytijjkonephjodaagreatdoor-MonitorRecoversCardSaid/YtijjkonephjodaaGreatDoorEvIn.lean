/- Events that came in. -/
import Derived.Test.YtijjkonephjodaaGreatDoorJoAL
import Derived.OpenShut
namespace Go.Proofs.YtijjkonephjodaaGreatDoor
open Go.RowKit Go.ChangeShapes Go.WideShapes Go.Deep

theorem Tryz.ceV : Tryz.prog.cellsOf 65 = 10 := by kernel_rfl
theorem Tryz.ceV1 : Tryz.prog.cellsOf 5 = 1 := by kernel_rfl
theorem Tryz.ceV2 : Tryz.prog.cellsOf 38 = 1 := by kernel_rfl
theorem Tryz.ceV4 : Tryz.prog.cellsOf 62 = 1 := by kernel_rfl
theorem Tryz.ceVb : Tryz.prog.cellsOf 4 = 1 := by kernel_rfl
theorem Tryz.ceV3 : Tryz.prog.cellsOf 63 = 3 := by kernel_rfl
section
variable {H : Type} {enc : TypeId × Value → H} {w : World} {base : Nat} {spare : Nat → Bool} {held : Bool} {fuel : Nat} {x : DataW H × List MemPlace}
set_option maxRecDepth 100000
theorem int_cell {k : IntKind} {t : TypeId} {f : Nat} {c : Value} {y : DataW H × List MemPlace} (hu : Tryz.prog.underlying t = some (.int k)) (h : DataW.trod enc Tryz.prog w base spare held f t [c] = some y) : ∃ n, c = .int k n ∧ (Lit.int k n).wf = true := by
  obtain ⟨n, e, _, hw⟩ := DataW.trod_int hu h
  simp only [List.cons.injEq, and_true] at e
  exact ⟨n, e, hw⟩
theorem ev_cells {cs : List Value} (h : DataW.trod enc Tryz.prog w base spare held fuel 65 cs = some x) : ∃ e : Evt, cs = e.cells := by
  obtain ⟨xs, n, _, _, hlen, hxl, hf⟩ := DataW.trod_struct Tryz.underlying65 h
  rw [Tryz.ceV] at hlen
  match cs, hlen with
  | [v0, v1, v2, v3, v4, v5, v6, v7, v8, v9], _ =>
    obtain ⟨y0, t0⟩ := fieldOf hxl hf 0 _ rfl 38 0 1 rfl rfl Tryz.ceV2
    obtain ⟨y1, t1⟩ := fieldOf hxl hf 1 _ rfl 62 1 1 rfl rfl Tryz.ceV4
    obtain ⟨y2, t2⟩ := fieldOf hxl hf 2 _ rfl 38 2 1 rfl rfl Tryz.ceV2
    obtain ⟨y3, t3⟩ := fieldOf hxl hf 3 _ rfl 5 3 1 rfl rfl Tryz.ceV1
    obtain ⟨y4, t4⟩ := fieldOf hxl hf 4 _ rfl 5 4 1 rfl rfl Tryz.ceV1
    obtain ⟨y5, t5⟩ := fieldOf hxl hf 5 _ rfl 5 5 1 rfl rfl Tryz.ceV1
    obtain ⟨y6, t6⟩ := fieldOf hxl hf 6 _ rfl 4 6 1 rfl rfl Tryz.ceVb
    obtain ⟨y7, t7⟩ := fieldOf hxl hf 7 _ rfl 63 7 3 rfl rfl Tryz.ceV3
    simp only [List.drop_zero, List.take_succ_cons, List.take_zero] at t0
    simp only [List.drop_succ_cons, List.drop_zero, List.take_succ_cons, List.take_zero] at t1 t2 t3 t4 t5 t6 t7
    obtain ⟨n0, rfl, w0⟩ := int_cell Tryz.underlying38 t0
    obtain ⟨n1, rfl, w1⟩ := int_cell Tryz.underlying62 t1
    obtain ⟨n2, rfl, w2⟩ := int_cell Tryz.underlying38 t2
    obtain ⟨n3, rfl, w3⟩ := int_cell Tryz.underlying5 t3
    obtain ⟨n4, rfl, w4⟩ := int_cell Tryz.underlying5 t4
    obtain ⟨n5, rfl, w5⟩ := int_cell Tryz.underlying5 t5
    obtain ⟨b6, e6, _⟩ := DataW.trod_bool Tryz.underlying4 t6
    simp only [List.cons.injEq, and_true] at e6
    subst e6
    obtain ⟨xsr, mr, _, _, _, hlr, hfr⟩ := DataW.trod_array Tryz.underlying63 t7
    have a0 := hfr 0 (by omega)
    have a1 := hfr 1 (by omega)
    have a2 := hfr 2 (by omega)
    rw [Tryz.ceV1, List.getElem?_eq_getElem (by omega)] at a0 a1 a2
    simp only [Nat.mul_one, List.drop_zero, List.take_succ_cons, List.take_zero] at a0
    simp only [Nat.mul_one, List.drop_succ_cons, List.drop_zero, List.take_succ_cons, List.take_zero] at a1 a2
    obtain ⟨n7, rfl, w7⟩ := int_cell Tryz.underlying5 a0
    obtain ⟨n8, rfl, w8⟩ := int_cell Tryz.underlying5 a1
    obtain ⟨n9, rfl, w9⟩ := int_cell Tryz.underlying5 a2
    have b0 := bounds_u16 w0
    have b1 := bounds_u32 w1
    have b2 := bounds_u16 w2
    have b3 := bounds_u8 w3
    have b4 := bounds_u8 w4
    have b5 := bounds_u8 w5
    have b7 := bounds_u8 w7
    have b8 := bounds_u8 w8
    have b9 := bounds_u8 w9
    obtain ⟨n0, rfl⟩ := Int.eq_ofNat_of_zero_le b0.1
    obtain ⟨n1, rfl⟩ := Int.eq_ofNat_of_zero_le b1.1
    obtain ⟨n2, rfl⟩ := Int.eq_ofNat_of_zero_le b2.1
    obtain ⟨n3, rfl⟩ := Int.eq_ofNat_of_zero_le b3.1
    obtain ⟨n4, rfl⟩ := Int.eq_ofNat_of_zero_le b4.1
    obtain ⟨n5, rfl⟩ := Int.eq_ofNat_of_zero_le b5.1
    obtain ⟨n7, rfl⟩ := Int.eq_ofNat_of_zero_le b7.1
    obtain ⟨n8, rfl⟩ := Int.eq_ofNat_of_zero_le b8.1
    obtain ⟨n9, rfl⟩ := Int.eq_ofNat_of_zero_le b9.1
    exact ⟨⟨⟨n0, by omega⟩, ⟨n1, by omega⟩, ⟨n2, by omega⟩, ⟨n3, by omega⟩, ⟨n4, by omega⟩, ⟨n5, by omega⟩, b6, ⟨n7, by omega⟩, ⟨n8, by omega⟩, ⟨n9, by omega⟩⟩, rfl⟩
theorem evs_in {v : Value} (h : DataW.trod enc Tryz.prog w base spare held fuel 45 [v] = some x) : ∃ l, RdE evE w v l := by
  obtain ⟨l, h1, _⟩ := elt_in (E := evE) evOk Tryz.ceV (fun _ => True) (fun n cs x hx => by obtain ⟨a, ha⟩ := ev_cells hx; exact ⟨a, ha, trivial⟩) h
  exact ⟨l, h1⟩
end
end Go.Proofs.YtijjkonephjodaaGreatDoor
