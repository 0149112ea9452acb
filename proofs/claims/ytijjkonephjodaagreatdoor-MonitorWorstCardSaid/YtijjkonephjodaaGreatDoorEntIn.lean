/- Entities and associations that came in. -/
import Derived.Test.YtijjkonephjodaaGreatDoorJoAL
import Derived.Test.YtijjkonephjodaaGreatDoorJoAI
import Derived.OpenShut
namespace Go.Proofs.YtijjkonephjodaaGreatDoor
open Go.RowKit Go.ChangeShapes Go.WideShapes Go.Deep

theorem Tryz.ceE : Tryz.prog.cellsOf 31 = 2 := by kernel_rfl
theorem Tryz.ceA : Tryz.prog.cellsOf 111 = 4 := by kernel_rfl
theorem Tryz.ceB : Tryz.prog.cellsOf 5 = 1 := by kernel_rfl
section
variable {H : Type} {enc : TypeId × Value → H} {w : World} {base : Nat} {spare : Nat → Bool} {held : Bool} {fuel : Nat} {x : DataW H × List MemPlace}
set_option maxRecDepth 100000 in
theorem ent_cells {cs : List Value} (h : DataW.trod enc Tryz.prog w base spare held fuel 31 cs = some x) : ∃ e : Ent, cs = e.cells := by
  obtain ⟨xs, n, _, _, hlen, hxl, hf⟩ := DataW.trod_struct Tryz.underlying31 h
  rw [Tryz.ceE] at hlen
  match cs, hlen with
  | [v0, v1], _ =>
    obtain ⟨y0, t0⟩ := fieldOf hxl hf 0 _ rfl 5 0 1 rfl rfl Tryz.ceB
    obtain ⟨y1, t1⟩ := fieldOf hxl hf 1 _ rfl 5 1 1 rfl rfl Tryz.ceB
    simp only [List.drop_zero, List.take_succ_cons, List.take_zero] at t0
    simp only [List.drop_succ_cons, List.drop_zero, List.take_succ_cons, List.take_zero] at t1
    obtain ⟨n0, e0, _, w0⟩ := DataW.trod_int Tryz.underlying5 t0
    obtain ⟨n1, e1, _, w1⟩ := DataW.trod_int Tryz.underlying5 t1
    simp only [List.cons.injEq, and_true] at e0 e1
    subst e0 e1
    have b0 := bounds_u8 w0
    have b1 := bounds_u8 w1
    obtain ⟨n0, rfl⟩ := Int.eq_ofNat_of_zero_le b0.1
    obtain ⟨n1, rfl⟩ := Int.eq_ofNat_of_zero_le b1.1
    exact ⟨⟨⟨n0, by omega⟩, ⟨n1, by omega⟩⟩, rfl⟩
set_option maxRecDepth 100000 in
theorem asc_cells {cs : List Value} (h : DataW.trod enc Tryz.prog w base spare held fuel 111 cs = some x) : ∃ e : Asc, cs = e.cells := by
  obtain ⟨xs, n, _, _, hlen, hxl, hf⟩ := DataW.trod_struct Tryz.underlying111 h
  rw [Tryz.ceA] at hlen
  obtain ⟨y0, t0⟩ := fieldOf hxl hf 0 _ rfl 31 0 2 rfl rfl Tryz.ceE
  obtain ⟨y1, t1⟩ := fieldOf hxl hf 1 _ rfl 31 2 2 rfl rfl Tryz.ceE
  obtain ⟨a, ha⟩ := ent_cells t0
  obtain ⟨b, hb⟩ := ent_cells t1
  refine ⟨⟨a, b⟩, ?_⟩
  match cs, hlen with
  | [v0, v1, v2, v3], _ =>
    simp only [List.drop_zero, List.take_succ_cons, List.take_zero, List.drop_succ_cons, Ent.cells, List.cons.injEq, and_true] at ha hb
    obtain ⟨rfl, rfl⟩ := ha
    obtain ⟨rfl, rfl⟩ := hb
    rfl
theorem ascs_in {v : Value} (h : DataW.trod enc Tryz.prog w base spare held fuel 67 [v] = some x) : ∃ l, RdE ascE w v l := by
  obtain ⟨l, h1, _⟩ := elt_in (E := ascE) ascOk Tryz.ceA (fun _ => True) (fun n cs x hx => by obtain ⟨a, ha⟩ := asc_cells hx; exact ⟨a, ha, trivial⟩) h
  exact ⟨l, h1⟩
end
end Go.Proofs.YtijjkonephjodaaGreatDoor
