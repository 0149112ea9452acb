/- Joined texts. Slices of structs that came in: how they read. | Slices of structs of any kind that came in: how they read. No function of the program stands here. | Scripts of things that a log is told, that came in. | law09.light: contract. -/
import Derived.Test.YtkdadnlleepkfaaLawBase
import Derived.Deep.Slices
import Derived.Deep.Fields
import Derived.ChangeSame
import Derived.Test.YtkdadnlleepkfaaElem
import Derived.Test.YtkdadnlleepkfaaEvt
import Derived.OpenShut
import Derived.Test.YtkdadnlleepkfaaSameE
namespace Go.Proofs.Ytkdadnlleepkfaa
open Go.RowKit Go.ChangeShapes Go.WideShapes Go.Deep

/-- A list out of a choice at each place. -/
theorem list_of {α : Type} (d : α) (n : Nat) (Q : Nat → α → Prop) (h : ∀ i, i < n → ∃ x, Q i x) : ∃ l : List α, l.length = n ∧ ∀ i, i < n → Q i (l.getD i d) := by
  induction n with
  | zero => exact ⟨[], rfl, fun i hi => by omega⟩
  | succ n ih =>
    obtain ⟨l, hl, hq⟩ := ih fun i hi => h i (by omega)
    obtain ⟨x, hx⟩ := h n (by omega)
    refine ⟨l ++ [x], by simp [hl], fun i hi => ?_⟩
    rcases Nat.lt_or_ge i n with h1 | h1
    · have := hq i h1
      rw [List.getD_eq_getElem?_getD, List.getElem?_append_left (by omega), ← List.getD_eq_getElem?_getD]
      exact this
    · obtain rfl : i = n := by omega
      rw [List.getD_eq_getElem?_getD, List.getElem?_append_right (by omega), hl]
      simpa using hx

section
variable {H : Type} {enc : TypeId × Value → H} {P : Program} {w : World} {base : Nat} {spare : Nat → Bool} {held : Bool}
/-- A slice of integers behind one cell. -/
theorem rd_of_trod {t e : TypeId} {k : IntKind} {fuel : Nat} {v : Value} {x : DataW H × List MemPlace} (ht : P.underlying t = some (.slice e)) (he : P.underlying e = some (.int k)) (hc : P.cellsOf e = 1)
    (h : DataW.trod enc P w base spare held fuel t [v] = some x) : ∃ zs : List Int, Rd w v (zs.map (Value.int k)) ∧ ∀ n ∈ zs, (Lit.int k n).wf = true := by
  rcases open_ints ht he hc h with ⟨hcs, _⟩ | ⟨a, len, cap, zs, hcs, _, hl, hm, hz, _, hcell, hw⟩
  · simp at hcs
    subst hcs
    exact ⟨[], Rd.nil w, by simp⟩
  · simp at hcs
    subst hcs
    have hlen : len ≤ zs.length := by rw [hz]; split <;> omega
    refine ⟨zs.take len, rd_in (by simp; omega) hl hm fun i hi => ?_, fun n hn => hw n (List.mem_of_mem_take hn)⟩
    rw [hcell i (by omega)]
    simp only [List.getD_eq_getElem?_getD, List.getElem?_map, List.getElem?_take, if_pos hi]
    rw [List.getElem?_eq_getElem (by omega)]
    rfl
theorem open_slice_fields {t e : TypeId} {fs : Array Field} {fuel : Nat} {cs : List Value} {x : DataW H × List MemPlace} (ht : P.underlying t = some (.slice e)) (he : P.underlying e = some (.struct fs))
    (hone : oneCellFields P fs = true) (hC : P.cellsOf e = fs.size) (h : DataW.trod enc P w base spare held fuel t cs = some x) :
    cs = [.slice none 0 0] ∨
    ∃ (a : Addr) (len cap : Nat), cs = [.slice (some a) len cap] ∧ len ≤ cap ∧ cap ≤ maxLen ∧
      ∀ i, i < len → ∃ n : Nat, ∀ (j : Nat) (f : Field), fs[j]? = some f → ∃ (v : Value) (y : DataW H × List MemPlace), w.cell? (a.add (i * fs.size + j)) = some v ∧ DataW.trod enc P w base spare held n f.type [v] = some y := by
  rcases open_slice ht h with h0 | ⟨a, len, cap, m, n, D, Pl, hcs, hb, hl, hm, hmm, hx, hi⟩
  · exact .inl h0.1
  · refine .inr ⟨a, len, cap, hcs, hl, hm, fun i hil => ?_⟩
    obtain ⟨cs', hc, ht'⟩ := hi i (by rw [hmm]; split <;> omega)
    rw [hC] at hc
    obtain ⟨ys, n', hn', hy, hlen, hyl, hf⟩ := DataW.trod_struct he ht'
    obtain ⟨_, hcl, hat⟩ := World.cells?_some hc
    refine ⟨n', fun j f hj => ?_⟩
    obtain ⟨ho, hk⟩ := hone_of hone j f hj
    have hjl : j < fs.size := (Array.getElem?_eq_some_iff.1 hj).1
    have hcell := hat j hjl
    have hv : cs'[j]? = some (cs'[j]'(by omega)) := List.getElem?_eq_getElem (by omega)
    have h1 := hf j f hj
    rw [ho, hk] at h1
    have hone' : (cs'.drop j).take 1 = [cs'[j]'(by omega)] := by
      rw [List.drop_eq_getElem_cons (by omega)]
      rfl
    rw [hone'] at h1
    have hys : ys[j]? = some (ys[j]'(by omega)) := List.getElem?_eq_getElem (by omega)
    refine ⟨_, _, ?_, h1.trans hys⟩
    rw [← Go.Deep.add_add, hcell, hv]
end
theorem dot_cell {w : World} {b off n : Nat} {v : Value} (h : w.cell? ((⟨b, off, none⟩ : Addr).add n) = some v) : w.cell? ⟨b, off + n, none⟩ = some v := by
  unfold Addr.add at h
  split at h
  · rename_i h0; subst h0; exact h
  · exact h
end Go.Proofs.Ytkdadnlleepkfaa

namespace Go.Proofs.Ytkdadnlleepkfaa
open Go.RowKit Go.ChangeShapes Go.WideShapes Go.Deep

section
variable {H : Type} {enc : TypeId × Value → H} {P : Program} {w : World} {base : Nat} {spare : Nat → Bool} {held : Bool} {α : Type} {E : Elt α}
theorem elt_in (hk : E.Ok P) (hC : P.cellsOf E.ty = E.k) (Q : α → Prop)
    (hdec : ∀ (n : Nat) (cs : List Value) (x : DataW H × List MemPlace), DataW.trod enc P w base spare held n E.ty cs = some x → ∃ a, cs = E.enc a ∧ Q a)
    {fuel : Nat} {v : Value} {x : DataW H × List MemPlace} (h : DataW.trod enc P w base spare held fuel E.sl [v] = some x) : ∃ l, RdE E w v l ∧ ∀ i, i < l.length → Q (l.getD i E.dflt) := by
  rcases open_slice hk.und h with h0 | ⟨a, len, cap, m, n, D, Pl, hcs, hb, hl, hm, hmm, hx, hi⟩
  · have h0 := h0.1
    simp at h0
    subst h0
    exact ⟨[], RdE.nil E w, fun i hi => by simp at hi⟩
  · simp at hcs
    subst hcs
    have key : ∀ i, i < len → ∃ d : α, Q d ∧ ∃ b off, a = ⟨b, off, none⟩ ∧ ∀ j, j < E.k → w.cell? ⟨b, off + i * E.k + j, none⟩ = (E.enc d)[j]? := by
      intro i hil
      have hpos := hk.pos
      have hsp : a.spot = none := by
        obtain ⟨cs', hc, _⟩ := hi 0 (by rw [hmm]; split <;> omega)
        rw [hC] at hc
        obtain ⟨_, hlen, hat⟩ := World.cells?_some hc
        have h1 := hat 0 hpos
        rw [List.getElem?_eq_getElem (by omega), Go.Deep.add_add] at h1
        obtain ⟨_, _, _, _, hsp⟩ := rd_add h1
        exact hsp (by simp)
      obtain ⟨cs', hc, ht⟩ := hi i (by rw [hmm]; split <;> omega)
      rw [hC] at hc
      obtain ⟨_, hlen, hat⟩ := World.cells?_some hc
      obtain ⟨d, rfl, hq⟩ := hdec _ _ _ ht
      obtain ⟨b, off, spot⟩ := a
      simp only at hsp
      subst hsp
      refine ⟨d, hq, b, off, rfl, fun j hj => ?_⟩
      have h1 := hat j hj
      rw [Go.Deep.add_add] at h1
      rw [List.getElem?_eq_getElem (by omega)] at h1 ⊢
      rw [Nat.add_assoc]
      exact dot_cell h1
    obtain ⟨l, hll, hq⟩ := list_of E.dflt len (fun i d => Q d ∧ ∃ b off, a = ⟨b, off, none⟩ ∧ ∀ j, j < E.k → w.cell? ⟨b, off + i * E.k + j, none⟩ = (E.enc d)[j]?) key
    refine ⟨l, ⟨some a, cap, by rw [hll], by omega, hm, fun i hil => ?_⟩, fun i hil => (hq i (by omega)).1⟩
    obtain ⟨_, b, off, h2, h3⟩ := hq i (by omega)
    exact ⟨b, off, by rw [h2], h3⟩
/-- One field of a struct, read. -/
theorem fieldOf {n : Nat} {fs : Array Field} {cs : List Value} {xs : List (DataW H × List MemPlace)} (hl : xs.length = fs.size)
    (hf : ∀ (i : Nat) (f : Field), fs[i]? = some f → DataW.trod enc P w base spare held n f.type ((cs.drop f.offset).take (P.cellsOf f.type)) = xs[i]?)
    (i : Nat) (f : Field) (hi : fs[i]? = some f) (ty off k : Nat) (ht : f.type = ty) (ho : f.offset = off) (hk : P.cellsOf ty = k) : ∃ y, DataW.trod enc P w base spare held n ty ((cs.drop off).take k) = some y := by
  have h := hf i f hi
  rw [ht, ho, hk] at h
  have hlt : i < xs.length := by rw [hl]; exact (Array.getElem?_eq_some_iff.1 hi).1
  exact ⟨xs[i], by rw [h, List.getElem?_eq_getElem hlt]⟩
end
end Go.Proofs.Ytkdadnlleepkfaa

namespace Go.Proofs.Ytkdadnlleepkfaa
open Go.RowKit Go.ChangeShapes Go.WideShapes Go.Deep
set_option linter.unusedVariables false
set_option linter.unusedSimpArgs false

/-- One thing that a log is told; its seed lies behind a slice value. -/
structure DoL where
  kind : Int
  n : Int
  torn : Int
  sad : Option Addr
  sn : Nat
  scap : Nat
  seed : List Int
  e : Evt
instance : Inhabited DoL := ⟨⟨0, 0, 0, none, 0, 0, [], zE⟩⟩
def DoL.sv (d : DoL) : Value := .slice d.sad d.sn d.scap
def DoL.cells (d : DoL) : List Value := [.int .i64 d.kind, .int .i64 d.n, .int .u8 d.torn, d.sv] ++ d.e.cells
structure DoL.Ok (w : World) (d : DoL) : Prop where
  k : I64 d.kind
  n : I64 d.n
  t : 0 ≤ d.torn ∧ d.torn ≤ 255
  s : Rd w d.sv (i64s d.seed)
  b : ∀ i, I64 (d.seed.getD i 0)
  z : d.seed.length ≤ 9223372036854775807
def doE : Elt DoL := ⟨79, 76, 14, DoL.cells, default⟩
def RdDos (w : World) (v : Value) (l : List DoL) : Prop := RdE doE w v l ∧ ∀ i, i < l.length → (l.getD i default).Ok w
theorem DoL.Ok.mods0 {w w' : World} {d : DoL} (h : d.Ok w) (M : Mods [] w w') : d.Ok w' := ⟨h.k, h.n, h.t, h.s.mods0 M, h.b, h.z⟩
theorem Try.infoDo : (Try.prog.info? 79).map (fun i => (i.zero, i.size, i.bytes)) = some (some (.agg #[.int .i64 0, .int .i64 0, .int .u8 0, .slice none 0 0, .int .u16 0, .int .u32 0, .int .u16 0, .int .u8 0, .int .u8 0, .int .u8 0, .bool false, .int .u8 0, .int .u8 0, .int .u8 0]), 14, 72) := by kernel_rfl
theorem Try.sizeDo : (Try.prog.info? 79).map (·.size) = some 14 := by kernel_rfl
theorem Try.cDo : Try.prog.cellsOf 79 = 14 := by kernel_rfl
theorem Try.cEv : Try.prog.cellsOf 37 = 10 := by kernel_rfl
theorem Try.cInt : Try.prog.cellsOf 3 = 1 := by kernel_rfl
theorem Try.cInts : Try.prog.cellsOf 40 = 1 := by kernel_rfl
theorem Try.cU16 : Try.prog.cellsOf 22 = 1 := by kernel_rfl
theorem Try.cU32 : Try.prog.cellsOf 34 = 1 := by kernel_rfl
theorem Try.cBool : Try.prog.cellsOf 4 = 1 := by kernel_rfl
theorem Try.cA3 : Try.prog.cellsOf 35 = 3 := by kernel_rfl
section
variable {H : Type} {enc : TypeId × Value → H} {w : World} {base : Nat} {spare : Nat → Bool} {held : Bool} {fuel : Nat} {x : DataW H × List MemPlace}
set_option maxRecDepth 100000 in
theorem ev_cells {cs : List Value} (h : DataW.trod enc Try.prog w base spare held fuel 37 cs = some x) : ∃ e : Evt, cs = e.cells := by
  obtain ⟨xs, n, _, _, hlen, hxl, hf⟩ := DataW.trod_struct Try.underlying37 h
  rw [Try.cEv] at hlen
  match cs, hlen with
  | [v0, v1, v2, v3, v4, v5, v6, v7, v8, v9], _ =>
    obtain ⟨y0, t0⟩ := fieldOf hxl hf 0 _ rfl 22 0 1 rfl rfl Try.cU16
    simp only [List.drop_zero, List.drop_succ_cons, List.take_succ_cons, List.take_zero] at t0
    obtain ⟨n0, e0, _, w0⟩ := DataW.trod_int Try.underlying22 t0
    have b0 := bounds_u16 w0
    obtain ⟨y1, t1⟩ := fieldOf hxl hf 1 _ rfl 34 1 1 rfl rfl Try.cU32
    simp only [List.drop_zero, List.drop_succ_cons, List.take_succ_cons, List.take_zero] at t1
    obtain ⟨n1, e1, _, w1⟩ := DataW.trod_int Try.underlying34 t1
    have b1 := bounds_u32 w1
    obtain ⟨y2, t2⟩ := fieldOf hxl hf 2 _ rfl 22 2 1 rfl rfl Try.cU16
    simp only [List.drop_zero, List.drop_succ_cons, List.take_succ_cons, List.take_zero] at t2
    obtain ⟨n2, e2, _, w2⟩ := DataW.trod_int Try.underlying22 t2
    have b2 := bounds_u16 w2
    obtain ⟨y3, t3⟩ := fieldOf hxl hf 3 _ rfl 5 3 1 rfl rfl Try.cellsU8
    simp only [List.drop_zero, List.drop_succ_cons, List.take_succ_cons, List.take_zero] at t3
    obtain ⟨n3, e3, _, w3⟩ := DataW.trod_int Try.underlying5 t3
    have b3 := bounds_u8 w3
    obtain ⟨y4, t4⟩ := fieldOf hxl hf 4 _ rfl 5 4 1 rfl rfl Try.cellsU8
    simp only [List.drop_zero, List.drop_succ_cons, List.take_succ_cons, List.take_zero] at t4
    obtain ⟨n4, e4, _, w4⟩ := DataW.trod_int Try.underlying5 t4
    have b4 := bounds_u8 w4
    obtain ⟨y5, t5⟩ := fieldOf hxl hf 5 _ rfl 5 5 1 rfl rfl Try.cellsU8
    simp only [List.drop_zero, List.drop_succ_cons, List.take_succ_cons, List.take_zero] at t5
    obtain ⟨n5, e5, _, w5⟩ := DataW.trod_int Try.underlying5 t5
    have b5 := bounds_u8 w5
    obtain ⟨y6, t6⟩ := fieldOf hxl hf 6 _ rfl 4 6 1 rfl rfl Try.cBool
    simp only [List.drop_zero, List.drop_succ_cons, List.take_succ_cons, List.take_zero] at t6
    obtain ⟨n6, e6, _⟩ := DataW.trod_bool Try.underlying4 t6
    obtain ⟨y7, t7⟩ := fieldOf hxl hf 7 _ rfl 35 7 3 rfl rfl Try.cA3
    simp only [List.drop_zero, List.drop_succ_cons, List.take_succ_cons, List.take_zero] at t7
    obtain ⟨xsr, mr, _, _, hlr, hxr, hfr⟩ := DataW.trod_array Try.underlying35 t7
    have u0 := hfr 0 (by omega)
    rw [Try.cellsU8, List.getElem?_eq_getElem (by omega)] at u0
    simp only [Nat.mul_one, List.drop_zero, List.drop_succ_cons, List.take_succ_cons, List.take_zero] at u0
    obtain ⟨n7, e7, _, w7⟩ := DataW.trod_int Try.underlying5 u0
    have b7 := bounds_u8 w7
    have u1 := hfr 1 (by omega)
    rw [Try.cellsU8, List.getElem?_eq_getElem (by omega)] at u1
    simp only [Nat.mul_one, List.drop_zero, List.drop_succ_cons, List.take_succ_cons, List.take_zero] at u1
    obtain ⟨n8, e8, _, w8⟩ := DataW.trod_int Try.underlying5 u1
    have b8 := bounds_u8 w8
    have u2 := hfr 2 (by omega)
    rw [Try.cellsU8, List.getElem?_eq_getElem (by omega)] at u2
    simp only [Nat.mul_one, List.drop_zero, List.drop_succ_cons, List.take_succ_cons, List.take_zero] at u2
    obtain ⟨n9, e9, _, w9⟩ := DataW.trod_int Try.underlying5 u2
    have b9 := bounds_u8 w9
    simp only [List.cons.injEq, and_true] at e0 e1 e2 e3 e4 e5 e6 e7 e8 e9
    subst e0 e1 e2 e3 e4 e5 e6 e7 e8 e9
    obtain ⟨n0, rfl⟩ := Int.eq_ofNat_of_zero_le b0.1
    obtain ⟨n1, rfl⟩ := Int.eq_ofNat_of_zero_le b1.1
    obtain ⟨n2, rfl⟩ := Int.eq_ofNat_of_zero_le b2.1
    obtain ⟨n3, rfl⟩ := Int.eq_ofNat_of_zero_le b3.1
    obtain ⟨n4, rfl⟩ := Int.eq_ofNat_of_zero_le b4.1
    obtain ⟨n5, rfl⟩ := Int.eq_ofNat_of_zero_le b5.1
    obtain ⟨n7, rfl⟩ := Int.eq_ofNat_of_zero_le b7.1
    obtain ⟨n8, rfl⟩ := Int.eq_ofNat_of_zero_le b8.1
    obtain ⟨n9, rfl⟩ := Int.eq_ofNat_of_zero_le b9.1
    exact ⟨⟨⟨n0, by omega⟩, ⟨n1, by omega⟩, ⟨n2, by omega⟩, ⟨n3, by omega⟩, ⟨n4, by omega⟩, ⟨n5, by omega⟩, n6, ⟨n7, by omega⟩, ⟨n8, by omega⟩, ⟨n9, by omega⟩⟩, rfl⟩
set_option maxRecDepth 100000 in
theorem do_cells {cs : List Value} (h : DataW.trod enc Try.prog w base spare held fuel 79 cs = some x) : ∃ d : DoL, cs = d.cells ∧ d.Ok w := by
  obtain ⟨xs, n, _, _, hlen, hxl, hf⟩ := DataW.trod_struct Try.underlying79 h
  rw [Try.cDo] at hlen
  match cs, hlen with
  | [v0, v1, v2, v3, u0, u1, u2, u3, u4, u5, u6, u7, u8, u9], _ =>
    obtain ⟨y0, t0⟩ := fieldOf hxl hf 0 _ rfl 3 0 1 rfl rfl Try.cInt
    obtain ⟨y1, t1⟩ := fieldOf hxl hf 1 _ rfl 3 1 1 rfl rfl Try.cInt
    obtain ⟨y2, t2⟩ := fieldOf hxl hf 2 _ rfl 5 2 1 rfl rfl Try.cellsU8
    obtain ⟨y3, t3⟩ := fieldOf hxl hf 3 _ rfl 40 3 1 rfl rfl Try.cInts
    obtain ⟨y4, t4⟩ := fieldOf hxl hf 4 _ rfl 37 4 10 rfl rfl Try.cEv
    simp only [List.drop_zero, List.drop_succ_cons, List.take_succ_cons, List.take_zero] at t0 t1 t2 t3 t4
    obtain ⟨n0, e0, _, w0⟩ := DataW.trod_int Try.underlying3 t0
    obtain ⟨n1, e1, _, w1⟩ := DataW.trod_int Try.underlying3 t1
    obtain ⟨n2, e2, _, w2⟩ := DataW.trod_int Try.underlying5 t2
    obtain ⟨zs, hz, wz⟩ := rd_of_trod Try.underlying40 Try.underlying3 Try.cInt t3
    obtain ⟨e, he⟩ := ev_cells t4
    simp only [List.cons.injEq, and_true] at e0 e1 e2
    subst e0 e1 e2
    have b0 := bounds_i64 w0
    have b1 := bounds_i64 w1
    have b2 := bounds_u8 w2
    obtain ⟨ad, cap, hv3⟩ := hz.len
    subst hv3
    refine ⟨⟨n0, n1, n2, ad, _, cap, zs, e⟩, ?_, ⟨b0, b1, b2, hz, fun j => ?_, ?_⟩⟩
    · show _ = [_, _, _, _] ++ e.cells
      rw [← he]
      rfl
    · have := range_i64 (zs := zs) wz j
      unfold I64
      simpa [List.getD_eq_getElem?_getD] using this
    · obtain ⟨ad, cap, hv, h1, h2, _⟩ := hz
      rw [List.length_map] at h1
      unfold maxLen at h2
      exact Nat.le_trans h1 h2
set_option maxRecDepth 100000 in
theorem DoL.one1 (d : DoL) (v : Value) (hv : v ∈ d.cells) : v.oneCell' = true := by
  simp [DoL.cells, DoL.sv, Evt.cells] at hv
  rcases hv with rfl | rfl | rfl | rfl | rfl | rfl | rfl | rfl | rfl | rfl | rfl | rfl | rfl | rfl <;> rfl
set_option maxRecDepth 100000 in
theorem DoL.one (d : DoL) : d.cells.toArray.all (·.oneCell') = true := by simp [DoL.cells, DoL.sv, Evt.cells, Value.oneCell']
theorem doOk : doE.Ok Try.prog := by
  refine ⟨fun _ => rfl, fun a v hv => ?_, by decide, Try.underlying76, ?_⟩
  · exact DoL.one1 a v hv
  · obtain ⟨i0, hi, hz0, hz1, hz2⟩ := info_parts Try.infoDo
    exact ⟨i0, _, hi, hz0, hz1, by rw [hz2]; decide, rfl⟩
theorem dos_in {v : Value} (h : DataW.trod enc Try.prog w base spare held fuel 76 [v] = some x) : ∃ l, RdDos w v l :=
  elt_in (E := doE) doOk Try.cDo (fun d => d.Ok w) (fun n cs x hx => do_cells hx) h
end
end Go.Proofs.Ytkdadnlleepkfaa

namespace Go.Proofs.Ytkdadnlleepkfaa
open Go.RowKit
set_option linter.unusedVariables false
set_option linter.unusedSimpArgs false
/-- Whether a script is short enough. -/
def lightB (l : List DoL) : Bool := decide (l.length ≤ 60) && l.all fun d => decide (d.seed.length ≤ 40)
theorem lightB_get {l : List DoL} (h : lightB l = true) {i : Nat} (hi : i < l.length) : (l.getD i default).seed.length ≤ 40 := by
  simp only [lightB, Bool.and_eq_true, decide_eq_true_eq, List.all_eq_true] at h
  have := h.2 (l.getD i default) (by rw [List.getD_eq_getElem?_getD, List.getElem?_eq_getElem hi]; exact List.getElem_mem hi)
  exact this
theorem lightB_len {l : List DoL} (h : lightB l = true) : l.length ≤ 60 := by
  simp only [lightB, Bool.and_eq_true, decide_eq_true_eq] at h; exact h.1
theorem RdDos.sv {w : World} {bb off cap : Nat} {l : List DoL} (h : RdE doE w (.slice (some ⟨bb, off, none⟩) l.length cap) l) {i : Nat} (hi : i < l.length) : w.cell? ⟨bb, off + i * 14 + 3, none⟩ = some (l.getD i default).sv := by
  have h1 := h.range hi doOk.len
  exact h1 3 _ rfl
set_option maxRecDepth 100000 in
set_option maxHeartbeats 2000000 in
theorem lightDo_ok (w : World) (v : Value) (l : List DoL) (hv : RdDos w v l) :
    Calls Try.prog 40 #[v] w fun e w' => e = .returned (.bool (lightB l)) ∧ w = w' := by
  obtain ⟨hr, hi⟩ := hv
  obtain ⟨ad, cap, rfl⟩ := hr.len
  have hcap : l.length ≤ 9223372036854775807 := by obtain ⟨_, _, _, h1, h2, _⟩ := hr; exact Nat.le_trans h1 h2
  have HR := Lib.hid hr
  have HI := Lib.hid hi
  clear hr hi
  by_cases hl : l.length ≤ 60
  · have hd : decide ((60 : Int) < (l.length : Int)) = false := by simp; omega
    have HL := Lib.hid hl
    go_enter Try.func40, Try.ntmps40
    go_wp2_with fail
    go_loopw [3] (fun i wr => ∃ k : Nat, k ≤ l.length ∧ i = .int .i64 k ∧ wr = w ∧ Hid (∀ j, j < k → (l.getD j default).seed.length ≤ 40)) (fun i _ => l.length - (intOf i).toNat)
    case atStart => exact ⟨0, Nat.zero_le _, rfl, rfl, fun j hj => by omega⟩
    case round =>
      obtain ⟨k, hk, rfl, hwr, hs⟩ := hrel
      subst hwr
      have i0 : (0 : Int) ≤ (k : Int) := by omega
      by_cases hlt : k < l.length
      · have i1 : (k : Int) < (l.length : Int) := by omega
        obtain ⟨bb, off, cap', hv2, _, _, -⟩ := HR.out.at (by omega)
        injection hv2 with hv3 hv5 hv4
        subst hv3 hv4
        clear hv5
        have c3 := RdDos.sv HR.out hlt
        have ok := HI.out k hlt
        obtain ⟨ad2, cap2, hsv, h2, h3, _⟩ := ok.s
        rw [hsv] at c3
        have hz := ok.z
        rw [i64s_length] at c3 h2
        have HD : Hid (∃ n, n = (l.getD k default).seed.length) := ⟨_, rfl⟩
        obtain ⟨n, hn⟩ := HD.out
        rw [← hn] at c3 hz h2
        have HN := Lib.hid hn
        clear hn HD ok hsv h3
        by_cases h2 : n ≤ 40
        · have e1 : decide ((40 : Int) < (n : Int)) = false := by simp; omega
          go_wp2_with fail
          go_roundw
          case rel => exact ⟨k + 1, by omega, by go_num, by first | rfl | trivial, fun j hj => by
            rcases Nat.lt_or_ge j k with h | h
            · exact hs.out j h
            · obtain rfl : j = k := by omega
              rw [← HN.out]; exact h2⟩
          case measure => simp [intOf]; omega
        · have e1 : decide ((40 : Int) < (n : Int)) = true := by simp; omega
          have HF := Lib.hid (show lightB l = false by
            cases hb : lightB l with
            | false => rfl
            | true => exact absurd (by rw [HN.out]; exact lightB_get hb hlt) h2)
          go_wp2_with fail
          go_ret
          exact ⟨ret_bool (by rw [HF.out]), rfl⟩
      · have i1 : ¬ (k : Int) < (l.length : Int) := by omega
        have HF := Lib.hid (show lightB l = true by
          simp only [lightB, Bool.and_eq_true, decide_eq_true_eq, List.all_eq_true]
          refine ⟨HL.out, fun d hd => ?_⟩
          obtain ⟨j, hj, rfl⟩ := List.getElem_of_mem hd
          have := hs.out j (by omega)
          rwa [List.getD_eq_getElem?_getD, List.getElem?_eq_getElem hj] at this)
        go_wp2_with fail
        go_ret
        exact ⟨ret_bool (by rw [HF.out]), rfl⟩
  · have hd : decide ((60 : Int) < (l.length : Int)) = true := by simp; omega
    have HF := Lib.hid (show lightB l = false by simp [lightB, hl])
    clear hl
    go_enter Try.func40, Try.ntmps40
    go_wp2_with fail
    go_ret
    exact ⟨ret_bool (by rw [HF.out]), rfl⟩
end Go.Proofs.Ytkdadnlleepkfaa
