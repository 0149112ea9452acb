/- A sensor record that came in: how it reads. -/
import Derived.Test.YtijjkonephjodaaSlices
import Derived.Test.YtijjkonephjodaaMadeOddS
import Derived.OpenShut
namespace Go.Proofs.Ytijjkonephjodaa
open Go.RowKit Go.ChangeShapes Go.WideShapes Go.Deep

section
variable {H : Type} {enc : TypeId × Value → H} {P : Program} {w : World} {base : Nat} {spare : Nat → Bool} {held : Bool}
/-- One field of a struct, read. -/
theorem fieldAt {n : Nat} {fs : Array Field} {cs : List Value} {xs : List (DataW H × List MemPlace)} (hl : xs.length = fs.size)
    (hf : ∀ (i : Nat) (f : Field), fs[i]? = some f → DataW.trod enc P w base spare held n f.type ((cs.drop f.offset).take (P.cellsOf f.type)) = xs[i]?)
    (i : Nat) (f : Field) (hi : fs[i]? = some f) (ty off k : Nat) (ht : f.type = ty) (ho : f.offset = off) (hk : P.cellsOf ty = k) : ∃ y, DataW.trod enc P w base spare held n ty ((cs.drop off).take k) = some y := by
  have h := hf i f hi
  rw [ht, ho, hk] at h
  have hlt : i < xs.length := by rw [hl]; exact (Array.getElem?_eq_some_iff.1 hi).1
  exact ⟨xs[i], by rw [h, List.getElem?_eq_getElem hlt]⟩
end

theorem Try.cB : Try.prog.cellsOf 5 = 1 := by kernel_rfl
theorem Try.cW : Try.prog.cellsOf 30 = 1 := by kernel_rfl
theorem Try.cI : Try.prog.cellsOf 3 = 1 := by kernel_rfl
theorem Try.cO : Try.prog.cellsOf 4 = 1 := by kernel_rfl
theorem Try.cS : Try.prog.cellsOf 9 = 1 := by kernel_rfl
theorem Try.cE : Try.prog.cellsOf 23 = 2 := by kernel_rfl
theorem Try.cC : Try.prog.cellsOf 26 = 7 := by kernel_rfl
theorem Try.cT : Try.prog.cellsOf 29 = 7 := by kernel_rfl
theorem Try.cR : Try.prog.cellsOf 27 = 6 := by kernel_rfl
theorem Try.cP : Try.prog.cellsOf 24 = 1 := by kernel_rfl
theorem pts_in {H : Type} {enc : TypeId × Value → H} {w : World} {base : Nat} {spare : Nat → Bool} {held : Bool} {fuel : Nat} {v : Value} {x : DataW H × List MemPlace}
    (h : DataW.trod enc Try.prog w base spare held fuel 24 [v] = some x) : ∃ P, RdPts w v P ∧ ∀ i, (P.getD i default).raw < 256 ∧ I64 (P.getD i default).val := by
  have hu := Try.underlying24
  have hs := Try.underlying115
  rcases open_slice_fields hu hs (by kernel_rfl) (by kernel_rfl) h with h0 | ⟨a, len, cap, hcs, hl, hm, hi⟩
  · simp at h0
    subst h0
    exact ⟨[], RdPts.nil w, fun i => by simp [default, I64]⟩
  · simp at hcs
    subst hcs
    have key : ∀ i, i < len → ∃ d : Pt, (d.raw < 256 ∧ I64 d.val) ∧ ∃ b off, a = ⟨b, off, none⟩ ∧ w.cell? ⟨b, off + i * 2, none⟩ = some (.int .u8 d.raw) ∧ w.cell? ⟨b, off + i * 2 + 1, none⟩ = some (.int .i64 d.val) := by
      intro i hil
      obtain ⟨_, hf0⟩ := hi 0 (by omega)
      obtain ⟨_, _, c00, _⟩ := hf0 0 _ rfl
      obtain ⟨_, _, _, _, hsp⟩ := rd_add c00
      have hsp := hsp (by simp)
      obtain ⟨b, off, spot⟩ := a
      simp only at hsp
      subst hsp
      obtain ⟨n, hf⟩ := hi i hil
      obtain ⟨v0, y0, c0, t0⟩ := hf 0 _ rfl
      obtain ⟨v1, y1, c1, t1⟩ := hf 1 _ rfl
      obtain ⟨n0, e0, _, w0⟩ := DataW.trod_int Try.underlying5 t0
      obtain ⟨n1, e1, _, w1⟩ := DataW.trod_int Try.underlying2 t1
      simp only [List.cons.injEq, and_true] at e0 e1
      subst e0 e1
      have hb := bounds_u8 w0
      obtain ⟨n0, rfl⟩ := Int.eq_ofNat_of_zero_le hb.1
      exact ⟨⟨n0, n1⟩, ⟨by show n0 < 256; omega, bounds_i64 w1⟩, b, off, rfl, dot_cell c0, dot_cell c1⟩
    obtain ⟨l, hll, hq⟩ := list_of (default : Pt) len (fun i d => (d.raw < 256 ∧ I64 d.val) ∧ ∃ b off, a = ⟨b, off, none⟩ ∧ w.cell? ⟨b, off + i * 2, none⟩ = some (.int .u8 d.raw) ∧ w.cell? ⟨b, off + i * 2 + 1, none⟩ = some (.int .i64 d.val)) key
    refine ⟨l, ⟨some a, cap, by rw [hll], by omega, hm, fun i hil => ?_⟩, fun i => ?_⟩
    · obtain ⟨_, b, off, h2, h3⟩ := hq i (by omega)
      exact ⟨b, off, by rw [h2], h3⟩
    · rcases Nat.lt_or_ge i len with h | h
      · exact (hq i h).1
      · rw [List.getD_eq_getElem?_getD, List.getElem?_eq_none (by omega)]; simp [default, I64]
/-- A sensor record that came in: whatever it is, its numbers fit. -/
structure SenIn (w : World) (S : Sen) (P : List Pt) : Prop where
  rd : RdPts w S.conv.pts P
  nums : P.length ≤ 1000 → S.name.size ≤ 1000 → SNums S P
  name : S.name.size ≤ maxLen
theorem SenIn.is {w : World} {S : Sen} {P : List Pt} (h : SenIn w S P) (hp : P.length ≤ 1000) (hn : S.name.size ≤ 1000) : IsSen w S P := (h.nums hp hn).is h.rd
set_option maxRecDepth 100000 in
set_option maxHeartbeats 2000000 in
theorem sen_in {H : Type} {enc : TypeId × Value → H} {w : World} {base : Nat} {spare : Nat → Bool} {held : Bool} {fuel : Nat} {cs : Array Value} {x : DataW H × List MemPlace}
    (h : DataW.trod enc Try.prog w base spare held fuel 32 cs.toList = some x) : ∃ S P, cs = S.cells ∧ SenIn w S P := by
  obtain ⟨xs, n, _, _, hlen, hxl, hf⟩ := DataW.trod_struct Try.underlying32 h
  rw [show Try.prog.cellsOf 32 = 28 by kernel_rfl] at hlen
  obtain ⟨l⟩ := cs
  simp only at hlen hf h
  match l, hlen with
  | [v0, v1, v2, v3, v4, v5, v6, v7, v8, v9, v10, v11, v12, v13, v14, v15, v16, v17, v18, v19, v20, v21, v22, v23, v24, v25, v26, v27], _ =>
    obtain ⟨y0, t0⟩ := fieldAt hxl hf 0 _ rfl 5 0 1 rfl rfl Try.cB
    simp only [List.drop_zero, List.take_succ_cons, List.take_zero] at t0
    obtain ⟨n0, e0, _, w0⟩ := DataW.trod_int Try.underlying5 t0
    simp only [List.cons.injEq, and_true] at e0
    subst e0
    have b0 := bounds_u8 w0
    obtain ⟨n0, rfl⟩ := Int.eq_ofNat_of_zero_le b0.1
    obtain ⟨y1, t1⟩ := fieldAt hxl hf 1 _ rfl 5 1 1 rfl rfl Try.cB
    simp only [List.drop_succ_cons, List.drop_zero, List.take_succ_cons, List.take_zero] at t1
    obtain ⟨n1, e1, _, w1⟩ := DataW.trod_int Try.underlying5 t1
    simp only [List.cons.injEq, and_true] at e1
    subst e1
    have b1 := bounds_u8 w1
    obtain ⟨n1, rfl⟩ := Int.eq_ofNat_of_zero_le b1.1
    obtain ⟨y2, t2⟩ := fieldAt hxl hf 2 _ rfl 5 2 1 rfl rfl Try.cB
    simp only [List.drop_succ_cons, List.drop_zero, List.take_succ_cons, List.take_zero] at t2
    obtain ⟨n2, e2, _, w2⟩ := DataW.trod_int Try.underlying5 t2
    simp only [List.cons.injEq, and_true] at e2
    subst e2
    have b2 := bounds_u8 w2
    obtain ⟨n2, rfl⟩ := Int.eq_ofNat_of_zero_le b2.1
    obtain ⟨y3, t3⟩ := fieldAt hxl hf 3 _ rfl 9 3 1 rfl rfl Try.cS
    simp only [List.drop_succ_cons, List.drop_zero, List.take_succ_cons, List.take_zero] at t3
    obtain ⟨n3, e3, _, w3⟩ := DataW.trod_string Try.underlying9 t3
    simp only [List.cons.injEq, and_true] at e3
    subst e3
    obtain ⟨y4, t4⟩ := fieldAt hxl hf 4 _ rfl 23 4 2 rfl rfl Try.cE
    simp only [List.drop_succ_cons, List.drop_zero, List.take_succ_cons, List.take_zero] at t4
    obtain ⟨y6, t6⟩ := fieldAt hxl hf 5 _ rfl 4 6 1 rfl rfl Try.cO
    simp only [List.drop_succ_cons, List.drop_zero, List.take_succ_cons, List.take_zero] at t6
    obtain ⟨n6, e6, _⟩ := DataW.trod_bool Try.underlying4 t6
    simp only [List.cons.injEq, and_true] at e6
    subst e6
    obtain ⟨y7, t7⟩ := fieldAt hxl hf 6 _ rfl 26 7 7 rfl rfl Try.cC
    simp only [List.drop_succ_cons, List.drop_zero, List.take_succ_cons, List.take_zero] at t7
    obtain ⟨y14, t14⟩ := fieldAt hxl hf 7 _ rfl 29 14 7 rfl rfl Try.cT
    simp only [List.drop_succ_cons, List.drop_zero, List.take_succ_cons, List.take_zero] at t14
    obtain ⟨y21, t21⟩ := fieldAt hxl hf 8 _ rfl 5 21 1 rfl rfl Try.cB
    simp only [List.drop_succ_cons, List.drop_zero, List.take_succ_cons, List.take_zero] at t21
    obtain ⟨n21, e21, _, w21⟩ := DataW.trod_int Try.underlying5 t21
    simp only [List.cons.injEq, and_true] at e21
    subst e21
    have b21 := bounds_u8 w21
    obtain ⟨n21, rfl⟩ := Int.eq_ofNat_of_zero_le b21.1
    obtain ⟨y22, t22⟩ := fieldAt hxl hf 9 _ rfl 5 22 1 rfl rfl Try.cB
    simp only [List.drop_succ_cons, List.drop_zero, List.take_succ_cons, List.take_zero] at t22
    obtain ⟨n22, e22, _, w22⟩ := DataW.trod_int Try.underlying5 t22
    simp only [List.cons.injEq, and_true] at e22
    subst e22
    have b22 := bounds_u8 w22
    obtain ⟨n22, rfl⟩ := Int.eq_ofNat_of_zero_le b22.1
    obtain ⟨y23, t23⟩ := fieldAt hxl hf 10 _ rfl 30 23 1 rfl rfl Try.cW
    simp only [List.drop_succ_cons, List.drop_zero, List.take_succ_cons, List.take_zero] at t23
    obtain ⟨n23, e23, _, w23⟩ := DataW.trod_int Try.underlying30 t23
    simp only [List.cons.injEq, and_true] at e23
    subst e23
    have b23 := bounds_u16 w23
    obtain ⟨n23, rfl⟩ := Int.eq_ofNat_of_zero_le b23.1
    obtain ⟨y24, t24⟩ := fieldAt hxl hf 11 _ rfl 30 24 1 rfl rfl Try.cW
    simp only [List.drop_succ_cons, List.drop_zero, List.take_succ_cons, List.take_zero] at t24
    obtain ⟨n24, e24, _, w24⟩ := DataW.trod_int Try.underlying30 t24
    simp only [List.cons.injEq, and_true] at e24
    subst e24
    have b24 := bounds_u16 w24
    obtain ⟨n24, rfl⟩ := Int.eq_ofNat_of_zero_le b24.1
    obtain ⟨y25, t25⟩ := fieldAt hxl hf 12 _ rfl 30 25 1 rfl rfl Try.cW
    simp only [List.drop_succ_cons, List.drop_zero, List.take_succ_cons, List.take_zero] at t25
    obtain ⟨n25, e25, _, w25⟩ := DataW.trod_int Try.underlying30 t25
    simp only [List.cons.injEq, and_true] at e25
    subst e25
    have b25 := bounds_u16 w25
    obtain ⟨n25, rfl⟩ := Int.eq_ofNat_of_zero_le b25.1
    obtain ⟨y26, t26⟩ := fieldAt hxl hf 13 _ rfl 4 26 1 rfl rfl Try.cO
    simp only [List.drop_succ_cons, List.drop_zero, List.take_succ_cons, List.take_zero] at t26
    obtain ⟨n26, e26, _⟩ := DataW.trod_bool Try.underlying4 t26
    simp only [List.cons.injEq, and_true] at e26
    subst e26
    obtain ⟨y27, t27⟩ := fieldAt hxl hf 14 _ rfl 3 27 1 rfl rfl Try.cI
    simp only [List.drop_succ_cons, List.drop_zero, List.take_succ_cons, List.take_zero] at t27
    obtain ⟨n27, e27, _, w27⟩ := DataW.trod_int Try.underlying3 t27
    simp only [List.cons.injEq, and_true] at e27
    subst e27
    have b27 : I64 n27 := bounds_i64 w27
    obtain ⟨xse, me, _, _, _, hle, hfe⟩ := DataW.trod_struct Try.underlying23 t4
    obtain ⟨ye0, te0⟩ := fieldAt hle hfe 0 _ rfl 5 0 1 rfl rfl Try.cB
    simp only [List.drop_zero, List.take_succ_cons, List.take_zero] at te0
    obtain ⟨n4, e4, _, w4⟩ := DataW.trod_int Try.underlying5 te0
    simp only [List.cons.injEq, and_true] at e4
    subst e4
    have b4 := bounds_u8 w4
    obtain ⟨n4, rfl⟩ := Int.eq_ofNat_of_zero_le b4.1
    obtain ⟨ye1, te1⟩ := fieldAt hle hfe 1 _ rfl 5 1 1 rfl rfl Try.cB
    simp only [List.drop_succ_cons, List.drop_zero, List.take_succ_cons, List.take_zero] at te1
    obtain ⟨n5, e5, _, w5⟩ := DataW.trod_int Try.underlying5 te1
    simp only [List.cons.injEq, and_true] at e5
    subst e5
    have b5 := bounds_u8 w5
    obtain ⟨n5, rfl⟩ := Int.eq_ofNat_of_zero_le b5.1
    obtain ⟨xsc, mc, _, _, _, hlc, hfc⟩ := DataW.trod_struct Try.underlying26 t7
    obtain ⟨yc0, tc0⟩ := fieldAt hlc hfc 0 _ rfl 3 0 1 rfl rfl Try.cI
    simp only [List.drop_zero, List.take_succ_cons, List.take_zero] at tc0
    obtain ⟨n7, e7, _, w7⟩ := DataW.trod_int Try.underlying3 tc0
    simp only [List.cons.injEq, and_true] at e7
    subst e7
    have b7 : I64 n7 := bounds_i64 w7
    obtain ⟨yc1, tc1⟩ := fieldAt hlc hfc 1 _ rfl 4 1 1 rfl rfl Try.cO
    simp only [List.drop_succ_cons, List.drop_zero, List.take_succ_cons, List.take_zero] at tc1
    obtain ⟨n8, e8, _⟩ := DataW.trod_bool Try.underlying4 tc1
    simp only [List.cons.injEq, and_true] at e8
    subst e8
    obtain ⟨yc2, tc2⟩ := fieldAt hlc hfc 2 _ rfl 3 2 1 rfl rfl Try.cI
    simp only [List.drop_succ_cons, List.drop_zero, List.take_succ_cons, List.take_zero] at tc2
    obtain ⟨n9, e9, _, w9⟩ := DataW.trod_int Try.underlying3 tc2
    simp only [List.cons.injEq, and_true] at e9
    subst e9
    have b9 : I64 n9 := bounds_i64 w9
    obtain ⟨yc3, tc3⟩ := fieldAt hlc hfc 3 _ rfl 3 3 1 rfl rfl Try.cI
    simp only [List.drop_succ_cons, List.drop_zero, List.take_succ_cons, List.take_zero] at tc3
    obtain ⟨n10, e10, _, w10⟩ := DataW.trod_int Try.underlying3 tc3
    simp only [List.cons.injEq, and_true] at e10
    subst e10
    have b10 : I64 n10 := bounds_i64 w10
    obtain ⟨yc4, tc4⟩ := fieldAt hlc hfc 4 _ rfl 3 4 1 rfl rfl Try.cI
    simp only [List.drop_succ_cons, List.drop_zero, List.take_succ_cons, List.take_zero] at tc4
    obtain ⟨n11, e11, _, w11⟩ := DataW.trod_int Try.underlying3 tc4
    simp only [List.cons.injEq, and_true] at e11
    subst e11
    have b11 : I64 n11 := bounds_i64 w11
    obtain ⟨yc5, tc5⟩ := fieldAt hlc hfc 5 _ rfl 3 5 1 rfl rfl Try.cI
    simp only [List.drop_succ_cons, List.drop_zero, List.take_succ_cons, List.take_zero] at tc5
    obtain ⟨n12, e12, _, w12⟩ := DataW.trod_int Try.underlying3 tc5
    simp only [List.cons.injEq, and_true] at e12
    subst e12
    have b12 : I64 n12 := bounds_i64 w12
    obtain ⟨yc6, tc6⟩ := fieldAt hlc hfc 6 _ rfl 24 6 1 rfl rfl Try.cP
    simp only [List.drop_succ_cons, List.drop_zero, List.take_succ_cons, List.take_zero] at tc6
    obtain ⟨xst, mt, _, _, _, hlt, hft⟩ := DataW.trod_struct Try.underlying29 t14
    obtain ⟨yt0, tt0⟩ := fieldAt hlt hft 0 _ rfl 5 0 1 rfl rfl Try.cB
    simp only [List.drop_zero, List.take_succ_cons, List.take_zero] at tt0
    obtain ⟨n14, e14, _, w14⟩ := DataW.trod_int Try.underlying5 tt0
    simp only [List.cons.injEq, and_true] at e14
    subst e14
    have b14 := bounds_u8 w14
    obtain ⟨n14, rfl⟩ := Int.eq_ofNat_of_zero_le b14.1
    obtain ⟨yt1, tt1⟩ := fieldAt hlt hft 1 _ rfl 27 1 6 rfl rfl Try.cR
    simp only [List.drop_succ_cons, List.drop_zero, List.take_succ_cons, List.take_zero] at tt1
    obtain ⟨xsr, mr, _, _, _, hlr, hfr⟩ := DataW.trod_array Try.underlying27 tt1
    have tr0 := hfr 0 (by omega)
    rw [Try.cB, List.getElem?_eq_getElem (by omega)] at tr0
    simp only [Nat.mul_one, List.drop_zero, List.take_succ_cons, List.take_zero] at tr0
    obtain ⟨n15, e15, _, w15⟩ := DataW.trod_int Try.underlying5 tr0
    simp only [List.cons.injEq, and_true] at e15
    subst e15
    have b15 := bounds_u8 w15
    obtain ⟨n15, rfl⟩ := Int.eq_ofNat_of_zero_le b15.1
    have tr1 := hfr 1 (by omega)
    rw [Try.cB, List.getElem?_eq_getElem (by omega)] at tr1
    simp only [Nat.mul_one, List.drop_succ_cons, List.drop_zero, List.take_succ_cons, List.take_zero] at tr1
    obtain ⟨n16, e16, _, w16⟩ := DataW.trod_int Try.underlying5 tr1
    simp only [List.cons.injEq, and_true] at e16
    subst e16
    have b16 := bounds_u8 w16
    obtain ⟨n16, rfl⟩ := Int.eq_ofNat_of_zero_le b16.1
    have tr2 := hfr 2 (by omega)
    rw [Try.cB, List.getElem?_eq_getElem (by omega)] at tr2
    simp only [Nat.mul_one, List.drop_succ_cons, List.drop_zero, List.take_succ_cons, List.take_zero] at tr2
    obtain ⟨n17, e17, _, w17⟩ := DataW.trod_int Try.underlying5 tr2
    simp only [List.cons.injEq, and_true] at e17
    subst e17
    have b17 := bounds_u8 w17
    obtain ⟨n17, rfl⟩ := Int.eq_ofNat_of_zero_le b17.1
    have tr3 := hfr 3 (by omega)
    rw [Try.cB, List.getElem?_eq_getElem (by omega)] at tr3
    simp only [Nat.mul_one, List.drop_succ_cons, List.drop_zero, List.take_succ_cons, List.take_zero] at tr3
    obtain ⟨n18, e18, _, w18⟩ := DataW.trod_int Try.underlying5 tr3
    simp only [List.cons.injEq, and_true] at e18
    subst e18
    have b18 := bounds_u8 w18
    obtain ⟨n18, rfl⟩ := Int.eq_ofNat_of_zero_le b18.1
    have tr4 := hfr 4 (by omega)
    rw [Try.cB, List.getElem?_eq_getElem (by omega)] at tr4
    simp only [Nat.mul_one, List.drop_succ_cons, List.drop_zero, List.take_succ_cons, List.take_zero] at tr4
    obtain ⟨n19, e19, _, w19⟩ := DataW.trod_int Try.underlying5 tr4
    simp only [List.cons.injEq, and_true] at e19
    subst e19
    have b19 := bounds_u8 w19
    obtain ⟨n19, rfl⟩ := Int.eq_ofNat_of_zero_le b19.1
    have tr5 := hfr 5 (by omega)
    rw [Try.cB, List.getElem?_eq_getElem (by omega)] at tr5
    simp only [Nat.mul_one, List.drop_succ_cons, List.drop_zero, List.take_succ_cons, List.take_zero] at tr5
    obtain ⟨n20, e20, _, w20⟩ := DataW.trod_int Try.underlying5 tr5
    simp only [List.cons.injEq, and_true] at e20
    subst e20
    have b20 := bounds_u8 w20
    obtain ⟨n20, rfl⟩ := Int.eq_ofNat_of_zero_le b20.1
    obtain ⟨P, hP, hPn⟩ := pts_in tc6
    refine ⟨⟨n0, n1, n2, n3, n4, n5, n6, ⟨n7, n8, n9, n10, n11, n12, v13⟩, n14, n15, n16, n17, n18, n19, n20, n21, n22, n23, n24, n25, n26, n27⟩, P, rfl, hP, fun hp hn => ⟨⟨⟨hp, fun i => (hPn i).1, fun i => (hPn i).2⟩, b7, b9, b10, b11, b12⟩, ?_, ?_, ?_, hn, ?_, ?_, ?_, fun i => ?_, ?_, ?_, ?_, ?_, ?_, b27⟩, w3⟩
    · show n0 < 256; omega
    · show n1 < 256; omega
    · show n2 < 256; omega
    · show n4 < 256; omega
    · show n5 < 256; omega
    · show n14 < 256; omega
    · unfold Sen.raw
      rcases Nat.lt_or_ge i 6 with hi | hi
      · match i, hi with
        | 0, _ | 1, _ | 2, _ | 3, _ | 4, _ | 5, _ => simp only [List.getD_cons_zero, List.getD_cons_succ]; omega
      · rw [List.getD_eq_getElem?_getD, List.getElem?_eq_none (by simpa using hi)]; decide
    · show n21 < 256; omega
    · show n22 < 256; omega
    · show n23 < 65536; omega
    · show n24 < 65536; omega
    · show n25 < 65536; omega
end Go.Proofs.Ytijjkonephjodaa
