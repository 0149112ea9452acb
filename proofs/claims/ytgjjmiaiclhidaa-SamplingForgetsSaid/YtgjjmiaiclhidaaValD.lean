/- Joined texts. A conversion that came in: how it reads. | A slice literal of three conversions: where each lies. | ConvertForms: the plain law. | ConvertBetween, ConvertSteps: the plain laws. | Two boxes at the end of a drawn region: 2 allocations, 2 stores. | SensorKinds: what is asked of plain records; blocks of records under way. -/
import Derived.Test.YtgjjmiaiclhidaaBaseH
import Derived.Test.YtgjjmiaiclhidaaBaseL
import Derived.Test.YtgjjmiaiclhidaaValA
import Derived.Test.YtgjjmiaiclhidaaBaseD
namespace Go.Proofs.Ytgjjmiaiclhidaa
open Go.RowKit Go.ChangeShapes Go.WideShapes Go.Deep

/-- A conversion that came in. -/
structure ConvIn (w : World) (C : Conv) (P : List Pt) : Prop where
  rd : RdPts w C.pts P
  pt : ∀ i, (P.getD i default).raw < 256 ∧ I64 (P.getD i default).val
  form : I64 C.form
  m : I64 C.m
  b : I64 C.b
  k1 : I64 C.k1
  k2 : I64 C.k2
theorem ConvIn.mods0 {w w' : World} {C : Conv} {P : List Pt} (h : ConvIn w C P) (M : Mods [] w w') : ConvIn w' C P := ⟨h.rd.mods0 M, h.pt, h.form, h.m, h.b, h.k1, h.k2⟩
theorem ConvIn.is {w : World} {C : Conv} {P : List Pt} (h : ConvIn w C P) (hl : P.length ≤ 1000) : IsConv w C P := ⟨h.rd, ⟨hl, fun i => (h.pt i).1, fun i => (h.pt i).2⟩, h.form, h.m, h.b, h.k1, h.k2⟩
set_option maxRecDepth 100000 in
theorem conv_in {H : Type} {enc : TypeId × Value → H} {w : World} {base : Nat} {spare : Nat → Bool} {held : Bool} {fuel : Nat} {cs : Array Value} {x : DataW H × List MemPlace}
    (h : DataW.trod enc Try.prog w base spare held fuel 26 cs.toList = some x) : ∃ C P, cs = Conv.cells C ∧ ConvIn w C P := by
  obtain ⟨xs, n, _, _, hlen, hxl, hf⟩ := DataW.trod_struct Try.underlying26 h
  rw [show Try.prog.cellsOf 26 = 7 by kernel_rfl] at hlen
  obtain ⟨l⟩ := cs
  simp only at hlen hf h
  match l, hlen with
  | [v0, v1, v2, v3, v4, v5, v6], _ =>
    obtain ⟨y0, t0⟩ := fieldAt hxl hf 0 _ rfl 3 0 1 rfl rfl Try.cI
    simp only [List.drop_zero, List.take_succ_cons, List.take_zero] at t0
    obtain ⟨n0, e0, _, w0⟩ := DataW.trod_int Try.underlying3 t0
    simp only [List.cons.injEq, and_true] at e0
    subst e0
    have b0 : I64 n0 := bounds_i64 w0
    obtain ⟨y1, t1⟩ := fieldAt hxl hf 1 _ rfl 4 1 1 rfl rfl Try.cO
    simp only [List.drop_succ_cons, List.drop_zero, List.take_succ_cons, List.take_zero] at t1
    obtain ⟨n1, e1, _⟩ := DataW.trod_bool Try.underlying4 t1
    simp only [List.cons.injEq, and_true] at e1
    subst e1
    obtain ⟨y2, t2⟩ := fieldAt hxl hf 2 _ rfl 3 2 1 rfl rfl Try.cI
    simp only [List.drop_succ_cons, List.drop_zero, List.take_succ_cons, List.take_zero] at t2
    obtain ⟨n2, e2, _, w2⟩ := DataW.trod_int Try.underlying3 t2
    simp only [List.cons.injEq, and_true] at e2
    subst e2
    have b2 : I64 n2 := bounds_i64 w2
    obtain ⟨y3, t3⟩ := fieldAt hxl hf 3 _ rfl 3 3 1 rfl rfl Try.cI
    simp only [List.drop_succ_cons, List.drop_zero, List.take_succ_cons, List.take_zero] at t3
    obtain ⟨n3, e3, _, w3⟩ := DataW.trod_int Try.underlying3 t3
    simp only [List.cons.injEq, and_true] at e3
    subst e3
    have b3 : I64 n3 := bounds_i64 w3
    obtain ⟨y4, t4⟩ := fieldAt hxl hf 4 _ rfl 3 4 1 rfl rfl Try.cI
    simp only [List.drop_succ_cons, List.drop_zero, List.take_succ_cons, List.take_zero] at t4
    obtain ⟨n4, e4, _, w4⟩ := DataW.trod_int Try.underlying3 t4
    simp only [List.cons.injEq, and_true] at e4
    subst e4
    have b4 : I64 n4 := bounds_i64 w4
    obtain ⟨y5, t5⟩ := fieldAt hxl hf 5 _ rfl 3 5 1 rfl rfl Try.cI
    simp only [List.drop_succ_cons, List.drop_zero, List.take_succ_cons, List.take_zero] at t5
    obtain ⟨n5, e5, _, w5⟩ := DataW.trod_int Try.underlying3 t5
    simp only [List.cons.injEq, and_true] at e5
    subst e5
    have b5 : I64 n5 := bounds_i64 w5
    obtain ⟨y6, t6⟩ := fieldAt hxl hf 6 _ rfl 24 6 1 rfl rfl Try.cP
    simp only [List.drop_succ_cons, List.drop_zero, List.take_succ_cons, List.take_zero] at t6
    obtain ⟨P, hP, hQ⟩ := pts_in t6
    exact ⟨⟨n0, n1, n2, n3, n4, n5, v6⟩, P, rfl, ⟨hP, hQ, b0, b2, b3, b4, b5⟩⟩
end Go.Proofs.Ytgjjmiaiclhidaa

namespace Go.Proofs.Ytgjjmiaiclhidaa
open Go.RowKit

/-- The cells of three conversions in a row. -/
def threeK (Z : Array Value) (S0 S1 S2 : Conv) : Array Value := setAll (setAll (setAll Z (0 * 7) S0.cells.toList) (1 * 7) S1.cells.toList) (2 * 7) S2.cells.toList
theorem threeK_get {Z : Array Value} (hZ : Z.size = 21) (S0 S1 S2 : Conv) (j : Nat) (hj : j < 7) :
    (threeK Z S0 S1 S2)[0 * 7 + j]? = S0.cells[j]? ∧ (threeK Z S0 S1 S2)[1 * 7 + j]? = S1.cells[j]? ∧ (threeK Z S0 S1 S2)[2 * 7 + j]? = S2.cells[j]? := by
  have l0 : S0.cells.toList.length = 7 := rfl
  have l1 : S1.cells.toList.length = 7 := rfl
  have l2 : S2.cells.toList.length = 7 := rfl
  have g : ∀ (S : Conv), S.cells.toList[j]? = S.cells[j]? := fun S => by simp
  unfold threeK
  refine ⟨?_, ?_, ?_⟩
  · rw [get_setAll _ _ _ _ (by simp [size_setAll]; omega), if_neg (by omega), get_setAll _ _ _ _ (by simp [size_setAll]; omega), if_neg (by omega), get_setAll _ _ _ _ (by omega), if_pos (by omega), show 0 * 7 + j - 0 * 7 = j by omega, g]
  · rw [get_setAll _ _ _ _ (by simp [size_setAll]; omega), if_neg (by omega), get_setAll _ _ _ _ (by simp [size_setAll]; omega), if_pos (by omega), show 1 * 7 + j - 1 * 7 = j by omega, g]
  · rw [get_setAll _ _ _ _ (by simp [size_setAll]; omega), if_pos (by omega), show 2 * 7 + j - 2 * 7 = j by omega, g]
theorem Try.infoKon : (Try.prog.info? 26).map (fun i => (i.zero, i.size)) = some (some zC.val, 7) := by kernel_rfl
/-- A slice literal of three conversions. -/
theorem wp_threeK {o : Oper} {a : Act} {w : World} {K : Act → World → Prop} {Q : Exit → Act → World → Prop} (x0 x1 x2 : Operand) (ho : o.op = .buildSlice 62 3 #[(0, x0), (1, x1), (2, x2)]) (d : Nat) (hd : o.dst = some d)
    (S0 S1 S2 : Conv) (h0 : a.eval x0 = .agg S0.cells) (h1 : a.eval x1 = .agg S1.cells) (h2 : a.eval x2 = .agg S2.cells)
    (h : ∀ cells : Array Value, (∀ j, j < 7 → cells[0 * 7 + j]? = S0.cells[j]? ∧ cells[1 * 7 + j]? = S1.cells[j]? ∧ cells[2 * 7 + j]? = S2.cells[j]?) →
      K { a with tmps := a.tmps.setIfInBounds d (.slice (some ⟨w.heap.size, 0, none⟩) 3 3) } (w.alloc (.cells cells 26))) : o.wp Try.prog a w K Q := by
  have hi := Try.infoKon
  cases hie : Try.prog.info? 26 with
  | none => rw [hie] at hi; cases hi
  | some ie =>
    rw [hie] at hi
    simp only [Option.map_some, Option.some.injEq, Prod.mk.injEq] at hi
    obtain ⟨hz, hs⟩ := hi
    have hZ : ((Array.range (3 * ie.size)).map (zC.val.cells[· % zC.val.cells.size]!)).size = 21 := by simp [hs]
    refine wp_buildSlice 62 26 3 _ ho (threeK _ S0 S1 S2) ie _ Try.underlying62 hie hz (by rw [hs]; decide) (by rw [hs]; decide) ?_ (by unfold Act.put; rw [hd]; exact h _ (fun j hj => threeK_get hZ S0 S1 S2 j hj))
    rw [Array.toList_map]
    simp only [List.map_cons, List.map_nil, h0, h1, h2]
    rw [hs] at hZ ⊢
    exact fill_three rfl rfl rfl hZ
end Go.Proofs.Ytgjjmiaiclhidaa

namespace Go.Proofs.Ytgjjmiaiclhidaa

theorem convB_asForm {C : Conv} {P : List Pt} (h : convB C P = true) (hf : C.form ≠ 5) (k : Int) (hk : 1 ≤ k ∧ k ≤ 4) : convB { C with form := k } P = true := by
  have hL := convB_Lin h hf
  unfold convB at h ⊢
  rw [if_pos hL.form] at h
  rw [if_pos hk]
  exact h
theorem valueI_asForm {C : Conv} {P : List Pt} (h : convB C P = true) (hf : C.form ≠ 5) (k : Int) (hk : 1 ≤ k ∧ k ≤ 4) (raw : Nat) :
    valueI { C with form := k } P raw = if k = 2 then divV 1000000 (linI C (numI C.sgn raw)) else if k = 3 then (mulV (linI C (numI C.sgn raw)) (linI C (numI C.sgn raw)), 0) else if k = 4 then rootV (linI C (numI C.sgn raw)) else (linI C (numI C.sgn raw), 0) := by
  unfold valueI
  rw [if_pos (convB_asForm h hf k hk)]
  unfold valI valN
  rw [if_neg (by simp; omega)]
  rfl
theorem divV_code {y : Int} (hy : clampI y = y) : (divV 1000000 y).2 = if y = 0 then 12 else 0 := by
  unfold divV
  rw [hy]
  split <;> rfl
theorem rootV_code (y : Int) : (rootV y).2 = if y < 0 then 2 else 0 := by
  unfold rootV
  split <;> rfl
theorem sq_nonneg (y : Int) : 0 ≤ y * y := by
  rcases Int.lt_or_le y 0 with h | h
  · exact Int.le_of_lt (Int.mul_pos_of_neg_of_neg h h)
  · exact Int.mul_nonneg h h
theorem mulV_sq (y : Int) : 0 ≤ mulV y y ∧ mulV y y ≤ 1000000000000 := by
  unfold mulV
  have h := sq_nonneg (clampI y)
  have h2 : 0 ≤ clampI y * clampI y / 1000000 := Int.ediv_nonneg h (by omega)
  have := clampI_bd (clampI y * clampI y / 1000000)
  unfold clampI at *
  omega
theorem rootV_bd {y : Int} (h0 : 0 ≤ y) (hy : clampI y = y) : 0 ≤ (rootV y).1 ∧ (rootV y).1 ≤ 1000000000 ∧ (rootV y).1 * (rootV y).1 ≤ y * 1000000 ∧ y * 1000000 < ((rootV y).1 + 1) * ((rootV y).1 + 1) := by
  have hb := clampI_bd y
  rw [hy] at hb
  unfold rootV
  rw [if_neg (by omega), hy]
  simp only
  have ⟨h1, h2⟩ := rootN_spec (y * 1000000).toNat
  have e : (((y * 1000000).toNat : Nat) : Int) = y * 1000000 := Int.toNat_of_nonneg (by omega)
  generalize rootN (y * 1000000).toNat = r at h1 h2
  have a1 : ((r * r : Nat) : Int) ≤ (((y * 1000000).toNat : Nat) : Int) := Int.ofNat_le.2 h1
  have a2 : (((y * 1000000).toNat : Nat) : Int) < (((r + 1) * (r + 1) : Nat) : Int) := Int.ofNat_lt.2 h2
  rw [e] at a1 a2
  rw [Int.natCast_mul] at a1 a2
  have hr : r ≤ 1000000000 := by
    rcases Nat.lt_or_ge 1000000000 r with h | h
    · have := Nat.mul_le_mul (show 1000000001 ≤ r from h) (show 1000000001 ≤ r from h)
      have a3 : ((1000000001 * 1000000001 : Nat) : Int) ≤ ((r * r : Nat) : Int) := Int.ofNat_le.2 this
      rw [Int.natCast_mul] at a3
      omega
    · exact h
  refine ⟨by omega, by omega, a1, ?_⟩
  have e2 : ((r + 1 : Nat) : Int) = (r : Int) + 1 := by omega
  rw [e2] at a2
  exact a2
end Go.Proofs.Ytgjjmiaiclhidaa

namespace Go.Proofs.Ytgjjmiaiclhidaa

theorem asc_lt {sgn : Bool} {P : List Pt} (h : ∀ i, 0 < i → i < P.length → ptN sgn P (i - 1) < ptN sgn P i) {i j : Nat} (hij : i < j) (hj : j < P.length) : ptN sgn P i < ptN sgn P j := by
  obtain ⟨k, rfl⟩ : ∃ k, j = i + 1 + k := ⟨j - (i + 1), by omega⟩
  clear hij
  induction k with
  | zero => have := h (i + 1) (by omega) hj; simpa using this
  | succ k ih =>
    have h1 := ih (by omega)
    have h2 := h (i + 1 + (k + 1)) (by omega) hj
    rw [show i + 1 + (k + 1) - 1 = i + 1 + k by omega] at h2
    omega
theorem idx_at {sgn : Bool} {P : List Pt} (ht : tableB sgn P = true) {k : Nat} (hk : k < P.length) {x : Int} (h1 : x ≤ ptN sgn P k) (h2 : 0 < k → ptN sgn P (k - 1) < x) : idxP sgn P x = k := by
  obtain ⟨_, _, _, h4⟩ := tab_parts ht
  refine idxP_eq hk h1 fun j hj => ?_
  have a := h2 (by omega)
  rcases Nat.lt_or_ge j (k - 1) with h | h
  · have := asc_lt h4 h (by omega)
    show ptN sgn P j < x
    omega
  · obtain rfl : j = k - 1 := by omega
    exact a
theorem tabI_at {sgn : Bool} {P : List Pt} (ht : tableB sgn P = true) {k : Nat} (hk : k < P.length) : tabI sgn P (ptN sgn P k) = ptV P k := by
  obtain ⟨_, _, _, h4⟩ := tab_parts ht
  have e := idx_at ht hk (Int.le_refl _) (fun h => h4 k h hk)
  unfold tabI
  rw [e, if_neg (by omega), if_pos (.inr rfl)]
theorem tabI_mid {sgn : Bool} {P : List Pt} (ht : tableB sgn P = true) {k : Nat} (hk : k + 1 < P.length) {x : Int} (h1 : ptN sgn P k < x) (h2 : x < ptN sgn P (k + 1)) :
    tabI sgn P x = ptV P k + (ptV P (k + 1) - ptV P k) * (x - ptN sgn P k) / (ptN sgn P (k + 1) - ptN sgn P k) := by
  have e := idx_at ht hk (x := x) (by omega) (fun _ => by simpa using h1)
  unfold tabI
  rw [e, if_neg (by omega), if_neg (by omega), Nat.add_sub_cancel]
/-- A part of a difference lies between nothing and all of it. -/
theorem part_bd {e t d : Int} (h0 : 0 ≤ t) (h1 : t ≤ d) (hd : 0 < d) : (0 ≤ e → 0 ≤ e * t / d ∧ e * t / d ≤ e) ∧ (e ≤ 0 → e ≤ e * t / d ∧ e * t / d ≤ 0) := by
  refine ⟨fun he => ⟨?_, ?_⟩, fun he => ⟨?_, ?_⟩⟩
  · exact Int.ediv_nonneg (Int.mul_nonneg he h0) (by omega)
  · exact Int.ediv_le_of_le_mul hd (Int.mul_le_mul_of_nonneg_left h1 he)
  · rw [Int.le_ediv_iff_mul_le hd]
    have := Int.mul_le_mul_of_nonneg_left h1 (show 0 ≤ -e by omega)
    rw [Int.neg_mul, Int.neg_mul] at this
    omega
  · have : e * t ≤ 0 := Int.mul_nonpos_of_nonpos_of_nonneg he h0
    exact Int.ediv_le_of_le_mul hd (by omega)
theorem tabI_between {sgn : Bool} {P : List Pt} (ht : tableB sgn P = true) {k : Nat} (hk : k + 1 < P.length) {x : Int} (h1 : ptN sgn P k ≤ x) (h2 : x ≤ ptN sgn P (k + 1)) :
    min (ptV P k) (ptV P (k + 1)) ≤ tabI sgn P x ∧ tabI sgn P x ≤ max (ptV P k) (ptV P (k + 1)) := by
  rcases Int.lt_or_eq_of_le h1 with h1 | h1
  · rcases Int.lt_or_eq_of_le h2 with h2 | h2
    · rw [tabI_mid ht hk h1 h2]
      have := part_bd (e := ptV P (k + 1) - ptV P k) (t := x - ptN sgn P k) (d := ptN sgn P (k + 1) - ptN sgn P k) (by omega) (by omega) (by omega)
      omega
    · rw [h2, tabI_at ht hk]; omega
  · rw [← h1, tabI_at ht (by omega)]; omega
theorem valueI_tab {C : Conv} {P : List Pt} (h : convB C P = true) (hf : C.form = 5) (raw : Nat) : valueI C P raw = (tabI C.sgn P (numI C.sgn raw), 0) := by
  unfold valueI
  rw [if_pos h]
  unfold valI valN
  rw [if_pos hf]
theorem valueI_at {C : Conv} {P : List Pt} (h : convB C P = true) (hf : C.form = 5) {k : Nat} (hk : k < P.length) : valueI C P (P.getD k default).raw = (ptV P k, 0) := by
  rw [valueI_tab h hf]
  rw [show numI C.sgn (P.getD k default).raw = ptN C.sgn P k from rfl, tabI_at (convB_Tab h hf) hk]
theorem linS_succ (C : Conv) (x : Int) : linS C (x + 1) = linS C x + C.m * tenI (6 + C.k2).toNat := by
  unfold linS
  rw [Int.mul_add, Int.add_mul, Int.mul_one]
  omega
theorem linS_zero (C : Conv) : linS C 0 = C.b * tenI (6 + C.k1 + C.k2).toNat := by
  unfold linS
  rw [Int.mul_zero, Int.zero_mul, Int.zero_add]
theorem clampI_open {x : Int} (h1 : clampI x ≠ 1000000000000) (h2 : clampI x ≠ -1000000000000) : clampI x = x := by unfold clampI at *; omega
end Go.Proofs.Ytgjjmiaiclhidaa

namespace Go.Proofs.Ytgjjmiaiclhidaa
open Go.RowKit

section
variable {P : Program} {md : Region.Mode} {S : World → Prop} {Q : Exit → Act → World → Prop} {T : TypeId}
theorem twoBoxesAt {ops : Array Oper} {lst : Array Bool} {i2 i3 i4 i5 : Nat} (h23 : i2 ≠ i3) {a : Act} {w : World} {o2 o3 o4 o5 : Oper} {dA dB sA sB : Nat} {ty : TypeId} {z csA csB : Array Value} {fuel : Nat}
    (h2 : ops[i2]? = some o2) (h3 : ops[i3]? = some o3) (h4 : ops[i4]? = some o4) (h5 : ops[i5]? = some o5)
    (g2 : o2.guard = none) (g3 : o3.guard = none) (g4 : o4.guard = none) (g5 : o5.guard = none) (d2 : o2.dst = some dA) (d3 : o3.dst = some dB) (d4 : o4.dst = none) (d5 : o5.dst = none)
    (r2 : ∀ (a : Act) w, (execOp a.eval o2).run P w = .ok (.value (.pointer (some ⟨w.heap.size, 0, none⟩))) (w.alloc (.cells z T)))
    (r3 : ∀ (a : Act) w, (execOp a.eval o3).run P w = .ok (.value (.pointer (some ⟨w.heap.size, 0, none⟩))) (w.alloc (.cells z T)))
    (p4 : o4.op = .store ty (.tmp dA) (.tmp sA)) (p5 : o5.op = .store ty (.tmp dB) (.tmp sB))
    (zA : z.size = csA.size) (zB : z.size = csB.size) (iA : (P.info? ty).map (·.size) = some csA.size) (iB : (P.info? ty).map (·.size) = some csB.size)
    (oneA : csA.all (·.oneCell') = true) (oneB : csB.all (·.oneCell') = true)
    (lA : dA < a.tmps.size) (lB : dB < a.tmps.size) (nAB : dA ≠ dB) (nA1 : dA ≠ sA) (nA2 : dA ≠ sB) (nB1 : dB ≠ sA) (nB2 : dB ≠ sB)
    (vA : a.tmps.getD sA undef = .agg csA) (vB : a.tmps.getD sB undef = .agg csB)
    (t1 : Region.ready md ops lst = [i2, i3]) (t2 : Region.ready md ops (lst.setIfInBounds i2 true) = [i3]) (t3 : Region.ready md ops (lst.setIfInBounds i3 true) = [i2])
    (t4 : Region.ready md ops ((lst.setIfInBounds i2 true).setIfInBounds i3 true) = [i4]) (t5 : Region.ready md ops (((lst.setIfInBounds i2 true).setIfInBounds i3 true).setIfInBounds i4 true) = [i5]) (t6 : Region.ready md ops ((((lst.setIfInBounds i2 true).setIfInBounds i3 true).setIfInBounds i4 true).setIfInBounds i5 true) = []) (hK : ∀ w', Mods [] w w' → S w')
    (h : ∀ gA gB W, TB T w W (some (gA, csA)) (some (gB, csB)) → Q .normal { a with tmps := (a.tmps.setIfInBounds dA (.pointer (some ⟨gA, 0, none⟩))).setIfInBounds dB (.pointer (some ⟨gB, 0, none⟩)) } W) :
    wpAnyH P md ops Q S (fuel + 4) lst a w := by
  have comm : ∀ gA gB, (a.tmps.setIfInBounds dB (.pointer (some ⟨gB, 0, none⟩))).setIfInBounds dA (.pointer (some ⟨gA, 0, none⟩)) = (a.tmps.setIfInBounds dA (.pointer (some ⟨gA, 0, none⟩))).setIfInBounds dB (.pointer (some ⟨gB, 0, none⟩)) := fun gA gB => Array.setIfInBounds_comm _ _ nAB.symm
  have e1 : ∀ gA gB, ({ a with tmps := (a.tmps.setIfInBounds dA (.pointer (some ⟨gA, 0, none⟩))).setIfInBounds dB (.pointer (some ⟨gB, 0, none⟩)) } : Act).eval (.tmp dA) = .pointer (some ⟨gA, 0, none⟩) := fun gA gB => (getD_set_other nAB.symm).trans (getD_set_same lA)
  have e2 : ∀ gA gB, ({ a with tmps := (a.tmps.setIfInBounds dA (.pointer (some ⟨gA, 0, none⟩))).setIfInBounds dB (.pointer (some ⟨gB, 0, none⟩)) } : Act).eval (.tmp sA) = .agg csA := fun gA gB => (getD_set_other nB1).trans ((getD_set_other nA1).trans vA)
  have e3 : ∀ gA gB, ({ a with tmps := (a.tmps.setIfInBounds dA (.pointer (some ⟨gA, 0, none⟩))).setIfInBounds dB (.pointer (some ⟨gB, 0, none⟩)) } : Act).eval (.tmp dB) = .pointer (some ⟨gB, 0, none⟩) := fun gA gB => getD_set_same (by simpa using lB)
  have e4 : ∀ gA gB, ({ a with tmps := (a.tmps.setIfInBounds dA (.pointer (some ⟨gA, 0, none⟩))).setIfInBounds dB (.pointer (some ⟨gB, 0, none⟩)) } : Act).eval (.tmp sB) = .agg csB := fun gA gB => (getD_set_other nB2).trans ((getD_set_other nA2).trans vB)
  have both : ∀ gA gB W, TB T w W (some (gA, z)) (some (gB, z)) → wpAnyH P md ops Q S (fuel + 2) ((lst.setIfInBounds i2 true).setIfInBounds i3 true) { a with tmps := (a.tmps.setIfInBounds dA (.pointer (some ⟨gA, 0, none⟩))).setIfInBounds dB (.pointer (some ⟨gB, 0, none⟩)) } W := by
    intro gA gB W hW
    refine wpAnyH_ready t4 (by simp) (AllReadyH.cons h4 (fun K hk => ?_) AllReadyH.nil)
    refine exec_store g4 d4 p4 (hW.A _ rfl).1 (e1 gA gB) (e2 gA gB) zA iA oneA (fun W' R M => ?_)
    have hW' := hW.storeA R M
    refine hk.out _ _ (hK _ hW'.M) (fun _ => ?_)
    refine wpAnyH_ready t5 (by simp) (AllReadyH.cons h5 (fun K hk => ?_) AllReadyH.nil)
    refine exec_store g5 d5 p5 (hW'.B _ rfl).1 (e3 gA gB) (e4 gA gB) zB iB oneB (fun W'' R M => ?_)
    have hW'' := (hW'.swap.storeA R M).swap
    exact hk.out _ _ (hK _ hW''.M) (fun _ => wpAnyH_done t6 (h _ _ _ hW'') _)
  refine wpAnyH_ready t1 (by simp) (AllReadyH.cons h2 (fun K hk => ?_) (AllReadyH.cons h3 (fun K hk => ?_) AllReadyH.nil))
  · refine exec_alloc g2 d2 r2 ?_
    have hW := (TB.start (T := T) w).allocA z
    refine hk.out _ _ (hK _ hW.M) (fun _ => ?_)
    refine wpAnyH_ready t2 (by simp) (AllReadyH.cons h3 (fun K hk => ?_) AllReadyH.nil)
    refine exec_alloc g3 d3 r3 ?_
    have hW2 := (hW.swap.allocA z).swap
    exact hk.out _ _ (hK _ hW2.M) (fun _ => both _ _ _ hW2)
  · refine exec_alloc g3 d3 r3 ?_
    have hW := ((TB.start (T := T) w).allocA z).swap
    refine hk.out _ _ (hK _ hW.M) (fun _ => ?_)
    refine wpAnyH_ready t3 (by simp) (AllReadyH.cons h2 (fun K hk => ?_) AllReadyH.nil)
    refine exec_alloc g2 d2 r2 ?_
    have hW2 := hW.allocA z
    refine hk.out _ _ (hK _ hW2.M) (fun _ => ?_)
    rw [comm, Array.setIfInBounds_comm _ _ h23.symm]
    exact both _ _ _ hW2
end
end Go.Proofs.Ytgjjmiaiclhidaa

namespace Go.Proofs.Ytgjjmiaiclhidaa
open Go.RowKit

theorem yieldsIf_load_rowG {P : Program} {ops : Array Oper} {S : World → Prop} {o : Oper} {a : Act} (hw : Region.wanted o (yielded ops a.tmps) = true) (ty : TypeId) (x : Operand) (ho : o.op = .load ty x)
    (g : Nat) (hx : a.eval x = .pointer (some ⟨g, 0, none⟩)) (t : TypeId) (cs : Array Value) (fr : Nat × Nat) (d : TypeDesc) (hg : ∀ w, S w → w.heap[g]? = some (.cells cs t fr))
    (hu : P.underlying ty = some d) (hd : (match d with | .struct _ | .array _ _ => true | _ => false) = true) (hi : (P.info? ty).map (·.size) = some cs.size) : YieldsIf P ops S o (.agg cs) a := by
  refine .inl ⟨hw, fun w hS => ?_⟩
  unfold execOp
  simp only [ho, hx, Instr.loadAt, Instr.sureAddr, Sem.run_bind, Sem.run_pure, Result.andThen_ok, run_loadVar_row w g t ty cs fr d (hg w hS) hu hd hi]
theorem and2 {a b c d : Bool} (h : a = b) (h' : c = d) : (a && c) = (b && d) := by rw [h, h']
theorem valid_parts {S : Sen} {P : List Pt} (h : validB S P = true) : nameB S.name = true ∧ (S.samples = 1 ∨ S.samples = 3 ∨ S.samples = 5) ∧ (S.disc = true → discB S P = true) ∧ (S.disc = false → analogB S P = true) := by
  unfold validB at h
  simp only [Bool.and_eq_true, decide_eq_true_eq] at h
  exact ⟨h.1.1, h.1.2, fun hd => by have := h.2; rw [if_pos hd] at this; exact this, fun hd => by have := h.2; rw [if_neg (by rw [hd]; decide)] at this; exact this⟩
theorem convB_form {C : Conv} {P : List Pt} (h : convB C P = true) : C.form ≠ 0 := by
  unfold convB at h
  split at h
  · omega
  · simp only [Bool.and_eq_true, decide_eq_true_eq] at h; omega
/-- An analog record as a discrete one. -/
theorem kind_x {S : Sen} {P : List Pt} (h : validB S P = true) (hd : S.disc = false) : validB { S with disc := true } P = false := by
  have ha := (valid_parts h).2.2.2 hd
  have hc : S.conv.form ≠ 0 := by unfold analogB at ha; simp only [Bool.and_eq_true] at ha; exact convB_form ha.1.1.1.1.1
  cases hv : validB { S with disc := true } P with
  | false => rfl
  | true =>
    have := (valid_parts hv).2.2.1 rfl
    unfold discB at this
    simp only [Bool.and_eq_true, decide_eq_true_eq] at this
    exact absurd this.1.1.1.1 hc
/-- A discrete record as an analog one. -/
theorem kind_y {S : Sen} {P : List Pt} (h : validB S P = true) (hd : S.disc = true) : validB { S with disc := false } P = false := by
  have ha := (valid_parts h).2.2.1 hd
  cases hv : validB { S with disc := false } P with
  | false => rfl
  | true =>
    have := (valid_parts hv).2.2.2 rfl
    have hc : S.conv.form ≠ 0 := by unfold analogB at this; simp only [Bool.and_eq_true] at this; exact convB_form this.1.1.1.1.1
    unfold discB at ha
    simp only [Bool.and_eq_true, decide_eq_true_eq] at ha
    exact absurd ha.1.1.1.1 hc
theorem bit_in {x m i : Nat} (h : x &&& (65535 - m) = 0) (hm : m < 65536) (hi : i < 16) (hx : x.testBit i = true) : m.testBit i = true := by
  have e := congrArg (·.testBit i) h
  simp only [Nat.testBit_and, hx, Bool.true_and, Nat.zero_testBit] at e
  cases hb : m.testBit i with
  | true => rfl
  | false =>
    have : (65535 - m).testBit i = !m.testBit i := by
      have := Nat.testBit_two_pow_sub_succ (n := 16) (x := m) (by omega) i
      rw [show 65535 - m = 2 ^ 16 - (m + 1) by omega, this, decide_eq_true hi, Bool.true_and]
    rw [this, hb] at e
    cases e
/-- A mask with a bit too many. -/
theorem kind_p {S : Sen} {P : List Pt} (hd : S.disc = false) : validB { S with asrt := S.asrt ||| 64 } P = false := by
  cases hv : validB { S with asrt := S.asrt ||| 64 } P with
  | false => rfl
  | true =>
    have := (valid_parts hv).2.2.2 hd
    unfold analogB at this
    simp only [Bool.and_eq_true, decide_eq_true_eq] at this
    obtain ⟨⟨⟨⟨⟨_, hm⟩, _⟩, hb⟩, _⟩, _⟩ := this
    have h6 := bit_in (i := 6) hb (show S.mask < 65536 from by have : S.mask < 64 := hm; omega) (by omega) (by rw [Nat.testBit_or, Nat.testBit_or]; simp [show (64 : Nat).testBit 6 = true from rfl])
    have h64 : S.mask < 64 := hm
    rw [Nat.testBit_lt_two_pow (show S.mask < 2 ^ 6 by omega)] at h6
    cases h6
theorem kind_q {S : Sen} {P : List Pt} (hd : S.disc = true) : validB { S with deas := S.deas ||| 32768 } P = false := by
  cases hv : validB { S with deas := S.deas ||| 32768 } P with
  | false => rfl
  | true =>
    have := (valid_parts hv).2.2.1 hd
    unfold discB at this
    simp only [Bool.and_eq_true, decide_eq_true_eq] at this
    obtain ⟨⟨_, ⟨_, hm⟩⟩, hb⟩ := this
    have h32 : S.states ≤ 32767 := hm
    have h15 := bit_in (i := 15) hb (show S.states < 65536 by omega) (by omega) (by rw [Nat.testBit_or, Nat.testBit_or]; simp [show (32768 : Nat).testBit 15 = true from rfl])
    rw [Nat.testBit_lt_two_pow (show S.states < 2 ^ 15 by omega)] at h15
    cases h15
/-- One further bit of Assert. -/
theorem kind_u {S : Sen} {P : List Pt} (h : validB S P = true) (hd : S.disc = true) (k : Nat) (hk : k < 15) : validB { S with asrt := S.asrt ||| 2 ^ k } P = decide (S.states &&& 2 ^ k ≠ 0) := by
  have hD := (valid_parts h).2.2.1 hd
  have e0 : validB { S with asrt := S.asrt ||| 2 ^ k } P = decide (((S.asrt ||| 2 ^ k) ||| S.deas) &&& (65535 - S.states) = 0) := by
    unfold discB at hD
    simp only [Bool.and_eq_true] at hD
    unfold validB discB
    have h1 := (valid_parts h).1
    have h2 := (valid_parts h).2.1
    rw [show (({ S with asrt := S.asrt ||| 2 ^ k } : Sen).disc) = true from hd, if_pos rfl]
    rw [show nameB ({ S with asrt := S.asrt ||| 2 ^ k } : Sen).name = true from h1, show decide (({ S with asrt := S.asrt ||| 2 ^ k } : Sen).samples = 1 ∨ ({ S with asrt := S.asrt ||| 2 ^ k } : Sen).samples = 3 ∨ ({ S with asrt := S.asrt ||| 2 ^ k } : Sen).samples = 5) = true from decide_eq_true h2]
    rw [Bool.true_and, Bool.true_and]
    refine (and2 (and2 (and2 hD.1.1.1 hD.1.1.2) hD.1.2) rfl).trans ?_
    rw [Bool.true_and, Bool.true_and, Bool.true_and]
  unfold discB at hD
  simp only [Bool.and_eq_true, decide_eq_true_eq] at hD
  obtain ⟨⟨_, ⟨_, hm⟩⟩, hb⟩ := hD
  rw [e0, Bool.eq_iff_iff, decide_eq_true_iff, decide_eq_true_iff]
  have hA : S.states &&& 2 ^ k ≠ 0 ↔ S.states.testBit k = true := by
    constructor
    · intro hn
      cases hb : S.states.testBit k with
      | true => rfl
      | false =>
        refine absurd (Nat.eq_of_testBit_eq fun i => ?_) hn
        rw [Nat.testBit_and, Nat.zero_testBit]
        by_cases hik : i = k
        · subst hik; rw [hb, Bool.false_and]
        · rw [Nat.testBit_two_pow_of_ne (Ne.symm hik), Bool.and_false]
    · intro ht hz
      have := congrArg (·.testBit k) hz
      simp only [Nat.testBit_and, ht, Nat.testBit_two_pow_self, Nat.zero_testBit] at this
      cases this
  rw [hA]
  constructor
  · intro hz
    exact bit_in hz (by omega) (by omega) (by rw [Nat.testBit_or, Nat.testBit_or, Nat.testBit_two_pow_self]; simp)
  · intro ht
    refine Nat.eq_of_testBit_eq fun i => ?_
    rw [Nat.zero_testBit]
    have hi := congrArg (·.testBit i) hb
    simp only [Nat.testBit_and, Nat.testBit_or, Nat.zero_testBit] at hi
    rw [Nat.testBit_and, Nat.testBit_or, Nat.testBit_or]
    by_cases hik : i = k
    · subst hik
      have : (65535 - S.states).testBit i = !S.states.testBit i := by
        have := Nat.testBit_two_pow_sub_succ (n := 16) (x := S.states) (by omega) i
        rw [show 65535 - S.states = 2 ^ 16 - (S.states + 1) by omega, this, decide_eq_true (by omega), Bool.true_and]
      rw [this, ht]; simp
    · rw [Nat.testBit_two_pow_of_ne (Ne.symm hik), Bool.or_false]; exact hi
/-- Another name. -/
theorem kind_z {S : Sen} {P : List Pt} (h : validB S P = true) (s : ByteArray) : validB { S with name := s } P = nameB s := by
  unfold validB at h ⊢
  simp only [Bool.and_eq_true] at h
  have h2 := h.1.2
  have h3 := h.2
  show (nameB s && decide (S.samples = 1 ∨ S.samples = 3 ∨ S.samples = 5) && (if S.disc then discB S P else analogB S P)) = nameB s
  rw [h2, h3, Bool.and_true, Bool.and_true]
theorem nameB_iff {s : ByteArray} : nameB s = true ↔ (1 ≤ s.size ∧ s.size ≤ 16) ∧ ∀ k (hk : k < s.size), charB s[k] = true := by
  constructor
  · intro h
    refine ⟨by simp only [nameB, Bool.and_eq_true, decide_eq_true_eq] at h; exact h.1, fun k hk => ?_⟩
    cases hc : charB s[k] with
    | true => rfl
    | false => rw [nameB_bad hk hc] at h; cases h
  · rintro ⟨h1, h2⟩
    rw [nameB_good h2, decide_eq_true h1]
def Sen.kX (S : Sen) : Sen := { S with disc := true }
def Sen.kY (S : Sen) : Sen := { S with disc := false }
def Sen.kP (S : Sen) : Sen := { S with asrt := S.asrt ||| 64 }
def Sen.kQ (S : Sen) : Sen := { S with deas := S.deas ||| 32768 }
def Sen.kU (S : Sen) (k : Nat) : Sen := { S with asrt := S.asrt ||| 2 ^ k }
def Sen.kZ (S : Sen) (s : ByteArray) : Sen := { S with name := s }
theorem Sen.kX_set (S : Sen) : S.cells.setIfInBounds 6 (.bool true) = S.kX.cells := rfl
theorem Sen.kY_set (S : Sen) : S.cells.setIfInBounds 6 (.bool false) = S.kY.cells := rfl
theorem Sen.kP_set (S : Sen) : S.cells.setIfInBounds 24 (.int .u16 ((S.asrt ||| 64 : Nat) : Int)) = S.kP.cells := rfl
theorem Sen.kQ_set (S : Sen) : S.cells.setIfInBounds 25 (.int .u16 ((S.deas ||| 32768 : Nat) : Int)) = S.kQ.cells := rfl
theorem Sen.kU_set (S : Sen) (k : Nat) : S.cells.setIfInBounds 24 (.int .u16 ((S.asrt ||| 2 ^ k : Nat) : Int)) = (S.kU k).cells := rfl
theorem Sen.kZ_set (S : Sen) (s : ByteArray) : S.cells.setIfInBounds 3 (.string s) = (S.kZ s).cells := rfl
section
variable {w : World} {S : Sen} {P : List Pt}
theorem IsSen.kX (h : IsSen w S P) : IsSen w S.kX P := { h with }
theorem IsSen.kY (h : IsSen w S P) : IsSen w S.kY P := { h with }
theorem IsSen.kP (h : IsSen w S P) : IsSen w S.kP P := { h with asrt := Nat.or_lt_two_pow (n := 16) h.asrt (by decide) }
theorem IsSen.kQ (h : IsSen w S P) : IsSen w S.kQ P := { h with deas := Nat.or_lt_two_pow (n := 16) h.deas (by decide) }
theorem IsSen.kU (h : IsSen w S P) {k : Nat} (hk : k < 15) : IsSen w (S.kU k) P := { h with asrt := Nat.or_lt_two_pow (n := 16) h.asrt (Nat.pow_lt_pow_right (by decide) (by omega)) }
theorem IsSen.kZ (h : IsSen w S P) {s : ByteArray} (hs : s.size ≤ 1000) : IsSen w (S.kZ s) P := { h with name := hs }
end
/-- Blocks of one type that were made since w0. -/
structure Blks (T : TypeId) (w0 w : World) (l : List (Nat × Array Value)) : Prop where
  M : Mods [] w0 w
  all : ∀ p ∈ l, w.heap[p.1]? = some (.cells p.2 T (0, 0)) ∧ w0.heap.size ≤ p.1
  nd : (l.map (·.1)).Nodup
variable {T : TypeId} {w0 w W : World} {l : List (Nat × Array Value)}
theorem Blks.nil (w : World) : Blks T w w [] := ⟨Mods.refl, fun _ h => (by cases h), List.nodup_nil⟩
theorem Blks.mods0 (h : Blks T w0 w l) (M : Mods [] w W) : Blks T w0 W l := ⟨h.M.trans M, fun p hp => ⟨M.heap (h.all p hp).1 (by simp), (h.all p hp).2⟩, h.nd⟩
theorem Blks.fresh (h : Blks T w0 w l) {g : Nat} (hg : w.heap.size ≤ g) : g ∉ l.map (·.1) := fun hm => by
  obtain ⟨p, hp, rfl⟩ := List.mem_map.1 hm
  have := lt_of_block (h.all p hp).1
  omega
theorem Blks.push (h : Blks T w0 w l) {g : Nat} {c : Array Value} (hg : w.heap.size ≤ g) (R : W.heap[g]? = some (.cells c T (0, 0))) (M : Mods [] w W) : Blks T w0 W ((g, c) :: l) :=
  ⟨h.M.trans M, fun p hp => by
    rcases List.mem_cons.1 hp with rfl | hp
    · exact ⟨R, Nat.le_trans h.M.size hg⟩
    · exact ⟨M.heap (h.all p hp).1 (by simp), (h.all p hp).2⟩, List.nodup_cons.2 ⟨h.fresh hg, h.nd⟩⟩
theorem Blks.two (h : Blks T w0 w l) {gA gB : Nat} {cA cB : Array Value} (t : TB T w W (some (gA, cA)) (some (gB, cB))) : Blks T w0 W ((gA, cA) :: (gB, cB) :: l) := by
  have h1 := h.push (t.B _ rfl).2 (t.B _ rfl).1 t.M
  refine ⟨h1.M, fun p hp => ?_, List.nodup_cons.2 ⟨fun hm => ?_, h1.nd⟩⟩
  · rcases List.mem_cons.1 hp with rfl | hp
    · exact ⟨(t.A _ rfl).1, Nat.le_trans h.M.size (t.A _ rfl).2⟩
    · exact h1.all p hp
  · rcases List.mem_cons.1 hm with he | hm
    · exact t.ne _ _ rfl rfl he
    · exact h.fresh (t.A _ rfl).2 hm
theorem Blks.set {g : Nat} {c : Array Value} (h : Blks T w0 w ((g, c) :: l)) (i : Nat) (u : Value) : Blks T w0 (w.setCell ⟨g, i, none⟩ u) ((g, c.setIfInBounds i u) :: l) :=
  ⟨h.M.setCell (.inr (h.all _ (.head _)).2) _, fun p hp => by
    rcases List.mem_cons.1 hp with rfl | hp
    · exact ⟨heap_setCell (h.all _ (.head _)).1, (h.all (g, c) (.head _)).2⟩
    · have := (List.nodup_cons.1 h.nd).1
      exact ⟨heap_setCell_ne (h.all _ (.tail _ hp)).1 (fun e => this (List.mem_map.2 ⟨p, hp, e⟩)), (h.all _ (.tail _ hp)).2⟩, h.nd⟩
theorem Blks.exch {p q : Nat × Array Value} (h : Blks T w0 w (p :: q :: l)) : Blks T w0 w (q :: p :: l) :=
  ⟨h.M, fun x hx => h.all x (by simp only [List.mem_cons] at hx ⊢; rcases hx with h | h | h; exact .inr (.inl h); exact .inl h; exact .inr (.inr h)), by
    have := h.nd
    simp only [List.map_cons, List.nodup_cons, List.mem_cons, not_or] at this ⊢
    exact ⟨⟨fun e => this.1.1 e.symm, this.2.1⟩, this.1.2, this.2.2⟩⟩
theorem Blks.set2 {p : Nat × Array Value} {g : Nat} {c : Array Value} (h : Blks T w0 w (p :: (g, c) :: l)) (i : Nat) (u : Value) : Blks T w0 (w.setCell ⟨g, i, none⟩ u) (p :: (g, c.setIfInBounds i u) :: l) := (h.exch.set i u).exch
end Go.Proofs.Ytgjjmiaiclhidaa
