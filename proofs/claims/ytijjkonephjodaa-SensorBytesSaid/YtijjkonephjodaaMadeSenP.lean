/- Facts of the sensors that the dice make: plain. -/
import Derived.Test.YtijjkonephjodaaMadeConv
namespace Go.Proofs.Ytijjkonephjodaa
open Go.RowKit

theorem and_sub (a : Nat) (h : a < 65536) : a &&& (65535 - a) = 0 := by
  refine Nat.eq_of_testBit_eq fun i => ?_
  rw [Nat.testBit_and, Nat.zero_testBit, show 65535 - a = 2 ^ 16 - (a + 1) by omega, Nat.testBit_two_pow_sub_succ (by omega)]
  cases a.testBit i <;> simp
theorem sub_mask (a x : Nat) (h : a < 65536) : (a &&& x) &&& (65535 - a) = 0 := by
  rw [Nat.and_comm a x, Nat.and_assoc, and_sub a h, Nat.and_zero]
theorem or_mask {a x y : Nat} (hx : x &&& (65535 - a) = 0) (hy : y &&& (65535 - a) = 0) : (x ||| y) &&& (65535 - a) = 0 := (or_and_zero _ _ _).2 ⟨hx, hy⟩
def zC : Conv := ⟨0, false, 0, 0, 0, 0, .slice none 0 0⟩
def zS : Sen := ⟨0, 0, 0, ⟨#[]⟩, 0, 0, false, zC, 0, 0, 0, 0, 0, 0, 0, 0, 0, 0, 0, 0, false, 0⟩
theorem Sen.one (S : Sen) (h : S.conv.pts.oneCell' = true) : S.cells.all (·.oneCell') = true := by
  simp [Sen.cells, h]
  simp [Value.oneCell']
theorem Conv.one (C : Conv) (h : C.pts.oneCell' = true) : C.cells.all (·.oneCell') = true := by
  simp [Conv.cells, h]
  simp [Value.oneCell']
theorem RdPts.one {w : World} {v : Value} {P : List Pt} (h : RdPts w v P) : v.oneCell' = true := by
  obtain ⟨ad, cap, rfl⟩ := h.len
  rfl
def alphaS : ByteArray := ⟨#[67, 80, 85, 32, 84, 101, 109, 112, 46, 48, 49, 57]⟩
theorem alphaS_char : ∀ c ∈ alphaS.data.toList, charB c = true := by decide
theorem name_made {s : ByteArray} {m : Nat} (h1 : s.size = m) (h2 : 1 ≤ m) (h3 : m ≤ 16) (h : ∀ c ∈ s.data.toList, c ∈ alphaS.data.toList) : nameB s = true := by
  unfold nameB
  rw [decide_eq_true (by omega), Bool.true_and, List.all_eq_true]
  exact fun c hc => alphaS_char c (h c hc)
/-- A sensor of the dice. -/
def MadeSen (w : World) (b : Nat) (v : Value) (L : List Int) (num : Nat) (e : Ending) (w' : World) : Prop :=
  ∃ (S : Sen) (P : List Pt) (n : Nat), e = .returned (.agg S.cells) ∧ IsSen w' S P ∧ validB S P = true ∧ OwnPts w' w.heap.size S.conv.pts P ∧ P.length ≤ 12 ∧ S.number = num ∧ IsDice w' b v L n ∧ Mods [b] w w'
theorem IsSen.made {w : World} {S : Sen} {P : List Pt} (hc : IsConv w S.conv P) (h : S.number < 256 ∧ S.type < 256 ∧ S.unit < 256 ∧ S.name.size ≤ 1000 ∧ S.eid < 256 ∧ S.einst < 256 ∧ S.mask < 256 ∧ S.hl < 256 ∧ S.hu < 256 ∧ S.states < 65536 ∧ S.asrt < 65536 ∧ S.deas < 65536) (hr : S.r0 < 256 ∧ S.r1 < 256 ∧ S.r2 < 256 ∧ S.r3 < 256 ∧ S.r4 < 256 ∧ S.r5 < 256) (hs : I64 S.samples) : IsSen w S P := by
  obtain ⟨h1, h2, h3, h4, h5, h6, h7, h8, h9, h10, h11, h12⟩ := h
  refine ⟨hc, h1, h2, h3, h4, h5, h6, h7, fun i => ?_, h8, h9, h10, h11, h12, hs⟩
  obtain ⟨r0, r1, r2, r3, r4, r5⟩ := hr
  unfold Sen.raw
  rcases Nat.lt_or_ge i 6 with h | h
  · match i, h with
    | 0, _ => exact r0
    | 1, _ => exact r1
    | 2, _ => exact r2
    | 3, _ => exact r3
    | 4, _ => exact r4
    | 5, _ => exact r5
  · rw [List.getD_eq_getElem?_getD, List.getElem?_eq_none (by simpa using h)]; decide
/-- A part of a block stored; the world behind it is a letter. -/
theorem wpList_store_part {P : Program} {ops : Array Oper} {rest : List Oper} {o : Oper} {a : Act} {w : World} {Q : Exit → Act → World → Prop} (hgd : o.guard = none) (ty : TypeId) (x y : Operand) (ho : o.op = .store ty x y)
    {g : Nat} {c0 cs : Array Value} {T : TypeId} (hg : w.heap[g]? = some (.cells c0 T (0, 0))) (off : Nat) (hx : a.eval x = .pointer (some ⟨g, off, none⟩)) (hy : a.eval y = .agg cs) (hs : off + cs.size ≤ c0.size)
    (hi : (P.info? ty).map (·.size) = some cs.size) (h1 : cs.all (·.oneCell') = true) (h : ∀ W, W.heap[g]? = some (.cells (setAll c0 off cs.toList) T (0, 0)) → Mods [g] w W → wpList P ops Q rest (a.put o.dst undef) W) : wpList P ops Q (o :: rest) a w := by
  refine wpList_store_mid hgd ty x y ho g off cs hx hy ?_ hi h1 (h _ (heap_setCells _ _ _ _ hg) (Mods.setCells _ _ _))
  intro j hj
  refine ⟨?_, froz_blk hg _⟩
  rw [cell_blk hg, Array.getElem?_eq_getElem (by omega)]
  rfl
/-- A sensor under way, with its points. -/
structure SB (w0 w : World) (b : Nat) (v : Value) (L : List Int) (n : Nat) (gr gc : Nat) (S : Sen) (B : Nat) (P : List Pt) : Prop where
  bl : Bld w0 w b v L n 32 gr gc zS.cells S.cells
  own : OwnPts w B S.conv.pts P
  lt : gr < B ∧ gc < B ∧ b < B ∧ w0.heap.size ≤ B
section
variable {w0 w w' : World} {b n n' : Nat} {v : Value} {L : List Int} {gr gc B : Nat} {S S' : Sen} {P : List Pt}
theorem SB.dice (h : SB w0 w b v L n gr gc S B P) (D : IsDice w' b v L n') (M : Mods [b] w w') : SB w0 w' b v L n' gr gc S B P :=
  ⟨h.bl.dice D M, h.own.mods M (by have := h.lt; simp; omega), h.lt⟩
theorem SB.set (h : SB w0 w b v L n gr gc S B P) (i : Nat) (u : Value) (hS : S.cells.setIfInBounds i u = S'.cells) (hp : S'.conv.pts = S.conv.pts) : SB w0 (w.setCell ⟨gc, i, none⟩ u) b v L n gr gc S' B P :=
  ⟨hS ▸ h.bl.set i u, by rw [hp]; exact h.own.mods (S := [gc]) (Mods.refl.setCell (.inl (by simp)) u) (by have := h.lt; simp; omega), h.lt⟩
theorem SB.part (h : SB w0 w b v L n gr gc S B P) (G : w'.heap[gc]? = some (.cells S'.cells 32 (0, 0))) (M : Mods [gc] w w') (hp : S'.conv.pts = S.conv.pts) : SB w0 w' b v L n gr gc S' B P :=
  ⟨⟨h.bl.D.mods M (by have := h.bl.hb; have := h.bl.hc; simp; omega) (fun hl k hk hk2 => by have := h.bl.hv hl k hk; have := h.bl.hc; simp at hk2; omega), h.bl.M.comp M (fun k hk => by simp at hk; subst hk; exact .inr h.bl.hc), M.heap h.bl.R (by simpa using h.bl.ne), G, h.bl.hb, h.bl.hr, h.bl.hc, h.bl.ne, h.bl.hv⟩,
    by rw [hp]; exact h.own.mods M (by have := h.lt; simp; omega), h.lt⟩
end
theorem setAll_conv (S : Sen) (C : Conv) : setAll S.cells 7 C.cells.toList = ({ S with conv := C } : Sen).cells := by
  simp [setAll, Sen.cells, Conv.cells]
theorem setAll_ths (S : Sen) (m : Nat) (R : Nat → Nat) : setAll S.cells 14 (thsCells m R).toList = ({ S with mask := m, r0 := R 0, r1 := R 1, r2 := R 2, r3 := R 3, r4 := R 4, r5 := R 5 } : Sen).cells := by
  simp [setAll, Sen.cells, thsCells]
theorem set_hl (S : Sen) (x : Nat) : S.cells.setIfInBounds 21 (.int .u8 x) = ({ S with hl := x } : Sen).cells := rfl
theorem set_hu (S : Sen) (x : Nat) : S.cells.setIfInBounds 22 (.int .u8 x) = ({ S with hu := x } : Sen).cells := rfl
theorem set_asrt (S : Sen) (x : Nat) : S.cells.setIfInBounds 24 (.int .u16 x) = ({ S with asrt := x } : Sen).cells := rfl
theorem set_deas (S : Sen) (x : Nat) : S.cells.setIfInBounds 25 (.int .u16 x) = ({ S with deas := x } : Sen).cells := rfl
theorem set_samples (S : Sen) (x : Int) : S.cells.setIfInBounds 27 (.int .i64 x) = ({ S with samples := x } : Sen).cells := rfl
/-- What the dice have made of an analog sensor when only masks are left. -/
structure Ana (S : Sen) (P : List Pt) (num : Nat) : Prop where
  number : S.number = num
  type : S.type < 256
  unit : S.unit < 256
  name : nameB S.name = true
  nsz : S.name.size ≤ 16
  eid : S.eid < 256
  einst : S.einst < 256
  disc : S.disc = false
  cv : convB S.conv P = true
  mask : S.mask < 64
  rr : S.r0 < 256 ∧ S.r1 < 256 ∧ S.r2 < 256 ∧ S.r3 < 256 ∧ S.r4 < 256 ∧ S.r5 < 256
  zr : zeroRaw S = true
  od : ordB S.mask S.num = true
  st : S.states = 0
  smp : S.samples = 1 ∨ S.samples = 3 ∨ S.samples = 5
theorem Ana.valid {S : Sen} {P : List Pt} {num a d hl hu : Nat} (h : Ana S P num) (ha : a &&& (65535 - S.mask) = 0) (hd : d &&& (65535 - S.mask) = 0) : validB { S with hl := hl, hu := hu, asrt := a, deas := d } P = true := by
  have hz : zeroRaw { S with hl := hl, hu := hu, asrt := a, deas := d } = zeroRaw S := rfl
  have ho : ordB S.mask ({ S with hl := hl, hu := hu, asrt := a, deas := d } : Sen).num = ordB S.mask S.num := rfl
  show (nameB S.name && decide (S.samples = 1 ∨ S.samples = 3 ∨ S.samples = 5) && if S.disc then _ else analogB _ P) = true
  rw [h.name, decide_eq_true h.smp, h.disc]
  show analogB _ P = true
  show (convB S.conv P && decide (S.mask < 64) && decide (S.states = 0) && decide ((a ||| d) &&& (65535 - S.mask) = 0) && zeroRaw { S with hl := hl, hu := hu, asrt := a, deas := d } && ordB S.mask ({ S with hl := hl, hu := hu, asrt := a, deas := d } : Sen).num) = true
  rw [hz, ho, h.cv, decide_eq_true h.mask, decide_eq_true h.st, decide_eq_true (or_mask ha hd), h.zr, h.od]
  rfl
theorem Ana.isSen {w : World} {S : Sen} {P : List Pt} {num a d hl hu : Nat} (h : Ana S P num) (hc : IsConv w S.conv P) (hn : num < 256) (h1 : hl < 256) (h2 : hu < 256) (ha : a < 65536) (hd : d < 65536) : IsSen w { S with hl := hl, hu := hu, asrt := a, deas := d } P :=
  IsSen.made hc ⟨by show S.number < 256; rw [h.number]; exact hn, h.type, h.unit, by have := h.nsz; show S.name.size ≤ 1000; omega, h.eid, h.einst, by have := h.mask; show S.mask < 256; omega, h1, h2, by show S.states < 65536; rw [h.st]; decide, ha, hd⟩ h.rr (by show I64 S.samples; have := h.smp; constructor <;> omega)
theorem zeroRaw_made {S : Sen} {m : Nat} {R : Nat → Nat} (h : ∀ i, i < 6 → m.testBit i = false → R i = 0) : zeroRaw { S with mask := m, r0 := R 0, r1 := R 1, r2 := R 2, r3 := R 3, r4 := R 4, r5 := R 5 } = true := by
  unfold zeroRaw
  rw [List.all_eq_true]
  intro i hi
  have hi := List.mem_range.1 hi
  show (m.testBit i || decide (_ = 0)) = true
  cases hb : m.testBit i with
  | true => rfl
  | false =>
    have := h i hi hb
    rw [Bool.false_or, decide_eq_true_eq]
    match i, hi with
    | 0, _ | 1, _ | 2, _ | 3, _ | 4, _ | 5, _ => exact this
theorem ord_made {S : Sen} {m : Nat} {R : Nat → Nat} {sgn : Bool} (hs : S.conv.sgn = sgn) (h : ordB m (fun i => numI sgn (R i)) = true) : ordB m ({ S with mask := m, r0 := R 0, r1 := R 1, r2 := R 2, r3 := R 3, r4 := R 4, r5 := R 5 } : Sen).num = true := by
  rw [← h]
  have e : ∀ i, i < 6 → ({ S with mask := m, r0 := R 0, r1 := R 1, r2 := R 2, r3 := R 3, r4 := R 4, r5 := R 5 } : Sen).num i = numI sgn (R i) := by
    intro i hi
    subst hs
    match i, hi with
    | 0, _ | 1, _ | 2, _ | 3, _ | 4, _ | 5, _ => rfl
  unfold ordB
  rw [Bool.eq_iff_iff]
  simp only [List.all_eq_true, List.mem_range]
  refine forall_congr' fun i => forall_congr' fun hi => ?_
  rw [Bool.eq_iff_iff.1 ?_]
  have e1 : ((List.range i).all fun k => !m.testBit k || pairB ({ S with mask := m, r0 := R 0, r1 := R 1, r2 := R 2, r3 := R 3, r4 := R 4, r5 := R 5 } : Sen).num k i) = ((List.range i).all fun k => !m.testBit k || pairB (fun i => numI sgn (R i)) k i) := by
    rw [Bool.eq_iff_iff]
    simp only [List.all_eq_true, List.mem_range]
    refine forall_congr' fun k => forall_congr' fun hk => ?_
    unfold pairB
    rw [e i hi, e k (by omega)]
  rw [e1]
theorem Bld.part {w0 w w' : World} {b n : Nat} {v : Value} {L : List Int} {T : TypeId} {gr gc : Nat} {cr cc cc' : Array Value} (h : Bld w0 w b v L n T gr gc cr cc) (G : w'.heap[gc]? = some (.cells cc' T (0, 0))) (M : Mods [gc] w w') : Bld w0 w' b v L n T gr gc cr cc' :=
  ⟨h.D.mods M (by have := h.hb; have := h.hc; simp; omega) (fun hl k hk hk2 => by have := h.hv hl k hk; have := h.hc; simp at hk2; omega), h.M.comp M (fun k hk => by simp at hk; subst hk; exact .inr h.hc), M.heap h.R (by simpa using h.ne), G, h.hb, h.hr, h.hc, h.ne, h.hv⟩
end Go.Proofs.Ytijjkonephjodaa
