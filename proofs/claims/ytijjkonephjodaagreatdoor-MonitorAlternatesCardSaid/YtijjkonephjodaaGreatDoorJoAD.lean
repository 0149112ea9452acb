/- Joined texts. Facts of the sensors that the dice make: plain. | The dice's Sensor: contract. | The dice's Analog, near and Near: contracts. | Severity, both: contracts. | threshold.beyond and threshold.next: contracts. | Changes of states: lists of them in memory, and those that lead from one state to another. | threshold.Step and threshold.Reached: contracts. | A sensor of the dice that lies in its variable's block. -/
import Derived.Test.YtijjkonephjodaaGreatDoorJoAC
namespace Go.Proofs.YtijjkonephjodaaGreatDoor
open Go.RowKit

theorem and_sub (a : Nat) (h : a < 65536) : a &&& (65535 - a) = 0 := by
  refine Nat.eq_of_testBit_eq fun i => ?_
  rw [Nat.testBit_and, Nat.zero_testBit, show 65535 - a = 2 ^ 16 - (a + 1) by omega, Nat.testBit_two_pow_sub_succ (by omega)]
  cases a.testBit i <;> simp
theorem sub_mask (a x : Nat) (h : a < 65536) : (a &&& x) &&& (65535 - a) = 0 := by
  rw [Nat.and_comm a x, Nat.and_assoc, and_sub a h, Nat.and_zero]
theorem or_mask {a x y : Nat} (hx : x &&& (65535 - a) = 0) (hy : y &&& (65535 - a) = 0) : (x ||| y) &&& (65535 - a) = 0 := (or_and_zero _ _ _).2 ⟨hx, hy⟩
def zC : Conv := ⟨0, false, 0, 0, 0, 0, .slice none 0 0⟩
def zS : Sen := ⟨0, 0, 0, ⟨#[]⟩, 0, 0, false, zC, 0, 0, 0, 0, 0, 0, 0, 0, 0, 0, 0, 0, false, 0⟩
theorem Sen.one (S : Sen) (h : S.conv.pts.oneCell' = true) : S.cells.all (·.oneCell') = true := by
  simp [Sen.cells, h]
  simp [Value.oneCell']
theorem Conv.one (C : Conv) (h : C.pts.oneCell' = true) : C.cells.all (·.oneCell') = true := by
  simp [Conv.cells, h]
  simp [Value.oneCell']
theorem RdPts.one {w : World} {v : Value} {P : List Pt} (h : RdPts w v P) : v.oneCell' = true := by
  obtain ⟨ad, cap, rfl⟩ := h.len
  rfl
def alphaS : ByteArray := ⟨#[67, 80, 85, 32, 84, 101, 109, 112, 46, 48, 49, 57]⟩
theorem alphaS_char : ∀ c ∈ alphaS.data.toList, charB c = true := by decide
theorem name_made {s : ByteArray} {m : Nat} (h1 : s.size = m) (h2 : 1 ≤ m) (h3 : m ≤ 16) (h : ∀ c ∈ s.data.toList, c ∈ alphaS.data.toList) : nameB s = true := by
  unfold nameB
  rw [decide_eq_true (by omega), Bool.true_and, List.all_eq_true]
  exact fun c hc => alphaS_char c (h c hc)
/-- A sensor of the dice. -/
def MadeSen (w : World) (b : Nat) (v : Value) (L : List Int) (num : Nat) (e : Ending) (w' : World) : Prop :=
  ∃ (S : Sen) (P : List Pt) (n : Nat), e = .returned (.agg S.cells) ∧ IsSen w' S P ∧ validB S P = true ∧ OwnPts w' w.heap.size S.conv.pts P ∧ P.length ≤ 12 ∧ S.number = num ∧ IsDice w' b v L n ∧ Mods [b] w w'
theorem IsSen.made {w : World} {S : Sen} {P : List Pt} (hc : IsConv w S.conv P) (h : S.number < 256 ∧ S.type < 256 ∧ S.unit < 256 ∧ S.name.size ≤ 1000 ∧ S.eid < 256 ∧ S.einst < 256 ∧ S.mask < 256 ∧ S.hl < 256 ∧ S.hu < 256 ∧ S.states < 65536 ∧ S.asrt < 65536 ∧ S.deas < 65536) (hr : S.r0 < 256 ∧ S.r1 < 256 ∧ S.r2 < 256 ∧ S.r3 < 256 ∧ S.r4 < 256 ∧ S.r5 < 256) (hs : I64 S.samples) : IsSen w S P := by
  obtain ⟨h1, h2, h3, h4, h5, h6, h7, h8, h9, h10, h11, h12⟩ := h
  refine ⟨hc, h1, h2, h3, h4, h5, h6, h7, fun i => ?_, h8, h9, h10, h11, h12, hs⟩
  obtain ⟨r0, r1, r2, r3, r4, r5⟩ := hr
  unfold Sen.raw
  rcases Nat.lt_or_ge i 6 with h | h
  · match i, h with
    | 0, _ => exact r0
    | 1, _ => exact r1
    | 2, _ => exact r2
    | 3, _ => exact r3
    | 4, _ => exact r4
    | 5, _ => exact r5
  · rw [List.getD_eq_getElem?_getD, List.getElem?_eq_none (by simpa using h)]; decide
/-- A part of a block stored; the world behind it is a letter. -/
theorem wpList_store_part {P : Program} {ops : Array Oper} {rest : List Oper} {o : Oper} {a : Act} {w : World} {Q : Exit → Act → World → Prop} (hgd : o.guard = none) (ty : TypeId) (x y : Operand) (ho : o.op = .store ty x y)
    {g : Nat} {c0 cs : Array Value} {T : TypeId} (hg : w.heap[g]? = some (.cells c0 T (0, 0))) (off : Nat) (hx : a.eval x = .pointer (some ⟨g, off, none⟩)) (hy : a.eval y = .agg cs) (hs : off + cs.size ≤ c0.size)
    (hi : (P.info? ty).map (·.size) = some cs.size) (h1 : cs.all (·.oneCell') = true) (h : ∀ W, W.heap[g]? = some (.cells (setAll c0 off cs.toList) T (0, 0)) → Mods [g] w W → wpList P ops Q rest (a.put o.dst undef) W) : wpList P ops Q (o :: rest) a w := by
  refine wpList_store_mid hgd ty x y ho g off cs hx hy ?_ hi h1 (h _ (heap_setCells _ _ _ _ hg) (Mods.setCells _ _ _))
  intro j hj
  refine ⟨?_, froz_blk hg _⟩
  rw [cell_blk hg, Array.getElem?_eq_getElem (by omega)]
  rfl
/-- A sensor under way, with its points. -/
structure SB (w0 w : World) (b : Nat) (v : Value) (L : List Int) (n : Nat) (gr gc : Nat) (S : Sen) (B : Nat) (P : List Pt) : Prop where
  bl : Bld w0 w b v L n 40 gr gc zS.cells S.cells
  own : OwnPts w B S.conv.pts P
  lt : gr < B ∧ gc < B ∧ b < B ∧ w0.heap.size ≤ B
section
variable {w0 w w' : World} {b n n' : Nat} {v : Value} {L : List Int} {gr gc B : Nat} {S S' : Sen} {P : List Pt}
theorem SB.dice (h : SB w0 w b v L n gr gc S B P) (D : IsDice w' b v L n') (M : Mods [b] w w') : SB w0 w' b v L n' gr gc S B P :=
  ⟨h.bl.dice D M, h.own.mods M (by have := h.lt; simp; omega), h.lt⟩
theorem SB.set (h : SB w0 w b v L n gr gc S B P) (i : Nat) (u : Value) (hS : S.cells.setIfInBounds i u = S'.cells) (hp : S'.conv.pts = S.conv.pts) : SB w0 (w.setCell ⟨gc, i, none⟩ u) b v L n gr gc S' B P :=
  ⟨hS ▸ h.bl.set i u, by rw [hp]; exact h.own.mods (S := [gc]) (Mods.refl.setCell (.inl (by simp)) u) (by have := h.lt; simp; omega), h.lt⟩
theorem SB.part (h : SB w0 w b v L n gr gc S B P) (G : w'.heap[gc]? = some (.cells S'.cells 40 (0, 0))) (M : Mods [gc] w w') (hp : S'.conv.pts = S.conv.pts) : SB w0 w' b v L n gr gc S' B P :=
  ⟨⟨h.bl.D.mods M (by have := h.bl.hb; have := h.bl.hc; simp; omega) (fun hl k hk hk2 => by have := h.bl.hv hl k hk; have := h.bl.hc; simp at hk2; omega), h.bl.M.comp M (fun k hk => by simp at hk; subst hk; exact .inr h.bl.hc), M.heap h.bl.R (by simpa using h.bl.ne), G, h.bl.hb, h.bl.hr, h.bl.hc, h.bl.ne, h.bl.hv⟩,
    by rw [hp]; exact h.own.mods M (by have := h.lt; simp; omega), h.lt⟩
end
theorem setAll_conv (S : Sen) (C : Conv) : setAll S.cells 7 C.cells.toList = ({ S with conv := C } : Sen).cells := by
  simp [setAll, Sen.cells, Conv.cells]
theorem setAll_ths (S : Sen) (m : Nat) (R : Nat → Nat) : setAll S.cells 14 (thsCells m R).toList = ({ S with mask := m, r0 := R 0, r1 := R 1, r2 := R 2, r3 := R 3, r4 := R 4, r5 := R 5 } : Sen).cells := by
  simp [setAll, Sen.cells, thsCells]
theorem set_hl (S : Sen) (x : Nat) : S.cells.setIfInBounds 21 (.int .u8 x) = ({ S with hl := x } : Sen).cells := rfl
theorem set_hu (S : Sen) (x : Nat) : S.cells.setIfInBounds 22 (.int .u8 x) = ({ S with hu := x } : Sen).cells := rfl
theorem set_asrt (S : Sen) (x : Nat) : S.cells.setIfInBounds 24 (.int .u16 x) = ({ S with asrt := x } : Sen).cells := rfl
theorem set_deas (S : Sen) (x : Nat) : S.cells.setIfInBounds 25 (.int .u16 x) = ({ S with deas := x } : Sen).cells := rfl
theorem set_samples (S : Sen) (x : Int) : S.cells.setIfInBounds 27 (.int .i64 x) = ({ S with samples := x } : Sen).cells := rfl
/-- What the dice have made of an analog sensor when only masks are left. -/
structure Ana (S : Sen) (P : List Pt) (num : Nat) : Prop where
  number : S.number = num
  type : S.type < 256
  unit : S.unit < 256
  name : nameB S.name = true
  nsz : S.name.size ≤ 16
  eid : S.eid < 256
  einst : S.einst < 256
  disc : S.disc = false
  cv : convB S.conv P = true
  mask : S.mask < 64
  rr : S.r0 < 256 ∧ S.r1 < 256 ∧ S.r2 < 256 ∧ S.r3 < 256 ∧ S.r4 < 256 ∧ S.r5 < 256
  zr : zeroRaw S = true
  od : ordB S.mask S.num = true
  st : S.states = 0
  smp : S.samples = 1 ∨ S.samples = 3 ∨ S.samples = 5
theorem Ana.valid {S : Sen} {P : List Pt} {num a d hl hu : Nat} (h : Ana S P num) (ha : a &&& (65535 - S.mask) = 0) (hd : d &&& (65535 - S.mask) = 0) : validB { S with hl := hl, hu := hu, asrt := a, deas := d } P = true := by
  have hz : zeroRaw { S with hl := hl, hu := hu, asrt := a, deas := d } = zeroRaw S := rfl
  have ho : ordB S.mask ({ S with hl := hl, hu := hu, asrt := a, deas := d } : Sen).num = ordB S.mask S.num := rfl
  show (nameB S.name && decide (S.samples = 1 ∨ S.samples = 3 ∨ S.samples = 5) && if S.disc then _ else analogB _ P) = true
  rw [h.name, decide_eq_true h.smp, h.disc]
  show analogB _ P = true
  show (convB S.conv P && decide (S.mask < 64) && decide (S.states = 0) && decide ((a ||| d) &&& (65535 - S.mask) = 0) && zeroRaw { S with hl := hl, hu := hu, asrt := a, deas := d } && ordB S.mask ({ S with hl := hl, hu := hu, asrt := a, deas := d } : Sen).num) = true
  rw [hz, ho, h.cv, decide_eq_true h.mask, decide_eq_true h.st, decide_eq_true (or_mask ha hd), h.zr, h.od]
  rfl
theorem Ana.isSen {w : World} {S : Sen} {P : List Pt} {num a d hl hu : Nat} (h : Ana S P num) (hc : IsConv w S.conv P) (hn : num < 256) (h1 : hl < 256) (h2 : hu < 256) (ha : a < 65536) (hd : d < 65536) : IsSen w { S with hl := hl, hu := hu, asrt := a, deas := d } P :=
  IsSen.made hc ⟨by show S.number < 256; rw [h.number]; exact hn, h.type, h.unit, by have := h.nsz; show S.name.size ≤ 1000; omega, h.eid, h.einst, by have := h.mask; show S.mask < 256; omega, h1, h2, by show S.states < 65536; rw [h.st]; decide, ha, hd⟩ h.rr (by show I64 S.samples; have := h.smp; constructor <;> omega)
theorem zeroRaw_made {S : Sen} {m : Nat} {R : Nat → Nat} (h : ∀ i, i < 6 → m.testBit i = false → R i = 0) : zeroRaw { S with mask := m, r0 := R 0, r1 := R 1, r2 := R 2, r3 := R 3, r4 := R 4, r5 := R 5 } = true := by
  unfold zeroRaw
  rw [List.all_eq_true]
  intro i hi
  have hi := List.mem_range.1 hi
  show (m.testBit i || decide (_ = 0)) = true
  cases hb : m.testBit i with
  | true => rfl
  | false =>
    have := h i hi hb
    rw [Bool.false_or, decide_eq_true_eq]
    match i, hi with
    | 0, _ | 1, _ | 2, _ | 3, _ | 4, _ | 5, _ => exact this
theorem ord_made {S : Sen} {m : Nat} {R : Nat → Nat} {sgn : Bool} (hs : S.conv.sgn = sgn) (h : ordB m (fun i => numI sgn (R i)) = true) : ordB m ({ S with mask := m, r0 := R 0, r1 := R 1, r2 := R 2, r3 := R 3, r4 := R 4, r5 := R 5 } : Sen).num = true := by
  rw [← h]
  have e : ∀ i, i < 6 → ({ S with mask := m, r0 := R 0, r1 := R 1, r2 := R 2, r3 := R 3, r4 := R 4, r5 := R 5 } : Sen).num i = numI sgn (R i) := by
    intro i hi
    subst hs
    match i, hi with
    | 0, _ | 1, _ | 2, _ | 3, _ | 4, _ | 5, _ => rfl
  unfold ordB
  rw [Bool.eq_iff_iff]
  simp only [List.all_eq_true, List.mem_range]
  refine forall_congr' fun i => forall_congr' fun hi => ?_
  rw [Bool.eq_iff_iff.1 ?_]
  have e1 : ((List.range i).all fun k => !m.testBit k || pairB ({ S with mask := m, r0 := R 0, r1 := R 1, r2 := R 2, r3 := R 3, r4 := R 4, r5 := R 5 } : Sen).num k i) = ((List.range i).all fun k => !m.testBit k || pairB (fun i => numI sgn (R i)) k i) := by
    rw [Bool.eq_iff_iff]
    simp only [List.all_eq_true, List.mem_range]
    refine forall_congr' fun k => forall_congr' fun hk => ?_
    unfold pairB
    rw [e i hi, e k (by omega)]
  rw [e1]
theorem Bld.part {w0 w w' : World} {b n : Nat} {v : Value} {L : List Int} {T : TypeId} {gr gc : Nat} {cr cc cc' : Array Value} (h : Bld w0 w b v L n T gr gc cr cc) (G : w'.heap[gc]? = some (.cells cc' T (0, 0))) (M : Mods [gc] w w') : Bld w0 w' b v L n T gr gc cr cc' :=
  ⟨h.D.mods M (by have := h.hb; have := h.hc; simp; omega) (fun hl k hk hk2 => by have := h.hv hl k hk; have := h.hc; simp at hk2; omega), h.M.comp M (fun k hk => by simp at hk; subst hk; exact .inr h.hc), M.heap h.R (by simpa using h.ne), G, h.hb, h.hr, h.hc, h.ne, h.hv⟩
end Go.Proofs.YtijjkonephjodaaGreatDoor

namespace Go.Proofs.YtijjkonephjodaaGreatDoor
open Go.RowKit

/-- The head of a sensor made: what the first calls give. -/
def headS (num typ uni : Nat) (nm : ByteArray) (ei en : Nat) (host : Bool) : Sen := ⟨num, typ, uni, nm, ei, en, false, zC, 0, 0, 0, 0, 0, 0, 0, 0, 0, 0, 0, 0, host, 1⟩
theorem mul_small {a b st : Nat} (ha : a < 4) (hb : b < 300) (hst : st < 65536) : ∃ q : Nat, q < 65536 ∧ IntKind.i64.wrap ((a : Int) * (b : Int)) = (q : Int) ∧ wrap64 ((a : Int) * (b : Int)) = (q : Int) ∧ IntKind.u16.wrap (q : Int) = (q : Int) ∧ bits .andNot .u16 (st : Int) (q : Int) = ((st &&& (65535 - q) : Nat) : Int) := by
  have h : a * b ≤ 3 * 299 := Nat.mul_le_mul (by omega) (by omega)
  have e : (a : Int) * (b : Int) = ((a * b : Nat) : Int) := by simp
  refine ⟨a * b, by omega, ?_, ?_, ?_, u16_andNot_nat _ _ hst (by omega)⟩
  · rw [e]; exact IntWalk.i64_in _ (by omega)
  · rw [e]; exact IntWalk.wrap64_in _ (by omega)
  · rw [IntKind.wrap_u16]; omega
theorem Tryz.infoT : (Tryz.prog.info? 37).map (·.size) = some 7 := by kernel_rfl
theorem thsCells_one (m : Nat) (R : Nat → Nat) : (thsCells m R).all (·.oneCell') = true := by
  simp [thsCells, Value.oneCell']
theorem headS_cells (num typ uni : Nat) (nm : ByteArray) (ei en : Nat) (host : Bool) :
    (#[.int .u8 num, .int .u8 (1 + (typ : Int)), .int .u8 uni, .string nm, .int .u8 ei, .int .u8 en, .bool false, .int .i64 0, .bool false, .int .i64 0, .int .i64 0, .int .i64 0, .int .i64 0, .slice none 0 0,
      .int .u8 0, .int .u8 0, .int .u8 0, .int .u8 0, .int .u8 0, .int .u8 0, .int .u8 0, .int .u8 0, .int .u8 0, .int .u16 0, .int .u16 0, .int .u16 0, .bool host, .int .i64 1] : Array Value) = (headS num (1 + typ) uni nm ei en host).cells := by
  simp [Sen.cells, headS, zC]
set_option maxRecDepth 100000 in
set_option maxHeartbeats 8000000 in
theorem sensor_ok (w : World) (b : Nat) (v : Value) (L : List Int) (n : Nat) (h : IsDice w b v L n) (num : Nat) (hnum : num < 256) :
    Calls Tryz.prog 59 #[.pointer (some ⟨b, 0, none⟩), .int .u8 num] w fun e w' => MadeSen w b v L num e w' := by
  have hbl := h.lt
  have H := Lib.hid h
  have hv := Lib.hid h.vlt
  clear h
  go_enter Tryz.func59, Tryz.ntmps59
  go_wp2_with fail
  change Calls _ _ _ (w.alloc (.cells zS.cells 40)) _
  have M1 := (Mods.refl (S := []) (w := w)).alloc (.cells zS.cells 40)
  have R1 := heap_alloc_new w (.cells zS.cells 40)
  have Z1 : (w.alloc (.cells zS.cells 40)).heap.size = w.heap.size + 1 := by simp
  generalize w.alloc (.cells zS.cells 40) = w1 at M1 R1 Z1 ⊢
  generalize hgr : w.heap.size = gr at R1 Z1 hbl ⊢
  have HGR := Lib.hid hgr
  clear hgr
  have D1 := H.out.mods0 M1
  have MM := Lib.hid (M1.nil (S := [b]))
  have RR := Lib.hid R1
  clear M1 R1
  refine (next_ok w1 b v L _ D1 4 (by omega) (by omega)).mono ?_
  rintro e w2 ⟨typ, n2, rfl, ty0, ty1, D2, M2⟩
  have MM := Lib.hid (MM.out.trans M2)
  have RR := Lib.hid (M2.heap RR.out (by simp; omega))
  have z2 := M2.size
  clear M2
  obtain ⟨typ', rfl⟩ := Int.eq_ofNat_of_zero_le ty0
  go_wp2_with fail
  refine (byte_ok w2 b v L _ D2).mono ?_
  rintro e w3 ⟨uni, n3, rfl, un0, un1, D3, M3⟩
  have MM := Lib.hid (MM.out.trans M3)
  have RR := Lib.hid (M3.heap RR.out (by simp; omega))
  have z3 := M3.size
  clear M3 D1 D2
  obtain ⟨uni', rfl⟩ := Int.eq_ofNat_of_zero_le un0
  go_wp2_with fail
  refine (next_ok w3 b v L _ D3 16 (by omega) (by omega)).mono ?_
  rintro e w4 ⟨nl, n4, rfl, nl0, nl1, D4, M4⟩
  have MM := Lib.hid (MM.out.trans M4)
  have RR := Lib.hid (M4.heap RR.out (by simp; omega))
  have z4 := M4.size
  clear M4
  obtain ⟨nl', rfl⟩ := Int.eq_ofNat_of_zero_le nl0
  go_wp2_with fail
  rw [show (1 + (nl' : Int)) = ((1 + nl' : Nat) : Int) by omega]
  refine (text_ok w4 b v L _ D4 alphaS (by decide) (by decide) (1 + nl') (by omega)).mono ?_
  rintro e w5 ⟨nm, n5, rfl, nm0, nm1, D5, M5⟩
  have HNM := Lib.hid (name_made nm0 (by omega) (by omega) nm1)
  have hnm : nm.size ≤ 16 := by omega
  have MM := Lib.hid (MM.out.trans M5)
  have RR := Lib.hid (M5.heap RR.out (by simp; omega))
  have z5 := M5.size
  clear M5 D3 D4 nm0 nm1
  go_wp2_with fail
  refine (entity_ok w5 b v L _ D5).mono ?_
  rintro e w6 ⟨ei, en, n6, rfl, ei1, en1, D6, M6⟩
  have MM := Lib.hid (MM.out.trans M6)
  have RR := Lib.hid (M6.heap RR.out (by simp; omega))
  have z6 := M6.size
  clear M6 D5
  go_wp2_with fail
  refine (bool_ok w6 b v L _ D6 4 (by omega) (by omega)).mono ?_
  rintro e w7 ⟨host, n7, rfl, D7, M7⟩
  have MM := Lib.hid (MM.out.trans M7)
  have RR := Lib.hid (M7.heap RR.out (by simp; omega))
  have z7 := M7.size
  clear M7 D6
  have H28 := Lib.hid (headS_cells num typ' uni' nm ei en host)
  go_wp2_with (refine wpList_store_row (cs := (headS num (1 + typ') uni' nm ei en host).cells) rfl 40 (.tmp 5) (.tmp 23) rfl (heap_alloc_new w7 _) (by rfl) (by exact congrArg Value.agg H28.out) (by rfl) (Sen.infoS _) (Sen.one _ rfl) ?_; intro w8 R8 M8)
  have zgc : gr < w7.heap.size := by omega
  have zgw : w.heap.size ≤ w7.heap.size := by have := HGR.out; omega
  have HB : Hid (Bld w w8 b v L n7 40 gr w7.heap.size zS.cells (headS num (1 + typ') uni' nm ei en host).cells) :=
    Lib.hid ⟨(D7.mods0 (Mods.refl.alloc _)).mods M8 (by have := D7.lt; simp; omega) (fun hl k hk hk2 => by have := hv.out hl k hk; simp at hk2; omega), (MM.out.trans (Mods.nil (Mods.refl.alloc _))).comp M8 (fun k hk => by simp at hk; subst hk; exact .inr zgw), M8.heap (heap_alloc RR.out) (by simp; omega), R8, by have := HGR.out; omega, by have := HGR.out; omega, zgw, by omega, hv.out⟩
  clear M8 R8 MM RR D7 z2 z3 z4 z5 z6 z7 Z1
  generalize w7.heap.size = gc at HB zgc zgw ⊢
  obtain ⟨typ, htyp⟩ : ∃ typ, typ = 1 + typ' := ⟨_, rfl⟩
  have ht4 : typ < 256 := by omega
  rw [← htyp] at HB
  clear htyp
  refine (bool_ok w8 b v L _ HB.out.D 3 (by omega) (by omega)).mono ?_
  rintro e w9 ⟨isd, n9, rfl, D9, M9⟩
  have HB := Lib.hid (HB.out.dice D9 M9)
  clear D9 M9
  cases isd with
  | true =>
    have c6 : w9.cell? ⟨gc, 6, none⟩ = some (.bool false) := HB.out.c 6
    have f6 := HB.out.f
    go_wp2_with fail
    have HB : Hid (Bld w (w9.setCell ⟨gc, 6, none⟩ (.bool true)) b v L n9 40 gr gc zS.cells ({ headS num typ uni' nm ei en host with disc := true } : Sen).cells) := Lib.hid (HB.out.set 6 (.bool true))
    clear c6 f6
    generalize w9.setCell ⟨gc, 6, none⟩ (.bool true) = w10 at HB ⊢
    refine (next_ok w10 b v L _ HB.out.D 32768 (by omega) (by omega)).mono ?_
    rintro e w11 ⟨sti, n11, rfl, st0, st1, D11, M11⟩
    have HB := Lib.hid (HB.out.dice D11 M11)
    clear D11 M11
    obtain ⟨st, rfl⟩ := Int.eq_ofNat_of_zero_le st0
    have hst : st < 32768 := by omega
    have c23 : w11.cell? ⟨gc, 23, none⟩ = some (.int .u16 0) := HB.out.c 23
    have f6 := HB.out.f
    go_wp2_with fail
    have HB : Hid (Bld w (w11.setCell ⟨gc, 23, none⟩ (.int .u16 st)) b v L n11 40 gr gc zS.cells ({ headS num typ uni' nm ei en host with disc := true, states := st } : Sen).cells) := Lib.hid (HB.out.set 23 (.int .u16 st))
    clear c23 f6
    generalize w11.setCell ⟨gc, 23, none⟩ (.int .u16 st) = w12 at HB ⊢
    have c23 : w12.cell? ⟨gc, 23, none⟩ = some (.int .u16 st) := HB.out.c 23
    have c24 : w12.cell? ⟨gc, 24, none⟩ = some (.int .u16 0) := HB.out.c 24
    have f24 : w12.frozen? ⟨gc, 24, none⟩ = false := HB.out.f 24
    have DD := Lib.hid ((HB.out.mods0 (Mods.refl.drewN 1)).D)
    have NX := Lib.hid (fun W (D : IsDice W b v L n11) => next_ok W b v L n11 D 4 (by omega) (by omega))
    go_region_held3 (fun w' => w'.cell? ⟨gc, 23, none⟩ = some (.int .u16 st))
      (first | go_keep | exact M13.cell (by assumption) (by have := DD.out.lt; have := HB.out.hb; have := HB.out.hc; simp; omega) | exact (HB13.out.set 24 _).c 23)
      (first
        | (go_at_call 24; refine (NX.out _ DD.out).mono ?_; rintro e w13 ⟨ri', n13, rfl, ri0, ri1, D13, M13⟩; obtain ⟨ri, rfl⟩ := Int.eq_ofNat_of_zero_le ri0; have hri : ri < 4 := (by omega); have hw13 := wrap16 (m := ri) (by omega); have ha13 : bits .andNot .u16 (st : Int) (ri : Int) = ((st &&& (65535 - ri) : Nat) : Int) := u16_andNot_nat _ _ (by omega) (by omega); have HB13 := Lib.hid ((HB.out.mods0 (Mods.refl.drewN 1)).dice D13 M13); have c24 : w13.cell? ⟨gc, 24, none⟩ = some (.int .u16 0) := HB13.out.c 24; have f24 : w13.frozen? ⟨gc, 24, none⟩ = false := HB13.out.f 24))
    rename_i hHeld
    have HB : Hid (Bld w (w13.setCell ⟨gc, 24, none⟩ (.int .u16 ((st &&& (65535 - ri) : Nat) : Int))) b v L n13 40 gr gc zS.cells ({ headS num typ uni' nm ei en host with disc := true, states := st, asrt := st &&& (65535 - ri) } : Sen).cells) := Lib.hid (HB13.out.set 24 _)
    clear hHeld c23 c24 f24 NX DD HB13 hw13 ha13 D13 M13
    generalize w13.setCell ⟨gc, 24, none⟩ (.int .u16 ((st &&& (65535 - ri) : Nat) : Int)) = w14 at HB ⊢
    have c23 : w14.cell? ⟨gc, 23, none⟩ = some (.int .u16 st) := HB.out.c 23
    have NX := Lib.hid (fun W n (D : IsDice W b v L n) => next_ok W b v L n D 4 (by omega) (by omega))
    have NY := Lib.hid (fun W n (D : IsDice W b v L n) => next_ok W b v L n D 300 (by omega) (by omega))
    have DD := Lib.hid ((HB.out.mods0 (Mods.refl.drewN 1)).D)
    go_wp2_with fail
    go_region_held3 (fun w' => w'.cell? ⟨gc, 23, none⟩ = some (.int .u16 st))
      (first | go_keep | exact M15.cell (by assumption) (by have := HB.out.hb; have := HB.out.hc; simp; omega) | exact M16.cell (by assumption) (by have := HB.out.hb; have := HB.out.hc; simp; omega) | exact (HB16.out.set 25 _).c 23)
      (first
        | (go_at_call_of 24 (Value.int IntKind.i64 4); refine (NX.out _ _ DD.out).mono ?_; rintro e w15 ⟨rj', n15, rfl, rj0, rj1, D15, M15⟩; obtain ⟨rj, rfl⟩ := Int.eq_ofNat_of_zero_le rj0)
        | (go_at_call_of 24 (Value.int IntKind.i64 300); refine (NY.out _ _ D15).mono ?_; rintro e w16 ⟨rk', n16, rfl, rk0, rk1, D16, M16⟩; obtain ⟨rk, rfl⟩ := Int.eq_ofNat_of_zero_le rk0; obtain ⟨q, hq1, hq2, hq3, hq4, hq5⟩ := mul_small (show rj < 4 by omega) (show rk < 300 by omega) (show st < 65536 by omega); have HB16 := Lib.hid (((HB.out.mods0 (Mods.refl.drewN 1)).dice D15 M15).dice D16 M16); have c25 : w16.cell? ⟨gc, 25, none⟩ = some (.int .u16 0) := HB16.out.c 25; have f25 : w16.frozen? ⟨gc, 25, none⟩ = false := HB16.out.f 25))
    rename_i hHeld
    have HB : Hid (Bld w (w16.setCell ⟨gc, 25, none⟩ (.int .u16 ((st &&& (65535 - q) : Nat) : Int))) b v L n16 40 gr gc zS.cells ({ headS num typ uni' nm ei en host with disc := true, states := st, asrt := st &&& (65535 - ri), deas := st &&& (65535 - q) } : Sen).cells) := Lib.hid (HB16.out.set 25 _)
    clear hHeld c23 c25 f25 NX NY DD HB16 hq2 hq3 hq4 hq5 D15 M15 D16 M16
    generalize w16.setCell ⟨gc, 25, none⟩ (.int .u16 ((st &&& (65535 - q) : Nat) : Int)) = w17 at HB ⊢
    have HSB := Lib.hid (show SenBox w17 gc ({ headS num typ uni' nm ei en host with disc := true, states := st, asrt := st &&& (65535 - ri), deas := st &&& (65535 - q) } : Sen) from ⟨HB.out.G⟩)
    go_wp2_with (first
      | (refine wpList_load_sen rfl (.tmp 5) rfl HSB.out (by rfl) ?_)
      | (refine wpList_store_row (cs := ({ headS num typ uni' nm ei en host with disc := true, states := st, asrt := st &&& (65535 - ri), deas := st &&& (65535 - q) } : Sen).cells) rfl 40 (.tmp 4) (.tmp 48) rfl HB.out.R (by rfl) (by rfl) (by rfl) (Sen.infoS _) (Sen.one _ rfl) ?_; intro w19 R19 M19))
    have HB := Lib.hid (HB.out.fin R19 M19)
    clear R19 M19
    refine bodyPost_ret (results_cell_row rfl _ _ gr _ _ _ _ rfl HB.out.R Tryz.underlying40 rfl (Sen.infoS _)) rfl ?_
    refine ⟨{ headS num typ uni' nm ei en host with disc := true, states := st, asrt := st &&& (65535 - ri), deas := st &&& (65535 - q) }, [], n16, rfl, IsSen.made ⟨RdPts.nil _, PtsOk.nil, ?_, ?_, ?_, ?_, ?_⟩ ⟨hnum, ht4, ?_, ?_, ei1, en1, ?_, ?_, ?_, ?_, ?_, ?_⟩ ?_ ?_, ?_, OwnPts.nil _ _, by simp, rfl, HB.out.D, HB.out.M⟩
    · exact i64_small (x := 0) ⟨by omega, by omega⟩
    · exact i64_small (x := 0) ⟨by omega, by omega⟩
    · exact i64_small (x := 0) ⟨by omega, by omega⟩
    · exact i64_small (x := 0) ⟨by omega, by omega⟩
    · exact i64_small (x := 0) ⟨by omega, by omega⟩
    · show uni' < 256; omega
    · show nm.size ≤ 1000; omega
    · show 0 < 256; omega
    · show 0 < 256; omega
    · show 0 < 256; omega
    · show st < 65536; omega
    · exact Nat.lt_of_le_of_lt Nat.and_le_left (show st < 65536 by omega)
    · exact Nat.lt_of_le_of_lt Nat.and_le_left (show st < 65536 by omega)
    · exact (by decide : 0 < 256 ∧ 0 < 256 ∧ 0 < 256 ∧ 0 < 256 ∧ 0 < 256 ∧ 0 < 256)
    · exact i64_small (x := 1) ⟨by omega, by omega⟩
    · have hm := or_mask (a := st) (sub_mask st (65535 - ri) (by omega)) (sub_mask st (65535 - q) (by omega))
      show (nameB nm && _ && discB _ _) = true
      rw [HNM.out]
      simp only [discB, headS, zC]
      simp
      exact ⟨by omega, hm⟩
  | false =>
    go_wp2_with fail
    refine (next_ok w9 b v L _ HB.out.D 3 (by omega) (by omega)).mono ?_
    rintro e w10 ⟨sa, n10, rfl, sa0, sa1, D10, M10⟩
    have HB := Lib.hid (HB.out.dice D10 M10)
    have cx : w10.cell? ⟨gc, 27, none⟩ = some (.int .i64 1) := HB.out.c 27
    have fx := HB.out.f
    clear D10 M10
    go_wp2_with fail
    obtain ⟨S1, hS1⟩ : ∃ S1 : Sen, S1 = { headS num typ uni' nm ei en host with samples := 1 + 2 * sa } := ⟨_, rfl⟩
    have HB : Hid (Bld w (w10.setCell ⟨gc, 27, none⟩ (.int .i64 (1 + 2 * sa))) b v L n10 40 gr gc zS.cells S1.cells) := by
      have h := HB.out.set 27 (.int .i64 (1 + 2 * sa))
      rw [set_samples, ← hS1] at h
      exact h
    have HS1 := Lib.hid hS1
    clear cx fx hS1
    generalize w10.setCell ⟨gc, 27, none⟩ (.int .i64 (1 + 2 * sa)) = w11 at HB ⊢
    have HLT := Lib.hid (show gr < w11.heap.size ∧ gc < w11.heap.size ∧ b < w11.heap.size ∧ w.heap.size ≤ w11.heap.size from
      ⟨lt_of_block HB.out.R, lt_of_block HB.out.G, HB.out.D.lt, by have := lt_of_block HB.out.R; have := HB.out.hr; omega⟩)
    refine (conversion_ok w11 b v L _ HB.out.D).mono ?_
    rintro e w12 ⟨C, P, n12, rfl, IC, CV, OC, PL, D12, M12⟩
    have HB := Lib.hid (HB.out.dice D12 M12)
    have HCV := Lib.hid CV
    have HIC := Lib.hid (show PtsOk P ∧ I64 C.form ∧ I64 C.m ∧ I64 C.b ∧ I64 C.k1 ∧ I64 C.k2 from ⟨IC.pok, IC.form, IC.m, IC.b, IC.k1, IC.k2⟩)
    have HPL := Lib.hid PL
    have HONE := Lib.hid IC.rd.one
    have HOC := Lib.hid OC
    clear D12 M12 CV IC OC PL
    have HS : Hid (∀ W, W.heap[gc]? = some (.cells (setAll S1.cells 7 C.cells.toList) 40 (0, 0)) → Mods [gc] w12 W → SB w W b v L n12 gr gc { S1 with conv := C } w11.heap.size P) := Lib.hid (fun W G M =>
      ⟨HB.out.part (setAll_conv S1 C ▸ G) M, HOC.out.mods M (by have := HLT.out; simp; omega), HLT.out⟩)
    have H7 := Lib.hid (show S1.cells.size = 28 from rfl)
    go_wp2_with (refine wpList_store_part (cs := C.cells) rfl 34 (.tmp 56) (.tmp 55) rfl HB.out.G 7 (by rfl) (by rfl) (show 7 + 7 ≤ 28 by decide) Tryz.infoC (Conv.one _ HONE.out) ?_; intro w13 R13 M13; have c8 : w13.cell? ⟨gc, 8, none⟩ = some (.bool C.sgn) := (by rw [setAll_conv] at R13; rw [cell_blk R13]; rfl))
    have HS := Lib.hid (HS.out w13 R13 M13)
    clear R13 M13 HB HOC HLT c8
    generalize w11.heap.size = B at HS
    refine (thresholds_ok w13 b v L _ HS.out.bl.D C.sgn).mono ?_
    rintro e w14 ⟨m, n14, R, rfl, m64, Rlt, Rord, Rz, D14, M14⟩
    have HS := Lib.hid (HS.out.dice D14 M14)
    obtain ⟨S2, hS2⟩ : ∃ S2 : Sen, S2 = { S1 with conv := C } := ⟨_, rfl⟩
    rw [← hS2] at HS
    obtain ⟨S0, hS0⟩ : ∃ S0 : Sen, S0 = { S2 with mask := m, r0 := R 0, r1 := R 1, r2 := R 2, r3 := R 3, r4 := R 4, r5 := R 5 } := ⟨_, rfl⟩
    have HANA : Hid (Ana S0 P num ∧ S0.conv = C ∧ S0.mask = m) := by
      have hs1 := HS1.out
      rw [hS0]
      refine ⟨⟨?_, ?_, ?_, ?_, ?_, ?_, ?_, ?_, ?_, m64, ⟨Rlt _, Rlt _, Rlt _, Rlt _, Rlt _, Rlt _⟩, zeroRaw_made Rz, ord_made (by rw [hS2]) Rord, ?_, ?_⟩, ?_, rfl⟩ <;> rw [hS2, hs1]
      · rfl
      · exact ht4
      · show uni' < 256; omega
      · exact HNM.out
      · exact hnm
      · exact ei1
      · exact en1
      · rfl
      · exact HCV.out
      · rfl
      · show (1 + 2 * sa : Int) = 1 ∨ (1 + 2 * sa : Int) = 3 ∨ (1 + 2 * sa : Int) = 5; omega
    have HT : Hid (∀ W, W.heap[gc]? = some (.cells (setAll S2.cells 14 (thsCells m R).toList) 40 (0, 0)) → Mods [gc] w14 W → SB w W b v L n14 gr gc S0 B P) := Lib.hid (fun W G M => by
      rw [setAll_ths, ← hS0] at G
      exact HS.out.part G M (by rw [hS0]))
    clear D14 M14 Rlt Rord Rz hS2 hS0
    go_wp2_with (refine wpList_store_part (cs := thsCells m R) rfl 37 (.tmp 62) (.tmp 61) rfl HS.out.bl.G 14 (by rfl) (by rfl) (show 14 + 7 ≤ 28 by decide) Tryz.infoT (thsCells_one m R) ?_; intro w15 R15 M15)
    have HS := Lib.hid (HT.out w15 R15 M15)
    clear R15 M15 HT
    refine (next_ok w15 b v L _ HS.out.bl.D 5 (by omega) (by omega)).mono ?_
    rintro e w16 ⟨hl', n16, rfl, hl0, hl1, D16, M16⟩
    obtain ⟨hl, rfl⟩ := Int.eq_ofNat_of_zero_le hl0
    have HS := Lib.hid (HS.out.dice D16 M16)
    have cx : w16.cell? ⟨gc, 21, none⟩ = some (.int .u8 S0.hl) := HS.out.bl.c 21
    have fx := HS.out.bl.f
    clear D16 M16
    go_wp2_with fail
    obtain ⟨S3, hS3⟩ : ∃ S3 : Sen, S3 = { S0 with hl := hl } := ⟨_, rfl⟩
    have HS : Hid (SB w (w16.setCell ⟨gc, 21, none⟩ (.int .u8 hl)) b v L n16 gr gc S3 B P) := Lib.hid (HS.out.set 21 (.int .u8 hl) (by rw [set_hl, hS3]) (by rw [hS3]))
    have H3 := Lib.hid hS3
    clear cx fx hS3
    generalize w16.setCell ⟨gc, 21, none⟩ (.int .u8 hl) = w17 at HS ⊢
    refine (next_ok w17 b v L _ HS.out.bl.D 5 (by omega) (by omega)).mono ?_
    rintro e w18 ⟨hu', n18, rfl, hu0, hu1, D18, M18⟩
    obtain ⟨hu, rfl⟩ := Int.eq_ofNat_of_zero_le hu0
    have HS := Lib.hid (HS.out.dice D18 M18)
    have cx : w18.cell? ⟨gc, 22, none⟩ = some (.int .u8 S3.hu) := HS.out.bl.c 22
    have fx := HS.out.bl.f
    clear D18 M18
    go_wp2_with fail
    obtain ⟨S4, hS4⟩ : ∃ S4 : Sen, S4 = { S3 with hu := hu } := ⟨_, rfl⟩
    have HS : Hid (SB w (w18.setCell ⟨gc, 22, none⟩ (.int .u8 hu)) b v L n18 gr gc S4 B P) := Lib.hid (HS.out.set 22 (.int .u8 hu) (by rw [set_hu, hS4]) (by rw [hS4]))
    have H4 := Lib.hid (show S4 = { S0 with hl := hl, hu := hu } by rw [hS4, H3.out])
    clear cx fx hS4
    generalize w18.setCell ⟨gc, 22, none⟩ (.int .u8 hu) = w19 at HS ⊢
    refine (bool_ok w19 b v L _ HS.out.bl.D 12 (by omega) (by omega)).mono ?_
    rintro e w20 ⟨q1, n20, rfl, D20, M20⟩
    have HS := Lib.hid (HS.out.dice D20 M20)
    clear D20 M20
    have hhu : hu < 256 := by omega
    have hhl : hl < 256 := by omega
    have hw16 := wrap16 (m := m) (by omega)
    cases q1 with
    | false =>
      have HU := H4
      have c14 : w20.cell? ⟨gc, 14, none⟩ = some (.int .u8 m) := by have := HS.out.bl.c 14; rw [this, HU.out]; show some (Value.int .u8 (S0.mask : Int)) = _; rw [HANA.out.2.2]
      have c24 : w20.cell? ⟨gc, 24, none⟩ = some (.int .u16 S4.asrt) := HS.out.bl.c 24
      have c25 : w20.cell? ⟨gc, 25, none⟩ = some (.int .u16 S4.deas) := HS.out.bl.c 25
      have fx := HS.out.bl.f
      go_wp2_with fail
      obtain ⟨S6, hS6⟩ : ∃ S6 : Sen, S6 = { S0 with hl := hl, hu := hu, asrt := m, deas := m } := ⟨_, rfl⟩
      have HS : Hid (SB w ((w20.setCell ⟨gc, 24, none⟩ (.int .u16 m)).setCell ⟨gc, 25, none⟩ (.int .u16 m)) b v L n20 gr gc S6 B P) := Lib.hid ((HS.out.set (S' := { S4 with asrt := m }) 24 (.int .u16 m) (set_asrt S4 m) rfl).set 25 (.int .u16 m) (by rw [set_deas, hS6, HU.out]) (by rw [hS6, HU.out]))
      have HL := Lib.hid hS6
      clear c14 c24 c25 fx hS6
      generalize (w20.setCell ⟨gc, 24, none⟩ (.int .u16 m)).setCell ⟨gc, 25, none⟩ (.int .u16 m) = w31 at HS ⊢
      refine (bool_ok w31 b v L _ HS.out.bl.D 3 (by omega) (by omega)).mono ?_
      rintro e w32 ⟨q2, n32, rfl, D32, M32⟩
      have HS := Lib.hid (HS.out.dice D32 M32)
      clear D32 M32
      have hmz : m &&& (65535 - m) = 0 := and_sub m (by omega)
      cases q2 with
      | false =>
        have HSB := Lib.hid (show SenBox w32 gc S6 from ⟨HS.out.bl.G⟩)
        have hone := Lib.hid (show S6.conv.pts.oneCell' = true by rw [HL.out]; show S0.conv.pts.oneCell' = true; rw [HANA.out.2.1]; exact HONE.out)
        go_wp2_with (first
          | (refine wpList_load_sen rfl (.tmp 5) rfl HSB.out (by rfl) ?_)
          | (refine wpList_store_row (cs := S6.cells) rfl 40 (.tmp 4) (.tmp 98) rfl HS.out.bl.R (by rfl) (by rfl) (by rfl) (Sen.infoS _) (Sen.one _ hone.out) ?_; intro w39 R39 M39))
        have HB := Lib.hid (HS.out.bl.fin R39 M39)
        have HO := Lib.hid (HS.out.own.mods M39 (by have := HS.out.lt; simp; omega))
        clear R39 M39
        refine bodyPost_ret (results_cell_row rfl _ _ gr _ _ _ _ rfl HB.out.R Tryz.underlying40 rfl (Sen.infoS _)) rfl ?_
        have hc : S0.conv = C := HANA.out.2.1
        have hm : S0.mask = m := HANA.out.2.2
        have hpts : S6.conv.pts = C.pts := by rw [HL.out]; show S0.conv.pts = _; rw [hc]
        have HO := HO.out
        have hlt := HS.out.lt.2.2.2
        rw [hpts] at HO
        have hic : IsConv w39 S0.conv P := by
          have ⟨i1, i2, i3, i4, i5, i6⟩ := HIC.out
          rw [hc]
          exact ⟨HO.rd, i1, i2, i3, i4, i5, i6⟩
        refine ⟨S6, P, _, rfl, ?_, ?_, by rw [hpts]; exact HO.down hlt, HPL.out, ?_, HB.out.D, HB.out.M⟩
        · rw [HL.out]; exact HANA.out.1.isSen hic hnum hhl (by omega) (by omega) (by omega)
        · rw [HL.out]; exact HANA.out.1.valid (by rw [hm]; exact hmz) (by rw [hm]; exact hmz)
        · rw [HL.out]; exact HANA.out.1.number
      | true =>
        go_wp2_with fail
        refine (next_ok w32 b v L _ HS.out.bl.D 64 (by omega) (by omega)).mono ?_
        rintro e w33 ⟨ra', n33, rfl, ra0, ra1, D33, M33⟩
        obtain ⟨ra, rfl⟩ := Int.eq_ofNat_of_zero_le ra0
        have HS := Lib.hid (HS.out.dice D33 M33)
        have hwa := wrap16 (m := ra) (by omega)
        have haa : bits .andNot .u16 (m : Int) (ra : Int) = ((m &&& (65535 - ra) : Nat) : Int) := u16_andNot_nat _ _ (by omega) (by omega)
        have c24 : w33.cell? ⟨gc, 24, none⟩ = some (.int .u16 S6.asrt) := HS.out.bl.c 24
        have fx := HS.out.bl.f
        clear D33 M33
        go_wp2_with fail
        obtain ⟨S7, hS7⟩ : ∃ S7 : Sen, S7 = { S0 with hl := hl, hu := hu, asrt := m &&& (65535 - ra), deas := m } := ⟨_, rfl⟩
        have HS : Hid (SB w (w33.setCell ⟨gc, 24, none⟩ (.int .u16 ((m &&& (65535 - ra) : Nat) : Int))) b v L n33 gr gc S7 B P) := Lib.hid (HS.out.set 24 _ (by rw [set_asrt, hS7, HL.out]) (by rw [hS7, HL.out]))
        have HL7 := Lib.hid hS7
        clear c24 fx hwa haa hS7
        generalize w33.setCell ⟨gc, 24, none⟩ (.int .u16 ((m &&& (65535 - ra) : Nat) : Int)) = w34 at HS ⊢
        refine (next_ok w34 b v L _ HS.out.bl.D 64 (by omega) (by omega)).mono ?_
        rintro e w35 ⟨rb', n35, rfl, rb0, rb1, D35, M35⟩
        obtain ⟨rb, rfl⟩ := Int.eq_ofNat_of_zero_le rb0
        have HS := Lib.hid (HS.out.dice D35 M35)
        have hwb := wrap16 (m := rb) (by omega)
        have hbb : bits .andNot .u16 (m : Int) (rb : Int) = ((m &&& (65535 - rb) : Nat) : Int) := u16_andNot_nat _ _ (by omega) (by omega)
        have c25 : w35.cell? ⟨gc, 25, none⟩ = some (.int .u16 S7.deas) := HS.out.bl.c 25
        have fx := HS.out.bl.f
        clear D35 M35 HL
        obtain ⟨S8, hS8⟩ : ∃ S8 : Sen, S8 = { S0 with hl := hl, hu := hu, asrt := m &&& (65535 - ra), deas := m &&& (65535 - rb) } := ⟨_, rfl⟩
        have HS : Hid (SB w (w35.setCell ⟨gc, 25, none⟩ (.int .u16 ((m &&& (65535 - rb) : Nat) : Int))) b v L n35 gr gc S8 B P) := Lib.hid (HS.out.set 25 _ (by rw [set_deas, hS8, HL7.out]) (by rw [hS8, HL7.out]))
        have HL := Lib.hid hS8
        clear hS8
        have HSB := Lib.hid (show SenBox (w35.setCell ⟨gc,25,none⟩ (.int .u16 ((m&&&(65535-rb):Nat):Int))) gc S8 from ⟨HS.out.bl.G⟩)
        have hone := Lib.hid (show S8.conv.pts.oneCell' = true by rw [HL.out]; show S0.conv.pts.oneCell' = true; rw [HANA.out.2.1]; exact HONE.out)
        go_wp2_with (first
          | (refine wpList_load_sen rfl (.tmp 5) rfl HSB.out (by rfl) ?_)
          | (refine wpList_store_row (cs := S8.cells) rfl 40 (.tmp 4) (.tmp 98) rfl HS.out.bl.R (by rfl) (by rfl) (by rfl) (Sen.infoS _) (Sen.one _ hone.out) ?_; intro w39 R39 M39))
        have HB := Lib.hid (HS.out.bl.fin R39 M39)
        have HO := Lib.hid (HS.out.own.mods M39 (by have := HS.out.lt; simp; omega))
        clear R39 M39
        refine bodyPost_ret (results_cell_row rfl _ _ gr _ _ _ _ rfl HB.out.R Tryz.underlying40 rfl (Sen.infoS _)) rfl ?_
        have hc : S0.conv = C := HANA.out.2.1
        have hm : S0.mask = m := HANA.out.2.2
        have hpts : S8.conv.pts = C.pts := by rw [HL.out]; show S0.conv.pts = _; rw [hc]
        have HO := HO.out
        have hlt := HS.out.lt.2.2.2
        rw [hpts] at HO
        have hic : IsConv w39 S0.conv P := by
          have ⟨i1, i2, i3, i4, i5, i6⟩ := HIC.out
          rw [hc]
          exact ⟨HO.rd, i1, i2, i3, i4, i5, i6⟩
        refine ⟨S8, P, _, rfl, ?_, ?_, by rw [hpts]; exact HO.down hlt, HPL.out, ?_, HB.out.D, HB.out.M⟩
        · rw [HL.out]; exact HANA.out.1.isSen hic hnum hhl (by omega) (Nat.lt_of_le_of_lt Nat.and_le_left (show m<65536 by omega)) (Nat.lt_of_le_of_lt Nat.and_le_left (show m<65536 by omega))
        · rw [HL.out]; exact HANA.out.1.valid (by rw [hm]; exact sub_mask m _ (by omega)) (by rw [hm]; exact sub_mask m _ (by omega))
        · rw [HL.out]; exact HANA.out.1.number
    | true =>
      go_wp2_with fail
      refine (byte_ok w20 b v L _ HS.out.bl.D).mono ?_
      rintro e w21 ⟨hv', n21, rfl, hv0, hv1, D21, M21⟩
      obtain ⟨hv2, rfl⟩ := Int.eq_ofNat_of_zero_le hv0
      have HS := Lib.hid (HS.out.dice D21 M21)
      have cx : w21.cell? ⟨gc, 22, none⟩ = some (.int .u8 S4.hu) := HS.out.bl.c 22
      have fx := HS.out.bl.f
      clear D21 M21
      obtain ⟨S5, hS5⟩ : ∃ S5 : Sen, S5 = { S0 with hl := hl, hu := hv2 } := ⟨_, rfl⟩
      have HS : Hid (SB w (w21.setCell ⟨gc, 22, none⟩ (.int .u8 hv2)) b v L n21 gr gc S5 B P) := Lib.hid (HS.out.set 22 (.int .u8 hv2) (by rw [set_hu, hS5, H4.out]) (by rw [hS5, H4.out]))
      have HU := Lib.hid hS5
      clear hS5
      have c14 : (w21.setCell ⟨gc,22,none⟩ (.int .u8 hv2)).cell? ⟨gc, 14, none⟩ = some (.int .u8 m) := by have := HS.out.bl.c 14; rw [this, HU.out]; show some (Value.int .u8 (S0.mask : Int)) = _; rw [HANA.out.2.2]
      have c24 : (w21.setCell ⟨gc,22,none⟩ (.int .u8 hv2)).cell? ⟨gc, 24, none⟩ = some (.int .u16 S5.asrt) := HS.out.bl.c 24
      have c25 : (w21.setCell ⟨gc,22,none⟩ (.int .u8 hv2)).cell? ⟨gc, 25, none⟩ = some (.int .u16 S5.deas) := HS.out.bl.c 25
      have fx := HS.out.bl.f
      go_wp2_with fail
      obtain ⟨S6, hS6⟩ : ∃ S6 : Sen, S6 = { S0 with hl := hl, hu := hv2, asrt := m, deas := m } := ⟨_, rfl⟩
      have HS : Hid (SB w (((w21.setCell ⟨gc,22,none⟩ (.int .u8 hv2)).setCell ⟨gc, 24, none⟩ (.int .u16 m)).setCell ⟨gc, 25, none⟩ (.int .u16 m)) b v L n21 gr gc S6 B P) := Lib.hid ((HS.out.set (S' := { S5 with asrt := m }) 24 (.int .u16 m) (set_asrt S5 m) rfl).set 25 (.int .u16 m) (by rw [set_deas, hS6, HU.out]) (by rw [hS6, HU.out]))
      have HL := Lib.hid hS6
      clear c14 c24 c25 fx hS6
      generalize ((w21.setCell ⟨gc,22,none⟩ (.int .u8 hv2)).setCell ⟨gc, 24, none⟩ (.int .u16 m)).setCell ⟨gc, 25, none⟩ (.int .u16 m) = w31 at HS ⊢
      refine (bool_ok w31 b v L _ HS.out.bl.D 3 (by omega) (by omega)).mono ?_
      rintro e w32 ⟨q2, n32, rfl, D32, M32⟩
      have HS := Lib.hid (HS.out.dice D32 M32)
      clear D32 M32
      have hmz : m &&& (65535 - m) = 0 := and_sub m (by omega)
      cases q2 with
      | false =>
        have HSB := Lib.hid (show SenBox w32 gc S6 from ⟨HS.out.bl.G⟩)
        have hone := Lib.hid (show S6.conv.pts.oneCell' = true by rw [HL.out]; show S0.conv.pts.oneCell' = true; rw [HANA.out.2.1]; exact HONE.out)
        go_wp2_with (first
          | (refine wpList_load_sen rfl (.tmp 5) rfl HSB.out (by rfl) ?_)
          | (refine wpList_store_row (cs := S6.cells) rfl 40 (.tmp 4) (.tmp 98) rfl HS.out.bl.R (by rfl) (by rfl) (by rfl) (Sen.infoS _) (Sen.one _ hone.out) ?_; intro w39 R39 M39))
        have HB := Lib.hid (HS.out.bl.fin R39 M39)
        have HO := Lib.hid (HS.out.own.mods M39 (by have := HS.out.lt; simp; omega))
        clear R39 M39
        refine bodyPost_ret (results_cell_row rfl _ _ gr _ _ _ _ rfl HB.out.R Tryz.underlying40 rfl (Sen.infoS _)) rfl ?_
        have hc : S0.conv = C := HANA.out.2.1
        have hm : S0.mask = m := HANA.out.2.2
        have hpts : S6.conv.pts = C.pts := by rw [HL.out]; show S0.conv.pts = _; rw [hc]
        have HO := HO.out
        have hlt := HS.out.lt.2.2.2
        rw [hpts] at HO
        have hic : IsConv w39 S0.conv P := by
          have ⟨i1, i2, i3, i4, i5, i6⟩ := HIC.out
          rw [hc]
          exact ⟨HO.rd, i1, i2, i3, i4, i5, i6⟩
        refine ⟨S6, P, _, rfl, ?_, ?_, by rw [hpts]; exact HO.down hlt, HPL.out, ?_, HB.out.D, HB.out.M⟩
        · rw [HL.out]; exact HANA.out.1.isSen hic hnum hhl (by omega) (by omega) (by omega)
        · rw [HL.out]; exact HANA.out.1.valid (by rw [hm]; exact hmz) (by rw [hm]; exact hmz)
        · rw [HL.out]; exact HANA.out.1.number
      | true =>
        go_wp2_with fail
        refine (next_ok w32 b v L _ HS.out.bl.D 64 (by omega) (by omega)).mono ?_
        rintro e w33 ⟨ra', n33, rfl, ra0, ra1, D33, M33⟩
        obtain ⟨ra, rfl⟩ := Int.eq_ofNat_of_zero_le ra0
        have HS := Lib.hid (HS.out.dice D33 M33)
        have hwa := wrap16 (m := ra) (by omega)
        have haa : bits .andNot .u16 (m : Int) (ra : Int) = ((m &&& (65535 - ra) : Nat) : Int) := u16_andNot_nat _ _ (by omega) (by omega)
        have c24 : w33.cell? ⟨gc, 24, none⟩ = some (.int .u16 S6.asrt) := HS.out.bl.c 24
        have fx := HS.out.bl.f
        clear D33 M33
        go_wp2_with fail
        obtain ⟨S7, hS7⟩ : ∃ S7 : Sen, S7 = { S0 with hl := hl, hu := hv2, asrt := m &&& (65535 - ra), deas := m } := ⟨_, rfl⟩
        have HS : Hid (SB w (w33.setCell ⟨gc, 24, none⟩ (.int .u16 ((m &&& (65535 - ra) : Nat) : Int))) b v L n33 gr gc S7 B P) := Lib.hid (HS.out.set 24 _ (by rw [set_asrt, hS7, HL.out]) (by rw [hS7, HL.out]))
        have HL7 := Lib.hid hS7
        clear c24 fx hwa haa hS7
        generalize w33.setCell ⟨gc, 24, none⟩ (.int .u16 ((m &&& (65535 - ra) : Nat) : Int)) = w34 at HS ⊢
        refine (next_ok w34 b v L _ HS.out.bl.D 64 (by omega) (by omega)).mono ?_
        rintro e w35 ⟨rb', n35, rfl, rb0, rb1, D35, M35⟩
        obtain ⟨rb, rfl⟩ := Int.eq_ofNat_of_zero_le rb0
        have HS := Lib.hid (HS.out.dice D35 M35)
        have hwb := wrap16 (m := rb) (by omega)
        have hbb : bits .andNot .u16 (m : Int) (rb : Int) = ((m &&& (65535 - rb) : Nat) : Int) := u16_andNot_nat _ _ (by omega) (by omega)
        have c25 : w35.cell? ⟨gc, 25, none⟩ = some (.int .u16 S7.deas) := HS.out.bl.c 25
        have fx := HS.out.bl.f
        clear D35 M35 HL
        obtain ⟨S8, hS8⟩ : ∃ S8 : Sen, S8 = { S0 with hl := hl, hu := hv2, asrt := m &&& (65535 - ra), deas := m &&& (65535 - rb) } := ⟨_, rfl⟩
        have HS : Hid (SB w (w35.setCell ⟨gc, 25, none⟩ (.int .u16 ((m &&& (65535 - rb) : Nat) : Int))) b v L n35 gr gc S8 B P) := Lib.hid (HS.out.set 25 _ (by rw [set_deas, hS8, HL7.out]) (by rw [hS8, HL7.out]))
        have HL := Lib.hid hS8
        clear hS8
        have HSB := Lib.hid (show SenBox (w35.setCell ⟨gc,25,none⟩ (.int .u16 ((m&&&(65535-rb):Nat):Int))) gc S8 from ⟨HS.out.bl.G⟩)
        have hone := Lib.hid (show S8.conv.pts.oneCell' = true by rw [HL.out]; show S0.conv.pts.oneCell' = true; rw [HANA.out.2.1]; exact HONE.out)
        go_wp2_with (first
          | (refine wpList_load_sen rfl (.tmp 5) rfl HSB.out (by rfl) ?_)
          | (refine wpList_store_row (cs := S8.cells) rfl 40 (.tmp 4) (.tmp 98) rfl HS.out.bl.R (by rfl) (by rfl) (by rfl) (Sen.infoS _) (Sen.one _ hone.out) ?_; intro w39 R39 M39))
        have HB := Lib.hid (HS.out.bl.fin R39 M39)
        have HO := Lib.hid (HS.out.own.mods M39 (by have := HS.out.lt; simp; omega))
        clear R39 M39
        refine bodyPost_ret (results_cell_row rfl _ _ gr _ _ _ _ rfl HB.out.R Tryz.underlying40 rfl (Sen.infoS _)) rfl ?_
        have hc : S0.conv = C := HANA.out.2.1
        have hm : S0.mask = m := HANA.out.2.2
        have hpts : S8.conv.pts = C.pts := by rw [HL.out]; show S0.conv.pts = _; rw [hc]
        have HO := HO.out
        have hlt := HS.out.lt.2.2.2
        rw [hpts] at HO
        have hic : IsConv w39 S0.conv P := by
          have ⟨i1, i2, i3, i4, i5, i6⟩ := HIC.out
          rw [hc]
          exact ⟨HO.rd, i1, i2, i3, i4, i5, i6⟩
        refine ⟨S8, P, _, rfl, ?_, ?_, by rw [hpts]; exact HO.down hlt, HPL.out, ?_, HB.out.D, HB.out.M⟩
        · rw [HL.out]; exact HANA.out.1.isSen hic hnum hhl (by omega) (Nat.lt_of_le_of_lt Nat.and_le_left (show m<65536 by omega)) (Nat.lt_of_le_of_lt Nat.and_le_left (show m<65536 by omega))
        · rw [HL.out]; exact HANA.out.1.valid (by rw [hm]; exact sub_mask m _ (by omega)) (by rw [hm]; exact sub_mask m _ (by omega))
        · rw [HL.out]; exact HANA.out.1.number
end Go.Proofs.YtijjkonephjodaaGreatDoor

namespace Go.Proofs.YtijjkonephjodaaGreatDoor
open Go.RowKit

/-- The sensor where no analog one came up. -/
def dS (num : Nat) : Sen := ⟨num, 1, 0, ⟨#[120]⟩, 0, 0, false, ⟨1, false, 1, 0, 0, 0, .slice none 0 0⟩, 63, 30, 20, 10, 200, 210, 220, 2, 3, 0, 63, 63, false, 1⟩
theorem dS_valid (num : Nat) : validB (dS num) [] = true := by
  have e : validB (dS num) [] = validB (dS 0) [] := rfl
  rw [e]; decide +kernel
theorem dS_is (w : World) {num : Nat} (h : num < 256) : IsSen w (dS num) [] :=
  IsSen.made ⟨RdPts.nil _, PtsOk.nil, i64_small (x := 1) ⟨by omega, by omega⟩, i64_small (x := 1) ⟨by omega, by omega⟩, i64_small (x := 0) ⟨by omega, by omega⟩, i64_small (x := 0) ⟨by omega, by omega⟩, i64_small (x := 0) ⟨by omega, by omega⟩⟩
    ⟨h, (by decide : 1 < 256), (by decide : 0 < 256), (by decide : 1 ≤ 1000), (by decide : 0 < 256), (by decide : 0 < 256), (by decide : 63 < 256), (by decide : 2 < 256), (by decide : 3 < 256), (by decide : 0 < 65536), (by decide : 63 < 65536), (by decide : 63 < 65536)⟩
    (by decide : 30 < 256 ∧ 20 < 256 ∧ 10 < 256 ∧ 200 < 256 ∧ 210 < 256 ∧ 220 < 256) (i64_small (x := 1) ⟨by omega, by omega⟩)
/-- An analog sensor of the dice. -/
def MadeAna (w : World) (b : Nat) (v : Value) (L : List Int) (num : Nat) (e : Ending) (w' : World) : Prop :=
  ∃ (S : Sen) (P : List Pt) (n : Nat), e = .returned (.agg S.cells) ∧ IsSen w' S P ∧ validB S P = true ∧ S.disc = false ∧ OwnPts w' w.heap.size S.conv.pts P ∧ P.length ≤ 12 ∧ S.number = num ∧ IsDice w' b v L n ∧ Mods [b] w w'
end Go.Proofs.YtijjkonephjodaaGreatDoor

namespace Go.Proofs.YtijjkonephjodaaGreatDoor
open Go.RowKit

def sevB (st k : Nat) : Bool := st.testBit (k - 1) || st.testBit (k + 2)
def sevI (st : Nat) : Int := if sevB st 3 then 3 else if sevB st 2 then 2 else if sevB st 1 then 1 else 0
theorem shrs (st : Nat) : ((st : Int) / 4 = ((st / 2 ^ 2 : Nat) : Int)) ∧ ((st : Int) / 32 = ((st / 2 ^ 5 : Nat) : Int)) ∧ ((st : Int) / 2 = ((st / 2 ^ 1 : Nat) : Int)) ∧ ((st : Int) / 16 = ((st / 2 ^ 4 : Nat) : Int)) ∧ ((st : Int) / 8 = ((st / 2 ^ 3 : Nat) : Int)) := by
  refine ⟨?_, ?_, ?_, ?_, ?_⟩ <;> omega
theorem or_bit (st a b : Nat) (h : st < 256) : bits .and .u8 (bits .or .u8 ((st / 2 ^ a : Nat) : Int) ((st / 2 ^ b : Nat) : Int)) 1 = if st.testBit a || st.testBit b then 1 else 0 := by
  have ha : st / 2 ^ a < 256 := Nat.lt_of_le_of_lt (Nat.div_le_self _ _) h
  have hb : st / 2 ^ b < 256 := Nat.lt_of_le_of_lt (Nat.div_le_self _ _) h
  rw [u8_or_nat _ _ ha hb, show (1 : Int) = ((1 : Nat) : Int) from rfl, u8_and_nat _ _ (Nat.or_lt_two_pow (n := 8) ha hb) (by omega), nat_mask1, tb, tb]
  have h1 := Nat.testBit_or (st / 2 ^ a) (st / 2 ^ b) 0
  rw [Nat.testBit_zero, Nat.testBit_zero, Nat.testBit_zero] at h1
  generalize st / 2 ^ a = x at h1 ⊢
  generalize st / 2 ^ b = y at h1 ⊢
  have h4 : (x ||| y) % 2 = if (decide (x % 2 = 1) || decide (y % 2 = 1)) = true then 1 else 0 := by
    rw [← h1]
    rcases Nat.mod_two_eq_zero_or_one (x ||| y) with h | h <;> simp [h]
  rw [h4]
  split <;> rfl
set_option maxRecDepth 100000 in
set_option maxHeartbeats 1000000 in
theorem severity_ok (st : Nat) (hst : st < 256) (w : World) :
    Calls Tryz.prog 35 #[.int .u8 st] w fun e w' => e = .returned (.int .i64 (sevI st)) ∧ Mods [] w w' := by
  obtain ⟨s4, s32, s2, s16, s8⟩ := shrs st
  go_enter Tryz.func35, Tryz.ntmps35
  go_wp2_with fail
  go_loopw [3] (fun i wr => ∃ k : Int, 0 ≤ k ∧ k ≤ 3 ∧ i = .int .i64 k ∧ Mods [] w wr ∧ Hid (∀ j : Nat, k < j → j ≤ 3 → sevB st j = false)) (fun i _ => (intOf i).toNat)
  case atStart => exact ⟨3, by omega, by omega, rfl, Mods.refl, fun j h1 h2 => by omega⟩
  case round =>
    obtain ⟨k, hk0, hk, rfl, M, hs⟩ := hrel
    have hcase : k = 3 ∨ k = 2 ∨ k = 1 ∨ k = 0 := by omega
    rcases hcase with rfl | rfl | rfl | rfl
    · have b := or_bit st 2 5 hst
      rw [←s4, ←s32] at b
      have eb : (st.testBit 2 || st.testBit 5) = sevB st 3 := rfl
      rw [eb] at b
      clear s4 s32 s2 s16 s8 eb
      cases hb : sevB st 3 with
      | true =>
        rw [hb] at b
        have b1 : (bits .and .u8 (bits .or .u8 ((st:Int)/4) ((st:Int)/32)) 1 == 1) = true := by rw [b]; rfl
        have HF := Lib.hid (show sevI st = 3 by simp[sevI,hb])
        clear b hb
        go_wp2_with fail
        go_quiet (fail)
        go_wp2
        go_ret
        exact ⟨ret_int (by rw [HF.out]), M.drewN _⟩
      | false =>
        rw [hb] at b
        have b1 : (bits .and .u8 (bits .or .u8 ((st:Int)/4) ((st:Int)/32)) 1 == 1) = false := by rw [b]; rfl
        have HN := Lib.hid (show ∀ j : Nat, (3 : Int) - 1 < j → j ≤ 3 → sevB st j = false from fun j h1 h2 => by
          by_cases e : j = 3
          · rw [e]; exact hb
          · exact hs.out j (by omega) h2)
        clear b hb
        go_wp2_with fail
        go_quiet (fail)
        go_wp2
        exact ⟨⟨(3 : Int) - 1, by omega, by omega, rfl, M.drewN _, HN.out⟩, by simp only [intOf]; omega⟩
    · have b := or_bit st 1 4 hst
      rw [←s2, ←s16] at b
      have eb : (st.testBit 1 || st.testBit 4) = sevB st 2 := rfl
      rw [eb] at b
      clear s4 s32 s2 s16 s8 eb
      cases hb : sevB st 2 with
      | true =>
        rw [hb] at b
        have b1 : (bits .and .u8 (bits .or .u8 ((st:Int)/2) ((st:Int)/16)) 1 == 1) = true := by rw [b]; rfl
        have HF := Lib.hid (show sevI st = 2 by (have :=hs.out 3 (by omega) (by omega);simp[sevI,hb,this]))
        clear b hb
        go_wp2_with fail
        go_quiet (fail)
        go_wp2
        go_ret
        exact ⟨ret_int (by rw [HF.out]), M.drewN _⟩
      | false =>
        rw [hb] at b
        have b1 : (bits .and .u8 (bits .or .u8 ((st:Int)/2) ((st:Int)/16)) 1 == 1) = false := by rw [b]; rfl
        have HN := Lib.hid (show ∀ j : Nat, (2 : Int) - 1 < j → j ≤ 3 → sevB st j = false from fun j h1 h2 => by
          by_cases e : j = 2
          · rw [e]; exact hb
          · exact hs.out j (by omega) h2)
        clear b hb
        go_wp2_with fail
        go_quiet (fail)
        go_wp2
        exact ⟨⟨(2 : Int) - 1, by omega, by omega, rfl, M.drewN _, HN.out⟩, by simp only [intOf]; omega⟩
    · have b := or_bit st 0 3 hst
      rw [Nat.pow_zero,Nat.div_one, ←s8] at b
      have eb : (st.testBit 0 || st.testBit 3) = sevB st 1 := rfl
      rw [eb] at b
      clear s4 s32 s2 s16 s8 eb
      cases hb : sevB st 1 with
      | true =>
        rw [hb] at b
        have b1 : (bits .and .u8 (bits .or .u8 (st:Int) ((st:Int)/8)) 1 == 1) = true := by rw [b]; rfl
        have HF := Lib.hid (show sevI st = 1 by (have h3:=hs.out 3 (by omega) (by omega);have h2:=hs.out 2 (by omega) (by omega);simp[sevI,hb,h3,h2]))
        clear b hb
        go_wp2_with fail
        go_quiet (fail)
        go_wp2
        go_ret
        exact ⟨ret_int (by rw [HF.out]), M.drewN _⟩
      | false =>
        rw [hb] at b
        have b1 : (bits .and .u8 (bits .or .u8 (st:Int) ((st:Int)/8)) 1 == 1) = false := by rw [b]; rfl
        have HN := Lib.hid (show ∀ j : Nat, (1 : Int) - 1 < j → j ≤ 3 → sevB st j = false from fun j h1 h2 => by
          by_cases e : j = 1
          · rw [e]; exact hb
          · exact hs.out j (by omega) h2)
        clear b hb
        go_wp2_with fail
        go_quiet (fail)
        go_wp2
        exact ⟨⟨(1 : Int) - 1, by omega, by omega, rfl, M.drewN _, HN.out⟩, by simp only [intOf]; omega⟩
    · have HF := Lib.hid (show sevI st = 0 by
        have h3 := hs.out 3 (by omega) (by omega)
        have h2 := hs.out 2 (by omega) (by omega)
        have h1 := hs.out 1 (by omega) (by omega)
        simp [sevI, h3, h2, h1])
      clear s4 s32 s2 s16 s8
      go_wp2
      go_ret
      exact ⟨ret_int (by rw [HF.out]), M⟩
end Go.Proofs.YtijjkonephjodaaGreatDoor

namespace Go.Proofs.YtijjkonephjodaaGreatDoor
open Go.RowKit

def beyI (S : Sen) (i : Nat) (x : Int) : Int := if i ≤ 2 then S.num i - x else x - S.num i
def hysI (S : Sen) (i : Nat) : Nat := if i ≤ 2 then S.hl else S.hu
theorem Sen.num_bd {w : World} {S : Sen} {P : List Pt} (h : IsSen w S P) (i : Nat) : -128 ≤ S.num i ∧ S.num i ≤ 255 := numI_bd (h.raw i)
set_option maxRecDepth 100000 in
set_option maxHeartbeats 1000000 in
theorem beyond_ok (w : World) (S : Sen) (P : List Pt) (hS : IsSen w S P) (i : Nat) (hi : i < 6) (r : Nat) (hr : r < 256) :
    Calls Tryz.prog 150 #[.agg S.cells, .int .i64 i, .int .u8 r] w fun e w' => e = .returned (.tuple #[.int .i64 (beyI S i (numI S.conv.sgn r)), .int .i64 (hysI S i)]) ∧ Mods [] w w' := by
  have hri := hS.raw i
  have hnum := Sen.num_bd hS i
  have hx := numI_bd (sgn := S.conv.sgn) hr
  have hl := hS.hl
  have hu := hS.hu
  clear hS
  have B0 := SenBox.new w S
  have hc := B0.craw hi
  have M0 := Lib.hid ((Mods.refl (S := []) (w := w)).alloc (.cells S.cells 40))
  obtain ⟨_, x8, _, _, _, _, _⟩ := S.convc
  obtain ⟨x21, x22, _, _, _, _, _⟩ := S.restc
  rw [B0.c] at hc
  clear B0
  have i1 : (0 : Int) ≤ (i : Int) := by omega
  have i2 : (i : Int) < 6 := by omega
  have HN := Lib.hid (show numI S.conv.sgn (S.raw i) = S.num i from rfl)
  generalize hxx : numI S.conv.sgn r = x at hx
  have HX := Lib.hid hxx
  clear hxx
  by_cases h2 : i ≤ 2
  · have HB := Lib.hid (show beyI S i x = S.num i - x by rw [beyI, if_pos h2])
    have HH := Lib.hid (show hysI S i = S.hl by rw [hysI, if_pos h2])
    have e1 : decide ((i : Int) ≤ 2) = true := by simp; omega
    go_enter Tryz.func150, Tryz.ntmps150
    go_wp2_with fail
    go_quiet ((go_at_call 95; exact quiet_left (number_ok _ _ (by assumption) _)))
    rw [HX.out, HN.out]
    go_wp2_with fail
    go_quiet (fail)
    go_wp2
    go_ret2
    exact ⟨by rw [HB.out, HH.out]; rfl, (M0.out.drewN _).drewN _⟩
  · have HB := Lib.hid (show beyI S i x = x - S.num i by rw [beyI, if_neg h2])
    have HH := Lib.hid (show hysI S i = S.hu by rw [hysI, if_neg h2])
    have e1 : decide ((i : Int) ≤ 2) = false := by simp; omega
    go_enter Tryz.func150, Tryz.ntmps150
    go_wp2_with fail
    go_quiet ((go_at_call 95; exact quiet_left (number_ok _ _ (by assumption) _)))
    rw [HX.out, HN.out]
    go_wp2_with fail
    go_quiet (fail)
    go_wp2
    go_ret2
    exact ⟨by rw [HB.out, HH.out]; rfl, (M0.out.drewN _).drewN _⟩
/-- Threshold i behind a reading of number x. -/
def nextB (S : Sen) (st : Nat) (x : Int) (i : Nat) : Bool := S.mask.testBit i && (decide (0 ≤ beyI S i x) || st.testBit i && decide (-(hysI S i : Int) ≤ beyI S i x))
def nextN (S : Sen) (st : Nat) (x : Int) : Nat := ofBits (nextB S st x) 6
theorem bit_and (m i : Nat) (_hm : m < 256) (hi : i < 8) : bits .and .u8 ((2 ^ i : Nat) : Int) (m : Int) = ((if m.testBit i then 2 ^ i else 0 : Nat) : Int) := by
  have hp : 2 ^ i < 256 := Nat.pow_lt_pow_right (a := 2) (n := 8) (by omega) hi
  rw [u8_and_nat _ _ hp _hm]
  congr 1
  rw [Nat.and_comm, nat_bit, tb]
  rcases Nat.mod_two_eq_zero_or_one (m / 2 ^ i) with h | h <;> simp [h]
set_option maxRecDepth 100000 in
set_option maxHeartbeats 4000000 in
theorem next_state_ok (w : World) (S : Sen) (P : List Pt) (hS : IsSen w S P) (st r : Nat) (hst : st < 256) (hr : r < 256) :
    Calls Tryz.prog 121 #[.agg S.cells, .int .u8 st, .int .u8 r] w fun e w' => e = .returned (.int .u8 (nextN S st (numI S.conv.sgn r))) ∧ Mods [] w w' := by
  have hm := hS.mask
  have HS := Lib.hid hS
  have hx := numI_bd (sgn := S.conv.sgn) hr
  clear hS
  have B0 := SenBox.new w S
  have M0 := (Mods.refl (S := []) (w := w)).alloc (.cells S.cells 40)
  go_enter Tryz.func121, Tryz.ntmps121
  go_wp2_with fail
  generalize w.alloc (.cells S.cells 40) = w1 at B0 M0 ⊢
  generalize w.heap.size = g at B0 ⊢
  obtain ⟨f, hf⟩ : ∃ f, f = nextB S st (numI S.conv.sgn r) := ⟨_, rfl⟩
  have HN := Lib.hid (show nextN S st (numI S.conv.sgn r) = ofBits f 6 by rw [hf]; rfl)
  have HF := Lib.hid hf
  clear hf
  go_loopw [7, 12] (fun o i wr => ∃ k : Nat, k ≤ 6 ∧ i = .int .i64 k ∧ o = .int .u8 (ofBits f k) ∧ Mods [] w wr ∧ SenBox wr g S) (fun _ i _ => 6 - (intOf i).toNat)
  case atStart => exact ⟨0, by omega, rfl, rfl, M0, B0⟩
  case round =>
    obtain ⟨k, hk, rfl, rfl, M1, B1⟩ := hrel
    clear M0 B0
    by_cases hlt : k < 6
    · have y14 := B1.lims.1
      have i1 : (0 : Int) ≤ (k : Int) := by omega
      have i2 : (k : Int) < 8 := by omega
      have MM := Lib.hid M1
      have BB := Lib.hid B1
      clear M1 B1
      have hpow : ((2 : Int) ^ k % 256) = ((2 ^ k : Nat) : Int) := by
        have h1 : 2 ^ k < 256 := Nat.pow_lt_pow_right (a := 2) (n := 8) (by omega) (by omega)
        have h2 : ((2 ^ k : Nat) : Int) = (2 : Int) ^ k := by simp
        rw [← h2]; exact Int.emod_eq_of_lt (Int.natCast_nonneg _) (Int.ofNat_lt.2 h1)
      have hb9 := bit_and S.mask k hm (by omega)
      have hs9 := bit_and st k hst (by omega)
      have HO := Lib.hid (ofBits_or (f := f) (k := k))
      have hol : ofBits f k < 256 := Nat.lt_of_lt_of_le (ofBits_lt f k) (show 2 ^ k ≤ 2 ^ 8 from Nat.pow_le_pow_right (by omega) (by omega))
      have HE := Lib.hid (show f k = (S.mask.testBit k && (decide (0 ≤ beyI S k (numI S.conv.sgn r)) || st.testBit k && decide (-(hysI S k : Int) ≤ beyI S k (numI S.conv.sgn r)))) by rw [HF.out]; rfl)
      have hn1 : -400 ≤ beyI S k (numI S.conv.sgn r) ∧ beyI S k (numI S.conv.sgn r) ≤ 400 := by
        have := Sen.num_bd HS.out k
        unfold beyI; split <;> omega
      have hh1 : hysI S k < 256 := by have := HS.out.hl; have := HS.out.hu; unfold hysI; split <;> omega
      have HBY := Lib.hid (fun W (hW : Mods [] w W) => beyond_ok W S P (HS.out.mods0 hW) k hlt r hr)
      have HHO := Lib.hid (show ofBits f (k + 1) = ofBits f k + if f k then 2 ^ k else 0 from rfl)
      generalize beyI S k (numI S.conv.sgn r) = n at HE hn1 HBY
      generalize hysI S k = h at HE hh1 HBY
      obtain ⟨p, hp⟩ : ∃ p, p = 2 ^ k := ⟨_, rfl⟩
      rw [← hp] at hpow hb9 hs9 HO HHO
      have hp1 : p < 256 := by rw [hp]; exact Nat.pow_lt_pow_right (a := 2) (n := 8) (by omega) (by omega)
      have hp0 : 0 < p := by rw [hp]; exact Nat.pow_pos (by omega)
      clear hp
      obtain ⟨o, ho⟩ : ∃ o, o = ofBits f k := ⟨_, rfl⟩
      rw [← ho] at HO HHO hol ⊢
      have HOO := Lib.hid ho
      clear ho
      rw [← hpow] at hb9
      cases hmb : S.mask.testBit k with
      | false =>
        have HK := Lib.hid (show ofBits f (k + 1) = o by rw [HHO.out, HE.out, hmb]; rfl)
        rw [hmb] at hb9
        simp only [Bool.false_eq_true, if_false, Int.natCast_zero] at hb9
        have hz : bits .and .u8 (st : Int) 0 = 0 := by rw [show (0 : Int) = ((0 : Nat) : Int) from rfl, u8_and_nat _ _ hst (by omega)]; simp
        have hoz : bits .or .u8 (o : Int) 0 = (o : Int) := by rw [show (0 : Int) = ((0 : Nat) : Int) from rfl, u8_or_nat _ _ hol (by omega)]; simp
        clear hmb hpow hs9
        go_wp2_with fail
        go_quiet (fail)
        go_wp2_with (refine wpList_load_sen rfl (.tmp 3) rfl (BB.out.mods0 (Mods.refl.drewN nq)) (by rfl) ?_)
        refine (HBY.out _ (MM.out.drewN nq)).mono ?_
        rintro e w3 ⟨rfl, M3⟩
        have M4 := Lib.hid ((MM.out.drewN nq).trans M3)
        have B4 := Lib.hid (BB.out.mods0 ((Mods.refl.drewN nq).trans M3))
        clear M3
        go_wp2
        all_goals exact ⟨⟨k + 1, by omega, by go_num, by rw [HK.out], M4.out, B4.out⟩, by simp only [intOf]; omega⟩
      | true =>
        have HE := Lib.hid (show f k = (decide (0 ≤ n) || st.testBit k && decide (-(h : Int) ≤ n)) by rw [HE.out, hmb]; rfl)
        rw [hmb] at hb9
        simp only [if_true] at hb9
        have hoo : bits .or .u8 (o : Int) (p : Int) = ((o ||| p : Nat) : Int) := u8_or_nat _ _ hol hp1
        clear hmb hpow
        have hcomm : bits .and .u8 (st : Int) (p : Int) = ((if st.testBit k then p else 0 : Nat) : Int) := by
          rw [u8_and_nat _ _ hst hp1, Nat.and_comm, ← u8_and_nat _ _ hp1 hst] ; exact hs9
        clear hs9
        by_cases hn : 0 ≤ n
        · skip
          have HK := Lib.hid (show ofBits f (k + 1) = o ||| p by rw [← HO.out, HE.out, if_pos (by simp[hn])])
          go_wp2_with fail
          go_quiet (fail)
          go_wp2_with (refine wpList_load_sen rfl (.tmp 3) rfl (BB.out.mods0 (Mods.refl.drewN nq)) (by rfl) ?_)
          refine (HBY.out _ (MM.out.drewN nq)).mono ?_
          rintro e w3 ⟨rfl, M3⟩
          have M4 := Lib.hid ((MM.out.drewN nq).trans M3)
          have B4 := Lib.hid (BB.out.mods0 ((Mods.refl.drewN nq).trans M3))
          clear M3
          go_wp2_with fail
          all_goals try (exfalso; omega)
          exact ⟨⟨k + 1, by omega, by go_num, by rw [HK.out], M4.out, B4.out⟩, by simp only [intOf]; omega⟩
        · cases hsb : st.testBit k with
          | false =>
            have HK := Lib.hid (show ofBits f (k + 1) = o by rw [HHO.out, HE.out, if_neg (by simp[hsb];omega)]; rfl)
            rw [hsb] at hcomm
            simp only [Bool.false_eq_true, if_false, Int.natCast_zero] at hcomm
            clear hsb
            go_wp2_with fail
            go_quiet (fail)
            go_wp2_with (refine wpList_load_sen rfl (.tmp 3) rfl (BB.out.mods0 (Mods.refl.drewN nq)) (by rfl) ?_)
            refine (HBY.out _ (MM.out.drewN nq)).mono ?_
            rintro e w3 ⟨rfl, M3⟩
            have M4 := Lib.hid ((MM.out.drewN nq).trans M3)
            have B4 := Lib.hid (BB.out.mods0 ((Mods.refl.drewN nq).trans M3))
            clear M3
            go_wp2_with fail
            all_goals try (exfalso; omega)
            exact ⟨⟨k + 1, by omega, by go_num, by rw [HK.out], M4.out, B4.out⟩, by simp only [intOf]; omega⟩
          | true =>
            rw [hsb] at hcomm
            simp only [if_true] at hcomm
            have hp2 : ((p : Int) != 0) = true := by simp; omega
            by_cases hh : -(h : Int) ≤ n
            · skip
              have HK := Lib.hid (show ofBits f (k + 1) = o ||| p by rw [← HO.out, HE.out, if_pos (by simp[hsb,hh])])
              clear hsb
              go_wp2_with fail
              go_quiet (fail)
              go_wp2_with (refine wpList_load_sen rfl (.tmp 3) rfl (BB.out.mods0 (Mods.refl.drewN nq)) (by rfl) ?_)
              refine (HBY.out _ (MM.out.drewN nq)).mono ?_
              rintro e w3 ⟨rfl, M3⟩
              have M4 := Lib.hid ((MM.out.drewN nq).trans M3)
              have B4 := Lib.hid (BB.out.mods0 ((Mods.refl.drewN nq).trans M3))
              clear M3
              go_wp2_with fail
              all_goals try (exfalso; omega)
              exact ⟨⟨k + 1, by omega, by go_num, by rw [HK.out], M4.out, B4.out⟩, by simp only [intOf]; omega⟩
            · have hh2 : n < -(h : Int) := by omega
              have HK := Lib.hid (show ofBits f (k + 1) = o by rw [HHO.out, HE.out, if_neg (by simp[hsb];omega)]; rfl)
              clear hsb
              go_wp2_with fail
              go_quiet (fail)
              go_wp2_with (refine wpList_load_sen rfl (.tmp 3) rfl (BB.out.mods0 (Mods.refl.drewN nq)) (by rfl) ?_)
              refine (HBY.out _ (MM.out.drewN nq)).mono ?_
              rintro e w3 ⟨rfl, M3⟩
              have M4 := Lib.hid ((MM.out.drewN nq).trans M3)
              have B4 := Lib.hid (BB.out.mods0 ((Mods.refl.drewN nq).trans M3))
              clear M3
              go_wp2_with fail
              all_goals try (exfalso; omega)
              exact ⟨⟨k + 1, by omega, by go_num, by rw [HK.out], M4.out, B4.out⟩, by simp only [intOf]; omega⟩
    · have hk6 : k = 6 := by omega
      subst hk6
      go_wp2
      go_ret
      exact ⟨ret_int (by rw [HN.out]), M1⟩
end Go.Proofs.YtijjkonephjodaaGreatDoor

namespace Go.Proofs.YtijjkonephjodaaGreatDoor
open Go.RowKit

/-- A change. -/
structure Chg where
  idx : Int
  on : Bool
deriving DecidableEq
instance : Inhabited Chg := ⟨⟨0, false⟩⟩
def chCells (l : List Chg) : List Value := l.flatMap fun c => [.int .i64 c.idx, .bool c.on]
theorem chCells_length (l : List Chg) : (chCells l).length = l.length * 2 := by
  induction l with
  | nil => rfl
  | cons p l ih => simp only [chCells, List.flatMap_cons, List.length_append, List.length_cons, List.length_nil] at ih ⊢; omega
theorem chCells_snoc (l : List Chg) (c : Chg) : chCells (l ++ [c]) = chCells l ++ [.int .i64 c.idx, .bool c.on] := by simp [chCells]
theorem chCells_get (l : List Chg) : ∀ i, i < l.length → (chCells l)[i * 2]? = some (.int .i64 (l.getD i default).idx) ∧ (chCells l)[i * 2 + 1]? = some (.bool (l.getD i default).on) := by
  induction l with
  | nil => intro i hi; simp at hi
  | cons p l ih =>
    intro i hi
    match i with
    | 0 => exact ⟨rfl, rfl⟩
    | i + 1 =>
      have := ih i (by simpa using hi)
      have e : chCells (p :: l) = .int .i64 p.idx :: .bool p.on :: chCells l := rfl
      rw [e, show (i + 1) * 2 = i * 2 + 1 + 1 by omega]
      simpa [List.getD_cons_succ] using this
/-- The slice v reads as the changes l. -/
def RdChg (w : World) (v : Value) (l : List Chg) : Prop :=
  ∃ ad cap, v = .slice ad l.length cap ∧ l.length ≤ cap ∧ cap ≤ maxLen ∧ ∀ i, i < l.length → ∃ b off, ad = some ⟨b, off, none⟩ ∧
    w.cell? ⟨b, off + i * 2, none⟩ = some (.int .i64 (l.getD i default).idx) ∧ w.cell? ⟨b, off + i * 2 + 1, none⟩ = some (.bool (l.getD i default).on)
theorem RdChg.nil (w : World) : RdChg w (.slice none 0 0) [] := ⟨none, 0, rfl, Nat.le_refl _, Nat.zero_le _, fun i hi => by simp at hi⟩
theorem RdChg.len {w : World} {v : Value} {l : List Chg} (h : RdChg w v l) : ∃ ad cap, v = .slice ad l.length cap := by
  obtain ⟨ad, cap, rfl, _⟩ := h; exact ⟨ad, cap, rfl⟩
theorem RdChg.mods {S : List Nat} {w w' : World} {v : Value} {l : List Chg} (h : RdChg w v l) (hm : Mods S w w') (hn : l ≠ [] → ∀ k, v.ownBlock = some k → k ∉ S) : RdChg w' v l := by
  obtain ⟨ad, cap, rfl, h1, h2, hc⟩ := h
  refine ⟨ad, cap, rfl, h1, h2, fun i hi => ?_⟩
  obtain ⟨b, off, rfl, hb, hb2⟩ := hc i hi
  have hk := hn (by rintro rfl; simp at hi) b rfl
  exact ⟨b, off, rfl, hm.cell hb hk, hm.cell hb2 hk⟩
theorem RdChg.mods0 {w w' : World} {v : Value} {l : List Chg} (h : RdChg w v l) (hm : Mods [] w w') : RdChg w' v l := h.mods hm fun _ _ _ => by simp
/-- The slice v is the call's own from block B on and holds the changes l. -/
def OwnChg (w : World) (B : Nat) (v : Value) (l : List Chg) : Prop := w.ownsRow B 162 2 v l.length (chCells l)
theorem OwnChg.rd {w : World} {B : Nat} {v : Value} {l : List Chg} (h : OwnChg w B v l) : RdChg w v l := by
  obtain ⟨hl, h⟩ := h
  rcases h with ⟨rfl, h0⟩ | ⟨g, cap, cur, rfl, _, hg, h1, h2, h3, h4⟩
  · have : l = [] := List.eq_nil_of_length_eq_zero h0
    subst this
    exact RdChg.nil w
  · refine ⟨_, cap, rfl, h1, h2, fun i hi => ⟨g, 0, rfl, ?_⟩⟩
    have ⟨a, b⟩ := chCells_get l i hi
    rw [cell_blk hg, cell_blk hg]
    rw [← h4] at a b
    rw [List.getElem?_take, if_pos (by omega)] at a b
    constructor
    · rw [← a]; simp
    · rw [← b, show 0 + i * 2 + 1 = i * 2 + 1 by omega]; simp
theorem OwnChg.mods {S : List Nat} {w w' : World} {B : Nat} {v : Value} {l : List Chg} (h : OwnChg w B v l) (hm : Mods S w w') (hS : ∀ k ∈ S, k < B) : OwnChg w' B v l :=
  hm.owns h fun k hk hk2 => by have := (World.ownsRow.lt h k hk).1; have := hS k hk2; omega
theorem OwnChg.mods0 {w w' : World} {B : Nat} {v : Value} {l : List Chg} (h : OwnChg w B v l) (hm : Mods [] w w') : OwnChg w' B v l := h.mods hm (by simp)
theorem OwnChg.own {w : World} {B : Nat} {v : Value} {l : List Chg} (h : OwnChg w B v l) : ∀ k, v.ownBlock = some k → B ≤ k ∧ k < w.heap.size := fun k hk => ⟨(World.ownsRow.lt h k hk).1, (World.ownsRow.lt h k hk).2⟩
theorem OwnChg.nil (w : World) (B : Nat) : OwnChg w B (.slice none 0 0) [] := World.ownsRow_nil _ _ _ _
theorem OwnChg.down {w : World} {B B' : Nat} {v : Value} {l : List Chg} (h : OwnChg w B v l) (hB : B' ≤ B) : OwnChg w B' v l := by
  obtain ⟨hl, h⟩ := h
  refine ⟨hl, ?_⟩
  rcases h with h | ⟨g, cap, cur, hv, hg, rest⟩
  · exact .inl h
  · exact .inr ⟨g, cap, cur, hv, by omega, rest⟩
theorem Tryz.infoCh : (Tryz.prog.info? 162).map (fun i => (i.zero, i.size, i.bytes)) = some (some (.agg #[.int .i64 0, .bool false]), 2, 16) := by kernel_rfl
/-- append of one change. -/
theorem wpList_pushC {ops : Array Oper} {rest : List Oper} {o : Oper} {a : Act} {Q : Exit → Act → World → Prop} {w : World} (hgd : o.guard = none) (s x : Operand)
    (ho : o.op = .call { callee := .builtin .append, args := #[s, x], argTypes := #[126, 126] })
    (B : Nat) (v : Value) (l : List Chg) (hs : a.eval s = v) (hown : OwnChg w B v l) (g : Nat) (c : Chg) (T : TypeId) (fr : Nat × Nat) (hg : w.heap[g]? = some (.cells #[.int .i64 c.idx, .bool c.on] T fr)) (hx : a.eval x = .slice (some ⟨g, 0, none⟩) 1 1)
    (hn : l.length ≤ 1000000) (hbase : B ≤ w.heap.size)
    (h : ∀ v' w', OwnChg w' B v' (l ++ [c]) → Mods (from_ B w) w w' → wpList Tryz.prog ops Q rest (a.put o.dst v') w') : wpList Tryz.prog ops Q (o :: rest) a w := by
  obtain ⟨i0, hi, hz0, hz1, hz2⟩ := info_parts Tryz.infoCh
  refine wpList_append_own _ hgd s x _ ho B 162 i0 _ 2 16 Tryz.underlying126 hi hz0 hz1 hz2 rfl (by decide) v l.length (chCells l) hs hown ⟨g, 0, none⟩ 1 1 [.int .i64 c.idx, .bool c.on] hx rfl ?_ (by intro u hu; simp at hu; rcases hu with rfl | rfl <;> rfl) (by unfold maxLen; omega) (by omega) hbase ?_
  · intro j u hj
    exact World.news_of_block (cs := #[.int .i64 c.idx, .bool c.on]) (t := T) (fr := fr) hg j u hj
  · intro v' w' h1 h2 _
    refine h _ _ ?_ (Mods.of_from ((Below.refl B w).grown h2 hbase fun k hk => (World.ownsRow.lt hown k hk).1))
    unfold OwnChg
    rw [chCells_snoc, List.length_append]
    exact h1
/-- The changes of the first n bits that lead from a to b. -/
def chL (a b : Nat) : Nat → List Chg
  | 0 => []
  | k + 1 => chL a b k ++ if (a ^^^ b).testBit k then [⟨k, b.testBit k⟩] else []
theorem chL_length (a b : Nat) : ∀ k, (chL a b k).length ≤ k
  | 0 => by simp [chL]
  | k + 1 => by
    have := chL_length a b k
    rw [chL, List.length_append]
    split <;> simp <;> omega
end Go.Proofs.YtijjkonephjodaaGreatDoor

namespace Go.Proofs.YtijjkonephjodaaGreatDoor
open Go.RowKit

/-- A valid analog sensor. -/
def anaB (S : Sen) (P : List Pt) : Bool := !S.disc && validB S P
set_option maxRecDepth 100000 in
theorem tAnalog_ok (w : World) (S : Sen) (P : List Pt) (hS : IsSen w S P) :
    Calls Tryz.prog 120 #[.agg S.cells] w fun e w' => e = .returned (.bool (anaB S P)) ∧ Mods [] w w' := by
  have HS := Lib.hid hS
  clear hS
  have BB := Lib.hid (SenBox.new w S)
  have M0 := Lib.hid ((Mods.refl (S := []) (w := w)).alloc (.cells S.cells 40))
  obtain ⟨_, _, _, _, _, _, x6⟩ := S.headc
  have HA := Lib.hid (show anaB S P = (!S.disc && validB S P) from rfl)
  cases hd : S.disc with
  | true =>
    rw [hd] at x6
    rw [hd] at HA
    clear hd
    go_enter Tryz.func120, Tryz.ntmps120
    go_wp2_with fail
    go_ret
    exact ⟨ret_bool (by rw [HA.out]; rfl), M0.out⟩
  | false =>
    rw [hd] at x6
    rw [hd] at HA
    clear hd
    go_enter Tryz.func120, Tryz.ntmps120
    go_wp2_with (refine wpList_load_senG (by rfl) (.tmp 1) rfl BB.out (by rfl) ?_)
    refine (valid_ok _ S P (HS.out.mods0 M0.out)).mono ?_
    rintro e w2 ⟨rfl, M2⟩
    go_wp2
    go_ret
    exact ⟨ret_bool (by rw [HA.out]; rfl), M0.out.trans M2⟩
/-- What Reached gives. -/
def reachN (S : Sen) (P : List Pt) (r : Nat) : Nat × Int := if anaB S P then (nextN S 0 (numI S.conv.sgn r), 0) else (0, 1)
/-- What Step gives. -/
def stepN (S : Sen) (P : List Pt) (st r : Nat) : Nat × List Chg × Int :=
  if anaB S P then (if st &&& (255 - S.mask) = 0 then (nextN S st (numI S.conv.sgn r), chL st (nextN S st (numI S.conv.sgn r)) 6, 0) else (0, [], 2)) else (0, [], 1)
def StepOut (w : World) (k : IntKind) (o : Nat × List Chg × Int) (e : Ending) (w' : World) : Prop :=
  ∃ v, e = .returned (.tuple #[.int k o.1, v, .int .i64 o.2.2]) ∧ OwnChg w' w.heap.size v o.2.1 ∧ Mods [] w w'
theorem nextN_lt (S : Sen) (st : Nat) (x : Int) : nextN S st x < 64 := ofBits_lt _ 6
set_option maxRecDepth 100000 in
set_option maxHeartbeats 2000000 in
theorem step_ok (w : World) (S : Sen) (P : List Pt) (hS : IsSen w S P) (st r : Nat) (hst : st < 256) (hr : r < 256) :
    Calls Tryz.prog 86 #[.agg S.cells, .int .u8 st, .int .u8 r] w fun e w' => StepOut w .u8 (stepN S P st r) e w' := by
  have hm := hS.mask
  have HS := Lib.hid hS
  clear hS
  have BB := Lib.hid (SenBox.new w S)
  have M0 := Lib.hid ((Mods.refl (S := []) (w := w)).alloc (.cells S.cells 40))
  go_enter Tryz.func86, Tryz.ntmps86
  go_wp2_with (refine wpList_load_sen rfl (.tmp 3) rfl BB.out (by rfl) ?_)
  refine (tAnalog_ok _ S P (HS.out.mods0 M0.out)).mono ?_
  rintro e w2 ⟨rfl, M2⟩
  have B2 := BB.out.mods0 M2
  have M2 := Lib.hid (M0.out.trans M2)
  have x14 := B2.lims.1
  have BB := Lib.hid B2
  clear B2
  cases ha : anaB S P with
  | false =>
    have HR := Lib.hid (show stepN S P st r = (0, [], 1) by simp [stepN, ha])
    clear ha
    go_wp2_with fail
    go_ret3
    exact ⟨_, by rw [HR.out]; rfl, by rw [HR.out]; exact OwnChg.nil _ _, M2.out⟩
  | true =>
    have ea : bits .andNot .u8 (st : Int) (S.mask : Int) = ((st &&& (255 - S.mask) : Nat) : Int) := u8_andNot_nat _ _ hst hm
    by_cases hx : st &&& (255 - S.mask) = 0
    · have HR := Lib.hid (show stepN S P st r = (nextN S st (numI S.conv.sgn r), chL st (nextN S st (numI S.conv.sgn r)) 6, 0) by simp [stepN, ha, hx])
      have e1 : (((st &&& (255 - S.mask) : Nat) : Int) != 0) = false := by simp only [hx]; rfl
      clear ha hx
      go_wp2_with (refine wpList_load_sen rfl (.tmp 3) rfl BB.out (by rfl) ?_)
      refine (next_state_ok _ S P (HS.out.mods0 M2.out) st r hst hr).mono ?_
      rintro e w3 ⟨rfl, M3⟩
      have hto := nextN_lt S st (numI S.conv.sgn r)
      generalize nextN S st (numI S.conv.sgn r) = to at hto HR
      have M3 := M2.out.trans M3
      have hxl : st ^^^ to < 256 := Nat.xor_lt_two_pow (n := 8) hst (by omega)
      have ex : bits .xor .u8 (st : Int) (to : Int) = ((st ^^^ to : Nat) : Int) := u8_xor_nat _ _ hst (by omega)
      clear ea e1 x14 BB M2
      go_wp2_with fail
      go_loopw [10, 27] (fun d i wr => ∃ k : Nat, k ≤ 6 ∧ i = .int .i64 k ∧ OwnChg wr w.heap.size d (chL st to k) ∧ Mods [] w wr) (fun _ i _ => 6 - (intOf i).toNat)
      case atStart => exact ⟨0, by omega, rfl, OwnChg.nil _ _, M3⟩
      case round =>
        obtain ⟨k, hk, rfl, O, M⟩ := hrel
        clear M3
        by_cases hlt : k < 6
        · have hz := M.size
          have hln := chL_length st to k
          have b8 := bit8 hxl k
          have HC := Lib.hid (show chL st to (k + 1) = chL st to k ++ (if (st ^^^ to).testBit k then [⟨k, to.testBit k⟩] else []) from rfl)
          cases hb : (st ^^^ to).testBit k with
          | false =>
            rw [hb] at b8
            have b9 : (bits .and .u8 (((st ^^^ to : Nat) : Int) / 2 ^ k) 1 == 1) = false := by rw [b8]; rfl
            rw [hb] at HC
            have HC := Lib.hid (show chL st to (k + 1) = chL st to k by rw [HC.out]; simp)
            clear hb b8
            go_wp2_with fail
            exact ⟨⟨k + 1, by omega, by go_num, by rw [HC.out]; exact O, M⟩, by simp only [intOf]; omega⟩
          | true =>
            rw [hb] at b8
            have b9 : (bits .and .u8 (((st ^^^ to : Nat) : Int) / 2 ^ k) 1 == 1) = true := by rw [b8]; rfl
            rw [hb] at HC
            have HC2 := Lib.hid (show chL st to (k + 1) = chL st to k ++ [⟨k, to.testBit k⟩] by rw [HC.out]; simp)
            clear HC
            have t8 := bit8 (m := to) (by omega) k
            obtain ⟨tb1, htb⟩ : ∃ tb1, tb1 = to.testBit k := ⟨_, rfl⟩
            rw [← htb] at t8 HC2
            have t9 : (bits .and .u8 ((to : Int) / 2 ^ k) 1 == 1) = tb1 := by rw [t8]; cases tb1 <;> rfl
            clear hb b8 t8 htb
            go_wp2_with (at_builtin; refine wpList_pushC rfl (.tmp 37) (.tmp 45) rfl w.heap.size _ (chL st to k) (by rfl) (O.mods0 (Mods.refl.alloc _)) wr.heap.size ⟨k, tb1⟩ _ _ (heap_alloc_new wr _) (by rfl) (by omega) (by simp; omega) ?_)
            intro v' w5 O5 M5
            have M5 := Lib.hid ((M.alloc _).then_from M5 (Nat.le_refl _))
            have O5 := Lib.hid O5
            clear O
            go_wp2
            exact ⟨⟨k + 1, by omega, by go_num, by rw [HC2.out]; exact O5.out, M5.out⟩, by simp only [intOf]; omega⟩
        · have hk6 : k = 6 := by omega
          subst hk6
          go_wp2
          go_ret3
          exact ⟨_, by rw [HR.out]; rfl, by rw [HR.out]; exact O, M⟩
    · have HR := Lib.hid (show stepN S P st r = (0, [], 2) by simp [stepN, ha, hx])
      have e1 : (((st &&& (255 - S.mask) : Nat) : Int) != 0) = true := by simp only [bne_iff_ne, ne_eq, Int.natCast_eq_zero]; exact hx
      clear ha hx
      go_wp2_with fail
      go_ret3
      exact ⟨_, by rw [HR.out]; rfl, by rw [HR.out]; exact OwnChg.nil _ _, M2.out⟩
end Go.Proofs.YtijjkonephjodaaGreatDoor

namespace Go.Proofs.YtijjkonephjodaaGreatDoor
open Go.RowKit

/-- The sensor lies in block g; neither it nor its points lie in the dice's block b. -/
structure Sn (w : World) (b g : Nat) (S : Sen) (P : List Pt) : Prop where
  box : SenBox w g S
  sen : IsSen w S P
  gb : g ≠ b
  far : ∀ q, S.conv.pts.ownBlock = some q → q ≠ b ∧ q ≠ g
theorem Sn.mods0 {w w' : World} {b g : Nat} {S : Sen} {P : List Pt} (h : Sn w b g S P) (M : Mods [] w w') : Sn w' b g S P := ⟨h.box.mods0 M, h.sen.mods0 M, h.gb, h.far⟩
theorem Sn.dice {w w' : World} {b g : Nat} {S : Sen} {P : List Pt} (h : Sn w b g S P) (M : Mods [b] w w') : Sn w' b g S P := ⟨h.box.mods M (by simpa using h.gb), h.sen.mods M (fun _ q hq => by simpa using (h.far q hq).1), h.gb, h.far⟩
theorem fresh {w w' : World} {o : Obj} (M : Mods [w.heap.size] (w.alloc o) w') : Mods [] w w' := (Mods.refl.alloc o).comp M fun k hk => by simp at hk; subst hk; exact .inr (Nat.le_refl _)
/-- A sensor made, stored into a new block. -/
theorem Sn.made {w1 w2 w4 : World} {b n : Nat} {v : Value} {L : List Int} {S : Sen} {P : List Pt} {o : Obj} (hb : b < w1.heap.size) (IS : IsSen w2 S P) (OP : OwnPts w2 w1.heap.size S.conv.pts P) (D2 : IsDice w2 b v L n)
    (R4 : w4.heap[w2.heap.size]? = some (.cells S.cells 40 (0, 0))) (M4 : Mods [w2.heap.size] (w2.alloc o) w4) : Sn w4 b w2.heap.size S P ∧ IsDice w4 b v L n ∧ Mods [] w2 w4 := by
  have M := fresh M4
  have := D2.lt
  exact ⟨⟨⟨R4⟩, IS.mods0 M, by omega, fun q hq => by have := OP.own q hq; constructor <;> omega⟩, D2.mods0 M, M⟩
/-- Without hysteresis. -/
def Sen.plain (S : Sen) : Sen := { S with hl := 0, hu := 0 }
theorem Sn.plain {w : World} {b g : Nat} {S : Sen} {P : List Pt} (h : Sn w b g S P) : Sn ((w.setCell ⟨g, 21, none⟩ (.int .u8 0)).setCell ⟨g, 22, none⟩ (.int .u8 0)) b g S.plain P :=
  ⟨⟨heap_setCell (heap_setCell h.box.blk)⟩, { (h.sen.mods ((Mods.refl (S := [g])).setCell (p := ⟨g, 21, none⟩) (.inl (by simp)) (.int .u8 0) |>.setCell (p := ⟨g, 22, none⟩) (.inl (by simp)) (.int .u8 0)) (fun _ q hq => by simpa using (h.far q hq).2)) with hl := (by decide : 0 < 256), hu := (by decide : 0 < 256) }, h.gb, h.far⟩
theorem ana_plain {S : Sen} {P : List Pt} (h : anaB S P = true) : anaB S.plain P = true := by
  cases hd : S.disc with
  | true => rw [anaB, hd] at h; cases h
  | false =>
    have hd2 : S.plain.disc = false := hd
    have e : analogB S.plain P = analogB S P := rfl
    rw [anaB, validB, hd] at h
    rw [anaB, validB, hd2, if_neg (by simp), e]
    rw [if_neg (by simp)] at h
    exact h
end Go.Proofs.YtijjkonephjodaaGreatDoor
