/- Joined texts. A struct that is read whole in a region that draws its order: it yields in every world that holds its block. | The dice's OddConversion: contract. | The dice's OddSensor: contract. | Changes applied one after the other: the plain laws. No program stands here. | discrete.Step and discrete.Apply: contracts. | discrete.Apply: contract. | The reference's Step and Apply of discrete sensors, SameChanges: contracts. | The reference's Step of discrete sensors: contract. -/
import Derived.Test.YtijjkonephjodaaGreatDoorJoAB
import Derived.Deep.RegionHeld3
import Derived.Test.YtijjkonephjodaaGreatDoorJoAD
import Derived.Deep.RegionLaw
import Derived.Test.YtijjkonephjodaaGreatDoorJoAA
import Derived.Test.YtijjkonephjodaaGreatDoorJoAC
import Derived.BigQuiet
namespace Go.Proofs.YtijjkonephjodaaGreatDoor
open Go.RowKit

theorem yieldsIf_load_row {P : Program} {ops : Array Oper} {S : World → Prop} {o : Oper} {a : Act} (hgd : o.guard = none) (ty : TypeId) (x : Operand) (ho : o.op = .load ty x)
    (g : Nat) (hx : a.eval x = .pointer (some ⟨g, 0, none⟩)) (t : TypeId) (cs : Array Value) (fr : Nat × Nat) (d : TypeDesc) (hg : ∀ w, S w → w.heap[g]? = some (.cells cs t fr))
    (hu : P.underlying ty = some d) (hd : (match d with | .struct _ | .array _ _ => true | _ => false) = true) (hi : (P.info? ty).map (·.size) = some cs.size) : YieldsIf P ops S o (.agg cs) a := by
  refine .inl ⟨by simp [Region.wanted, hgd], fun w hS => ?_⟩
  unfold execOp
  simp only [ho, hx, Instr.loadAt, Instr.sureAddr, Sem.run_bind, Sem.run_pure, Result.andThen_ok, run_loadVar_row w g t ty cs fr d (hg w hS) hu hd hi]
/-- The beginning, the number of the operations told. -/
theorem heldStart {P : Program} {l : List Oper} {S : World → Prop} {Q : Exit → Act → World → Prop} {id : Nat} {a : Act} {w : World} (n : Nat) (hn : l.length = n) (hm : P.follows .mixedOrders = true) (hS : S w.drew)
    (h : S w.drew → wpAnyH P .any l.toArray Q S n (Array.replicate n false) a w.drew) : (Code.region id l.toArray true).wp P Q a w := by
  refine wp_region_held_drew hm hS fun hS => ?_
  have := h hS
  rw [← hn] at this
  simpa using this
/-- A take, the slot told. -/
theorem takeD {P : Program} {ops : Array Oper} {md : Region.Mode} {S : World → Prop} {Q : Exit → Act → World → Prop} {i d : Nat} {oi : Oper} {v : Value} {fuel : Nat} {listed : Array Bool} {a : Act} {w : World} (hi : ops[i]? = some oi) (hd : oi.dst = some d)
    (hs : Region.noSelect ops = true) (hf : Region.free md ops listed i = true) (hr : (Region.ready md ops listed).contains i = true)
    (hQ : ∀ c a w, Q (.panic c) (a.put oi.dst v) w → Q (.panic c) a w) (hy : YieldsIf P ops S oi v a) (hS : S w)
    (h : wpAnyH P md ops Q S fuel (listed.setIfInBounds i true) { a with tmps := a.tmps.setIfInBounds d v } w) : wpAnyH P md ops Q S (fuel + 1) listed a w :=
  wpAnyH_take hi hs hf hr hQ hy hS (by unfold Act.put; rw [hd]; exact h)
end Go.Proofs.YtijjkonephjodaaGreatDoor

namespace Go.Proofs.YtijjkonephjodaaGreatDoor
open Go.RowKit

/-- append of one point within a region that draws its order; where the new row lies. -/
theorem step_pushP2 {ops : Array Oper} {o : Oper} {a : Act} {w : World} {K : Act → World → Prop} {Q : Exit → Act → World → Prop} {E : Prop} (hgd : o.guard = none) (s x : Operand)
    (ho : o.op = .call { callee := .builtin .append, args := #[s, x], argTypes := #[32, 32] })
    (B : Nat) (v : Value) (P : List Pt) (hs : a.eval s = v) (hown : OwnPts w B v P) (g : Nat) (p : Pt) (T : TypeId) (fr : Nat × Nat) (hg : w.heap[g]? = some (.cells #[.int .u8 p.raw, .int .i64 p.val] T fr)) (hx : a.eval x = .slice (some ⟨g, 0, none⟩) 1 1)
    (hn : P.length ≤ 1000000) (hbase : B ≤ w.heap.size)
    (h : ∀ g' cap w', OwnPts w' B (.slice (some ⟨g', 0, none⟩) (P.length + 1) cap) (P ++ [p]) → Mods v.ownBlock.toList w w' → (v.ownBlock = some g' ∨ g' = w.heap.size) → K (a.put o.dst (.slice (some ⟨g', 0, none⟩) (P.length + 1) cap)) w') :
    if Region.wanted o (yielded ops a.tmps) = true then Oper.wp Tryz.prog o a w K Q else E := by
  obtain ⟨i0, hi, hz0, hz1, hz2⟩ := info_parts Tryz.infoP
  refine step_append_lies _ hgd s x _ ho B 117 i0 _ 2 16 Tryz.underlying32 hi hz0 hz1 hz2 rfl (by decide) v P.length (ptsCells P) hs hown ⟨g, 0, none⟩ 1 1 [.int .u8 p.raw, .int .i64 p.val] hx rfl ?_ (by intro u hu; simp at hu; rcases hu with rfl | rfl <;> rfl) (by decide) (by unfold maxLen; omega) (by omega) hbase w.heap.size rfl ?_
  · intro j u hj
    exact World.news_of_block (cs := #[.int .u8 p.raw, .int .i64 p.val]) (t := T) (fr := fr) hg j u hj
  · intro g' cap w' h1 h2 h3 _
    refine h _ _ _ ?_ (Mods.of_grown h2) h3
    unfold OwnPts
    rw [ptsCells_snoc, List.length_append]
    exact h1
theorem ptsCells_set (P : List Pt) (x : Int) : ∀ j, j < P.length → ptsCells (P.set j ⟨(P.getD j default).raw, x⟩) = (ptsCells P).set (j * 2 + 1) (.int .i64 x) := by
  induction P with
  | nil => intro j h; simp at h
  | cons p P ih =>
    intro j h
    match j with
    | 0 => rfl
    | j + 1 =>
      have := ih j (by simpa using h)
      have e : ∀ (q : Pt) (Q : List Pt), ptsCells (q :: Q) = .int .u8 q.raw :: .int .i64 q.val :: ptsCells Q := fun _ _ => rfl
      rw [List.set_cons_succ, e, e, show (j + 1) * 2 + 1 = (j * 2 + 1) + 1 + 1 by omega, List.set_cons_succ, List.set_cons_succ, List.getD_cons_succ, this]
/-- One value is turned. -/
theorem OwnPts.setVal {w : World} {B g cap : Nat} {P : List Pt} (h : OwnPts w B (.slice (some ⟨g, 0, none⟩) P.length cap) P) {j : Nat} (hj : j < P.length) (x : Int) :
    OwnPts (w.setCell ⟨g, j * 2 + 1, none⟩ (.int .i64 x)) B (.slice (some ⟨g, 0, none⟩) P.length cap) (P.set j ⟨(P.getD j default).raw, x⟩) := by
  obtain ⟨hl, h⟩ := h
  refine ⟨by rw [ptsCells_set P x j hj]; simpa using hl, ?_⟩
  rcases h with ⟨h, _⟩ | ⟨g', cap', cur, he, hB, hg, h1, h2, h3, h4⟩
  · cases h
  · have he2 := he
    injection he2 with e1 e2 e3
    injection e1 with e1
    injection e1 with e1
    subst e1 e3
    refine .inr ⟨g, cap, cur.setIfInBounds (j * 2 + 1) (.int .i64 x), by rw [List.length_set], hB, heap_setCell hg, by rw [List.length_set]; exact h1, h2, by simpa using h3, ?_⟩
    rw [ptsCells_set P x j hj, ← h4, List.length_set, Array.toList_setIfInBounds, List.take_set]
/-- A conversion under way: its block, the result's block, its points. -/
structure CB (w0 w : World) (b : Nat) (v : Value) (L : List Int) (n gr gc : Nat) (C : Conv) (P : List Pt) : Prop where
  bl : Bld w0 w b v L n 34 gr gc (cvC 0 false 0 0 0 0 (.slice none 0 0)) C.cells
  own : OwnPts w w0.heap.size C.pts P
  far : ∀ q, C.pts.ownBlock = some q → q ≠ b ∧ q ≠ gr ∧ q ≠ gc
theorem CB.dice {w0 w w' : World} {b n n' gr gc : Nat} {v : Value} {L : List Int} {C : Conv} {P : List Pt} (h : CB w0 w b v L n gr gc C P) (D : IsDice w' b v L n') (M : Mods [b] w w') : CB w0 w' b v L n' gr gc C P :=
  ⟨h.bl.dice D M, M.owns h.own fun q hq => by simpa using (h.far q hq).1, h.far⟩
theorem CB.mods0 {w0 w w' : World} {b n gr gc : Nat} {v : Value} {L : List Int} {C : Conv} {P : List Pt} (h : CB w0 w b v L n gr gc C P) (M : Mods [] w w') : CB w0 w' b v L n gr gc C P := h.dice (h.bl.D.mods0 M) M.nil
theorem CB.set {w0 w : World} {b n gr gc : Nat} {v : Value} {L : List Int} {C C' : Conv} {P : List Pt} (h : CB w0 w b v L n gr gc C P) (i : Nat) (u : Value) (hC : C.cells.setIfInBounds i u = C'.cells) (hp : C'.pts = C.pts) : CB w0 (w.setCell ⟨gc, i, none⟩ u) b v L n gr gc C' P :=
  ⟨hC ▸ h.bl.set i u, by rw [hp]; exact ((Mods.refl (S := [gc])).setCell (p := ⟨gc, i, none⟩) (.inl (by simp)) u).owns h.own (fun q hq => by simpa using (h.far q hq).2.2), by rw [hp]; exact h.far⟩
/-- A conversion of the dice, often not valid. -/
def MadeOddC (w : World) (b : Nat) (v : Value) (L : List Int) (e : Ending) (w' : World) : Prop :=
  ∃ (C : Conv) (P : List Pt) (n : Nat), e = .returned (.agg C.cells) ∧ IsConv w' C P ∧ OwnPts w' w.heap.size C.pts P ∧ P.length ≤ 13 ∧ IsDice w' b v L n ∧ Mods [b] w w'
/-- What is asked of a conversion's numbers. -/
def CNums (C : Conv) (P : List Pt) : Prop := PtsOk P ∧ I64 C.form ∧ I64 C.m ∧ I64 C.b ∧ I64 C.k1 ∧ I64 C.k2
set_option maxRecDepth 100000 in
set_option maxHeartbeats 4000000 in
theorem oddConversion_ok (w : World) (b : Nat) (v : Value) (L : List Int) (n : Nat) (h : IsDice w b v L n) :
    Calls Tryz.prog 61 #[.pointer (some ⟨b, 0, none⟩)] w fun e w' => MadeOddC w b v L e w' := by
  have hbl := h.lt
  have H := Lib.hid h
  have hv := Lib.hid h.vlt
  clear h
  go_enter Tryz.func61, Tryz.ntmps61
  go_wp2_with fail
  change Calls _ _ _ (w.alloc (.cells (cvC 0 false 0 0 0 0 (.slice none 0 0)) 34)) _
  have M1 := (Mods.refl (S := []) (w := w)).alloc (.cells (cvC 0 false 0 0 0 0 (.slice none 0 0)) 34)
  have R1 := heap_alloc_new w (.cells (cvC 0 false 0 0 0 0 (.slice none 0 0)) 34)
  have Z1 : (w.alloc (.cells (cvC 0 false 0 0 0 0 (.slice none 0 0)) 34)).heap.size = w.heap.size + 1 := by simp
  generalize w.alloc (.cells (cvC 0 false 0 0 0 0 (.slice none 0 0)) 34) = w1 at M1 R1 Z1 ⊢
  generalize hgr : w.heap.size = gr at R1 Z1 hbl ⊢
  have HGR := Lib.hid hgr
  clear hgr
  have D1 := H.out.mods0 M1
  refine (conversion_ok w1 b v L n D1).mono ?_
  rintro e w2 ⟨C, P, n2, rfl, IC, CV, OC, PL, D2, M2⟩
  have hone := Lib.hid IC.rd.one
  have HIC := Lib.hid (show CNums C P from ⟨IC.pok, IC.form, IC.m, IC.b, IC.k1, IC.k2⟩)
  have z2 := M2.size
  have HCB : Hid (∀ W, W.heap[w2.heap.size]? = some (.cells C.cells 34 (0, 0)) → Mods [w2.heap.size] (w2.alloc (.cells (cvC 0 false 0 0 0 0 (.slice none 0 0)) 34)) W → CB w W b v L n2 gr w2.heap.size C P) := Lib.hid (fun W R M => by
    have MF := fresh M
    have hb2 := D2.lt
    refine ⟨⟨D2.mods0 MF, (M1.nil.trans M2).comp0 MF, MF.heap (M2.heap R1 (by simp; omega)) (by simp), R, by have := HGR.out; omega, by have := HGR.out; omega, by have := HGR.out; omega, by omega, hv.out⟩, OwnPts.down (MF.owns OC (by simp)) (by have := HGR.out; omega), fun q hq => by have := OC.own q hq; refine ⟨?_, ?_, ?_⟩ <;> omega⟩)
  clear IC CV OC D2 M2 M1 R1 D1 Z1
  have hPL := Lib.hid (show P.length ≤ 13 by omega)
  go_wp2_with (refine wpList_store_row (cs := C.cells) rfl 34 (.tmp 3) (.tmp 5) rfl (heap_alloc_new w2 _) (by rfl) (by rfl) (by rfl) Tryz.infoC (Conv.one _ hone.out) ?_; intro w4 R4 M4; have HB := Lib.hid (HCB.out w4 R4 M4); clear M4 R4)
  clear HCB z2
  generalize w2.heap.size = gc at HB ⊢
  refine (next_ok w4 b v L _ HB.out.bl.D 8 (by omega) (by omega)).mono ?_
  rintro e w5 ⟨k, n5, rfl, k0, k1, D5, M5⟩
  have HB := Lib.hid (HB.out.dice D5 M5)
  clear D5 M5
  rcases (show k = 0 ∨ k = 1 ∨ k = 2 ∨ k = 3 ∨ k = 4 ∨ k = 5 ∨ k = 6 ∨ k = 7 by omega) with rfl | rfl | rfl | rfl | rfl | rfl | rfl | rfl
  · skip
    go_wp2_with fail
    refine (next_ok w5 b v L _ HB.out.bl.D 8 (by omega) (by omega)).mono ?_
    rintro e w7 ⟨r, n7, rfl, r0, r1, D7, M7⟩
    have HB := Lib.hid (HB.out.dice D7 M7)
    clear D7 M7
    have cx : w7.cell? ⟨gc, 0, none⟩ = some (.int .i64 C.form) := HB.out.bl.c 0
    have fx : w7.frozen? ⟨gc, 0, none⟩ = false := HB.out.bl.f 0
    have HB : Hid (CB w (w7.setCell ⟨gc, 0, none⟩ (.int .i64 (r - 1))) b v L n7 gr gc { C with form := r - 1 } P) := Lib.hid (HB.out.set 0 (.int .i64 (r - 1)) rfl rfl)
    have HIN : Hid (CNums { C with form := r - 1 } P) := Lib.hid (by
      have ⟨i1, i2, i3, i4, i5, i6⟩ := HIC.out
      have hr : I64 (r - 1) := by constructor <;> omega
      exact ⟨i1, hr, i3, i4, i5, i6⟩)
    go_wp2_with (first
      | (refine wpList_load_row rfl 34 (.tmp 3) rfl gc (by rfl) _ _ _ _ HB.out.bl.G Tryz.underlying34 rfl Tryz.infoC ?_)
      | (refine wpList_store_row (cs := Conv.cells {C with form:=r-1}) rfl 34 (.tmp 2) (.tmp 53) rfl HB.out.bl.R (by rfl) (by rfl) (by rfl) Tryz.infoC (Conv.one _ HB.out.own.rd.one) ?_; intro w39 R39 M39))
    have HF := HB.out.bl.fin R39 M39
    have HO : OwnPts w39 w.heap.size (Conv.pts {C with form:=r-1}) P := M39.owns HB.out.own (fun q hq => by simpa using (HB.out.far q hq).2.1)
    refine bodyPost_ret (results_cell_row rfl _ _ gr _ _ _ _ rfl HF.R Tryz.underlying34 rfl Tryz.infoC) rfl ?_
    have ⟨i1, i2, i3, i4, i5, i6⟩ := HIN.out
    exact ⟨{C with form:=r-1}, P, _, rfl, ⟨HO.rd, i1, i2, i3, i4, i5, i6⟩, HO, hPL.out, HF.D, HF.M⟩
  · skip
    go_wp2_with fail
    refine (next_ok w5 b v L _ HB.out.bl.D 1100 (by omega) (by omega)).mono ?_
    rintro e w7 ⟨r, n7, rfl, r0, r1, D7, M7⟩
    have HB := Lib.hid (HB.out.dice D7 M7)
    clear D7 M7
    have cx : w7.cell? ⟨gc, 2, none⟩ = some (.int .i64 C.m) := HB.out.bl.c 2
    have fx : w7.frozen? ⟨gc, 2, none⟩ = false := HB.out.bl.f 2
    have HB : Hid (CB w (w7.setCell ⟨gc, 2, none⟩ (.int .i64 (r - 550))) b v L n7 gr gc { C with m := r - 550 } P) := Lib.hid (HB.out.set 2 (.int .i64 (r - 550)) rfl rfl)
    have HIN : Hid (CNums { C with m := r - 550 } P) := Lib.hid (by
      have ⟨i1, i2, i3, i4, i5, i6⟩ := HIC.out
      have hr : I64 (r - 550) := by constructor <;> omega
      exact ⟨i1, i2, hr, i4, i5, i6⟩)
    go_wp2_with (first
      | (refine wpList_load_row rfl 34 (.tmp 3) rfl gc (by rfl) _ _ _ _ HB.out.bl.G Tryz.underlying34 rfl Tryz.infoC ?_)
      | (refine wpList_store_row (cs := Conv.cells {C with m:=r-550}) rfl 34 (.tmp 2) (.tmp 53) rfl HB.out.bl.R (by rfl) (by rfl) (by rfl) Tryz.infoC (Conv.one _ HB.out.own.rd.one) ?_; intro w39 R39 M39))
    have HF := HB.out.bl.fin R39 M39
    have HO : OwnPts w39 w.heap.size (Conv.pts {C with m:=r-550}) P := M39.owns HB.out.own (fun q hq => by simpa using (HB.out.far q hq).2.1)
    refine bodyPost_ret (results_cell_row rfl _ _ gr _ _ _ _ rfl HF.R Tryz.underlying34 rfl Tryz.infoC) rfl ?_
    have ⟨i1, i2, i3, i4, i5, i6⟩ := HIN.out
    exact ⟨{C with m:=r-550}, P, _, rfl, ⟨HO.rd, i1, i2, i3, i4, i5, i6⟩, HO, hPL.out, HF.D, HF.M⟩
  · skip
    go_wp2_with fail
    refine (next_ok w5 b v L _ HB.out.bl.D 10 (by omega) (by omega)).mono ?_
    rintro e w7 ⟨r, n7, rfl, r0, r1, D7, M7⟩
    have HB := Lib.hid (HB.out.dice D7 M7)
    clear D7 M7
    have cx : w7.cell? ⟨gc, 4, none⟩ = some (.int .i64 C.k1) := HB.out.bl.c 4
    have fx : w7.frozen? ⟨gc, 4, none⟩ = false := HB.out.bl.f 4
    have HB : Hid (CB w (w7.setCell ⟨gc, 4, none⟩ (.int .i64 (r - 5))) b v L n7 gr gc { C with k1 := r - 5 } P) := Lib.hid (HB.out.set 4 (.int .i64 (r - 5)) rfl rfl)
    have HIN : Hid (CNums { C with k1 := r - 5 } P) := Lib.hid (by
      have ⟨i1, i2, i3, i4, i5, i6⟩ := HIC.out
      have hr : I64 (r - 5) := by constructor <;> omega
      exact ⟨i1, i2, i3, i4, hr, i6⟩)
    go_wp2_with (first
      | (refine wpList_load_row rfl 34 (.tmp 3) rfl gc (by rfl) _ _ _ _ HB.out.bl.G Tryz.underlying34 rfl Tryz.infoC ?_)
      | (refine wpList_store_row (cs := Conv.cells {C with k1:=r-5}) rfl 34 (.tmp 2) (.tmp 53) rfl HB.out.bl.R (by rfl) (by rfl) (by rfl) Tryz.infoC (Conv.one _ HB.out.own.rd.one) ?_; intro w39 R39 M39))
    have HF := HB.out.bl.fin R39 M39
    have HO : OwnPts w39 w.heap.size (Conv.pts {C with k1:=r-5}) P := M39.owns HB.out.own (fun q hq => by simpa using (HB.out.far q hq).2.1)
    refine bodyPost_ret (results_cell_row rfl _ _ gr _ _ _ _ rfl HF.R Tryz.underlying34 rfl Tryz.infoC) rfl ?_
    have ⟨i1, i2, i3, i4, i5, i6⟩ := HIN.out
    exact ⟨{C with k1:=r-5}, P, _, rfl, ⟨HO.rd, i1, i2, i3, i4, i5, i6⟩, HO, hPL.out, HF.D, HF.M⟩
  · have c6 : w5.cell? ⟨gc, 6, none⟩ = some C.pts := HB.out.bl.c 6
    have hgb : gc ≠ b := by have := HB.out.bl.hb; have := HB.out.bl.hc; omega
    have hgw := HB.out.bl.hc
    have BYT := Lib.hid (byte_ok (w5.drewN 1) b v L n5 (HB.out.bl.D.drewN 1))
    have hpl2 : P.length ≤ 12 := PL
    go_wp2_with fail
    go_region_law (first
      | (go_simp; go_at_call 98; refine (micro_ok w20 b v L n20 HB20.out.bl.D).mono ?_; rintro e w21 ⟨u, n21, rfl, u0, u1, D21, M21⟩; have HB21 := Lib.hid (HB20.out.dice D21 M21); have c6b : w21.cell? ⟨gc, 6, none⟩ = some C.pts := HB21.out.bl.c 6; have c6d : (w21.alloc (.cells #[.int .u8 (r20 : Int), .int .i64 u] 117)).cell? ⟨gc, 6, none⟩ = some C.pts := (Mods.refl (S := [])).alloc _ |>.cell c6b (by simp); clear D21 M21)
      | (go_simp; go_at_call 55; refine BYT.out.mono ?_; rintro e w20 ⟨rr, n20, rfl, rr0, rr1, D20, M20⟩; obtain ⟨r20, rfl⟩ := Int.eq_ofNat_of_zero_le rr0; have hr20 : r20 < 256 := (by omega); have HB20 := Lib.hid ((HB.out.mods0 (Mods.refl.drewN 1)).dice D20 M20); have c6a : w20.cell? ⟨gc, 6, none⟩ = some C.pts := HB20.out.bl.c 6; clear D20 M20)
      | (refine step_pushP2 (by rfl) _ _ (by rfl) w.heap.size C.pts P (by rfl) ((HB21.out.mods0 (by first | exact (Mods.refl.alloc _).drew | exact Mods.refl.alloc _ | exact (Mods.refl.drew).alloc _)).own) w21.heap.size ⟨r20, u⟩ _ _ (heap_alloc_new w21 _) (by rfl) (by omega) (by have := lt_of_block HB21.out.bl.G; simp; omega) ?_; intro g' cap' w22 O22 M22 hg22; have hfar22 := HB21.out.far; have hown22 := HB21.out.own.own; have hz22 := M22.size; have BL22 := Lib.hid ((HB21.out.bl.mods0 (by first | exact (Mods.refl.alloc _).drew | exact Mods.refl.alloc _ | exact (Mods.refl.drew).alloc _)).mods M22 (fun k hk => by cases hq : C.pts.ownBlock with | none => (rw [hq] at hk; simp at hk) | some q => (rw [hq] at hk; simp at hk; subst hk; exact ⟨(hown22 k hq).1, (hfar22 k hq).2⟩))); have FAR22 := Lib.hid (show g' ≠ b ∧ g' ≠ gr ∧ g' ≠ gc from by have h1 := lt_of_block HB21.out.bl.G; have h2 := lt_of_block HB21.out.bl.R; have h3 := HB21.out.bl.D.lt; rcases hg22 with h | h; exact hfar22 g' h; (simp at h; refine ⟨?_, ?_, ?_⟩ <;> omega)); have c6c : w22.cell? ⟨gc, 6, none⟩ = some C.pts := BL22.out.c 6; have f6c : w22.frozen? ⟨gc, 6, none⟩ = false := BL22.out.f 6; have O22 := Lib.hid O22; clear M22 hg22 hfar22 hown22 hz22))
    all_goals
      have HB : Hid (CB w (w22.setCell ⟨gc, 6, none⟩ (.slice (some ⟨g', 0, none⟩) (P.length + 1) cap')) b v L n21 gr gc { C with pts := .slice (some ⟨g', 0, none⟩) (P.length + 1) cap' } (P ++ [⟨r20, u⟩])) := Lib.hid ⟨BL22.out.set 6 _, ((Mods.refl (S := [gc])).setCell (p := ⟨gc, 6, none⟩) (.inl (by simp)) _).owns O22.out (fun q hq => by simp [Value.ownBlock] at hq; subst hq; simpa using FAR22.out.2.2), fun q hq => by simp [Value.ownBlock] at hq; subst hq; exact FAR22.out⟩
      have HIN : Hid (CNums { C with pts := .slice (some ⟨g', 0, none⟩) (P.length + 1) cap' } (P ++ [⟨r20, u⟩])) := Lib.hid (by
        have ⟨i1, i2⟩ := HIC.out
        refine ⟨⟨by simp; omega, fun i => ?_, fun i => ?_⟩, i2⟩
        · rw [getD_snoc]; split
          · exact i1.raw i
          · split
            · exact hr20
            · simp [default]
        · rw [getD_snoc]; split
          · exact i1.val i
          · split
            · exact ⟨by show _ ≤ u; omega, by show u ≤ _; omega⟩
            · simp [default, I64])
      have hPX := Lib.hid (show (P ++ [(⟨r20, u⟩ : Pt)]).length ≤ 13 by simp; omega)
      clear c6 c6a c6b c6d BYT
      go_wp2_with (first
        | (refine wpList_load_row rfl 34 (.tmp 3) rfl gc (by rfl) _ _ _ _ HB.out.bl.G Tryz.underlying34 rfl Tryz.infoC ?_)
        | (refine wpList_store_row (cs := Conv.cells {C with pts:=.slice (some ⟨g',0,none⟩) (P.length+1) cap'}) rfl 34 (.tmp 2) (.tmp 53) rfl HB.out.bl.R (by rfl) (by rfl) (by rfl) Tryz.infoC (Conv.one _ HB.out.own.rd.one) ?_; intro w39 R39 M39))
      have HF := HB.out.bl.fin R39 M39
      have HO : OwnPts w39 w.heap.size (Conv.pts {C with pts:=.slice (some ⟨g',0,none⟩) (P.length+1) cap'}) (P++[⟨r20,u⟩]) := M39.owns HB.out.own (fun q hq => by simpa using (HB.out.far q hq).2.1)
      refine bodyPost_ret (results_cell_row rfl _ _ gr _ _ _ _ rfl HF.R Tryz.underlying34 rfl Tryz.infoC) rfl ?_
      have ⟨i1, i2, i3, i4, i5, i6⟩ := HIN.out
      exact ⟨{C with pts:=.slice (some ⟨g',0,none⟩) (P.length+1) cap'}, (P++[⟨r20,u⟩]), _, rfl, ⟨HO.rd, i1, i2, i3, i4, i5, i6⟩, HO, hPX.out, HF.D, HF.M⟩
  · by_cases hz : P.length = 0
    · obtain ⟨ad, cap, hpts⟩ := HB.out.own.rd.len
      have c6 : w5.cell? ⟨gc, 6, none⟩ = some (.slice ad P.length cap) := by rw [← hpts]; exact HB.out.bl.c 6
      have d0 : decide ((0 : Int) < (P.length : Int)) = false := decide_eq_false (by omega)
      have HIN := HIC
      clear hpts
      go_wp2_with (first
        | (refine wpList_load_row rfl 34 (.tmp 3) rfl gc (by rfl) _ _ _ _ HB.out.bl.G Tryz.underlying34 rfl Tryz.infoC ?_)
        | (refine wpList_store_row (cs := Conv.cells C) rfl 34 (.tmp 2) (.tmp 53) rfl HB.out.bl.R (by rfl) (by rfl) (by rfl) Tryz.infoC (Conv.one _ HB.out.own.rd.one) ?_; intro w39 R39 M39))
      have HF := HB.out.bl.fin R39 M39
      have HO : OwnPts w39 w.heap.size (Conv.pts C) P := M39.owns HB.out.own (fun q hq => by simpa using (HB.out.far q hq).2.1)
      refine bodyPost_ret (results_cell_row rfl _ _ gr _ _ _ _ rfl HF.R Tryz.underlying34 rfl Tryz.infoC) rfl ?_
      have ⟨i1, i2, i3, i4, i5, i6⟩ := HIN.out
      exact ⟨C, P, _, rfl, ⟨HO.rd, i1, i2, i3, i4, i5, i6⟩, HO, hPL.out, HF.D, HF.M⟩
    · obtain ⟨g, cap, hpts⟩ := HB.out.own.form (by omega)
      have c6 : w5.cell? ⟨gc, 6, none⟩ = some (.slice (some ⟨g, 0, none⟩) P.length cap) := by rw [← hpts]; exact HB.out.bl.c 6
      have d0 : decide ((0 : Int) < (P.length : Int)) = true := decide_eq_true (by omega)
      have hgb : gc ≠ b := by have := HB.out.bl.hb; have := HB.out.bl.hc; omega
      have HPT := Lib.hid hpts
      have HFR := Lib.hid (HB.out.far g (by rw [hpts]; rfl))
      have HGB := Lib.hid ((HB.out.own.own g (by rw [hpts]; rfl)).1)
      have hpl2 : P.length ≤ 12 := PL
      clear hpts
      go_wp2_with fail
      have NX := Lib.hid (next_ok (w5.drewN 1) b v L n5 (HB.out.bl.D.drewN 1) (P.length : Int) (by omega) (by omega))
      refine heldStart (S := fun W => W.cell? ⟨gc, 6, none⟩ = some (.slice (some ⟨g, 0, none⟩) P.length cap)) 10 rfl (by kernel_rfl) c6 (fun hHeld => ?_)
      refine takeD (i := 0) (d := 44) (v := ?_) rfl rfl (by kernel_rfl) (by kernel_rfl) (by kernel_rfl) (fun _ _ _ h => h) (Or.inl ⟨by rfl, ?_⟩) hHeld ?_
      rotate_left 1
      · (intro w hSw; (try dsimp only at hSw); go_simp; (try with_reducible rfl))
      simp only [List.setIfInBounds_toArray, List.set_cons_zero, List.set_cons_succ]
      refine takeD (i := 1) (d := 45) (v := ?_) rfl rfl (by kernel_rfl) (by kernel_rfl) (by kernel_rfl) (fun _ _ _ h => h) (Or.inl ⟨by rfl, ?_⟩) hHeld ?_
      rotate_left 1
      · (intro w hSw; (try dsimp only at hSw); go_simp; (try with_reducible rfl))
      simp only [List.setIfInBounds_toArray, List.set_cons_zero, List.set_cons_succ]
      refine takeD (i := 2) (d := 46) (v := ?_) rfl rfl (by kernel_rfl) (by kernel_rfl) (by kernel_rfl) (fun _ _ _ h => h) (Or.inl ⟨by rfl, ?_⟩) hHeld ?_
      rotate_left 1
      · (intro w hSw; (try dsimp only at hSw); go_simp; (try with_reducible rfl))
      simp only [List.setIfInBounds_toArray, List.set_cons_zero, List.set_cons_succ]
      refine takeD (i := 3) (d := 47) (v := ?_) rfl rfl (by kernel_rfl) (by kernel_rfl) (by kernel_rfl) (fun _ _ _ h => h) (Or.inl ⟨by rfl, ?_⟩) hHeld ?_
      rotate_left 1
      · (intro w hSw; (try dsimp only at hSw); go_simp; (try with_reducible rfl))
      simp only [List.setIfInBounds_toArray, List.set_cons_zero, List.set_cons_succ]
      refine takeD (i := 4) (d := 48) (v := ?_) rfl rfl (by kernel_rfl) (by kernel_rfl) (by kernel_rfl) (fun _ _ _ h => h) (Or.inl ⟨by rfl, ?_⟩) hHeld ?_
      rotate_left 1
      · (intro w hSw; (try dsimp only at hSw); go_simp; (try with_reducible rfl))
      simp only [List.setIfInBounds_toArray, List.set_cons_zero, List.set_cons_succ]
      refine takeD (i := 5) (d := 49) (v := ?_) rfl rfl (by kernel_rfl) (by kernel_rfl) (by kernel_rfl) (fun _ _ _ h => h) (Or.inl ⟨by rfl, ?_⟩) hHeld ?_
      rotate_left 1
      · (intro w hSw; (try dsimp only at hSw); go_simp; (try with_reducible rfl))
      simp only [List.setIfInBounds_toArray, List.set_cons_zero, List.set_cons_succ]
      refine wpAnyH_ready (rs := [6]) (by kernel_rfl) (by simp) ?_
      refine AllReadyH.cons rfl (fun K hK => ?_) AllReadyH.nil
      go_simp
      go_wp2_with (go_at_call 24; refine NX.out.mono ?_; rintro e w7 ⟨j', n7, rfl, j0, j1, D7, M7⟩)
      refine hK.out _ _ ?_ (fun hHeld => ?_)
      · exact M7.cell hHeld (by simpa using hgb)
      clear hK K
      obtain ⟨j, rfl⟩ := Int.eq_ofNat_of_zero_le j0
      have hj : j < P.length := by omega
      have HB7 := Lib.hid ((HB.out.mods0 (Mods.refl.drewN 1)).dice D7 M7)
      have hrd := HB7.out.own.rd
      rw [HPT.out] at hrd
      obtain ⟨_, _, he, _, _, hc⟩ := hrd
      injection he with e1 e2 e3
      subst e1
      obtain ⟨_, _, he2, _, x1⟩ := hc j hj
      injection he2 with he2
      injection he2 with he3 he4
      subst he3 he4
      clear hc D7 M7 NX
      have x1b : w7.cell? ⟨g, j * 2 + 1, none⟩ = some (.int .i64 (P.getD j default).val) := by rw [← x1]; simp
      have f1 : w7.frozen? ⟨g, j * 2 + 1, none⟩ = false := by
        have := HB7.out.own
        rw [HPT.out] at this
        rcases this.2 with ⟨h, _⟩ | ⟨g', _, _, h, _, hg, _⟩
        · cases h
        · injection h with h; injection h with h; injection h with h; subst h; exact froz_blk hg _
      refine takeD (i := 7) (d := 51) (v := ?_) rfl rfl (by kernel_rfl) (by kernel_rfl) (by kernel_rfl) (fun _ _ _ h => h) (Or.inl ⟨by rfl, ?_⟩) hHeld ?_
      rotate_left 1
      · (intro w hSw; (try dsimp only at hSw); go_simp; (try with_reducible rfl))
      simp only [List.setIfInBounds_toArray, List.set_cons_zero, List.set_cons_succ]
      refine takeD (i := 8) (d := 52) (v := ?_) rfl rfl (by kernel_rfl) (by kernel_rfl) (by kernel_rfl) (fun _ _ _ h => h) (Or.inl ⟨by rfl, ?_⟩) hHeld ?_
      rotate_left 1
      · (intro w hSw; (try dsimp only at hSw); go_simp; (try with_reducible rfl))
      simp only [List.setIfInBounds_toArray, List.set_cons_zero, List.set_cons_succ]
      have HBN : Hid (CB w (w7.setCell ⟨g, j * 2 + 1, none⟩ (.int .i64 1000000000001)) b v L n7 gr gc C (P.set j ⟨(P.getD j default).raw, 1000000000001⟩)) := Lib.hid ⟨HB7.out.bl.mods ((Mods.refl (S := [g])).setCell (p := ⟨g, j * 2 + 1, none⟩) (.inl (by simp)) _) (fun q hq => by simp at hq; subst hq; exact ⟨HGB.out, HFR.out.2⟩),
        by
          have := HB7.out.own
          rw [HPT.out] at this ⊢
          exact this.setVal hj _, HB7.out.far⟩
      refine wpAnyH_ready (rs := [9]) (by kernel_rfl) (by simp) ?_
      refine AllReadyH.cons rfl (fun K hK => ?_) AllReadyH.nil
      go_simp
      refine hK.out _ _ ?_ (fun hHeld => ?_)
      · have := HBN.out.bl.c 6; rw [this]; exact congrArg some HPT.out
      clear hK K
      refine wpAnyH_done (by kernel_rfl) ?_ _
      have HB := HBN
      have HIN : Hid (CNums C (P.set j ⟨(P.getD j default).raw, 1000000000001⟩)) := Lib.hid (by
        have ⟨i1, i2⟩ := HIC.out
        have hg : ∀ i, (P.set j ⟨(P.getD j default).raw, 1000000000001⟩).getD i default = P.getD i default ∨ (P.set j ⟨(P.getD j default).raw, 1000000000001⟩).getD i default = ⟨(P.getD j default).raw, 1000000000001⟩ := fun i => by
          simp only [List.getD_eq_getElem?_getD, List.getElem?_set]
          split
          · subst_vars; exact .inr rfl
          · exact .inl rfl
        refine ⟨⟨by simp; omega, fun i => ?_, fun i => ?_⟩, i2⟩
        · rcases hg i with h | h <;> rw [h]
          · exact i1.raw i
          · exact i1.raw j
        · rcases hg i with h | h <;> rw [h]
          · exact i1.val i
          · exact (⟨by decide, by decide⟩ : I64 1000000000001))
      have hPX := Lib.hid (show (P.set j ⟨(P.getD j default).raw, 1000000000001⟩).length ≤ 13 by simp; omega)
      clear x1 x1b f1 c6 hHeld
      go_wp2_with (first
        | (refine wpList_load_row rfl 34 (.tmp 3) rfl gc (by rfl) _ _ _ _ HB.out.bl.G Tryz.underlying34 rfl Tryz.infoC ?_)
        | (refine wpList_store_row (cs := Conv.cells C) rfl 34 (.tmp 2) (.tmp 53) rfl HB.out.bl.R (by rfl) (by rfl) (by rfl) Tryz.infoC (Conv.one _ HB.out.own.rd.one) ?_; intro w39 R39 M39))
      have HF := HB.out.bl.fin R39 M39
      have HO : OwnPts w39 w.heap.size (Conv.pts C) (P.set j ⟨(P.getD j default).raw,1000000000001⟩) := M39.owns HB.out.own (fun q hq => by simpa using (HB.out.far q hq).2.1)
      refine bodyPost_ret (results_cell_row rfl _ _ gr _ _ _ _ rfl HF.R Tryz.underlying34 rfl Tryz.infoC) rfl ?_
      have ⟨i1, i2, i3, i4, i5, i6⟩ := HIN.out
      exact ⟨C, (P.set j ⟨(P.getD j default).raw,1000000000001⟩), _, rfl, ⟨HO.rd, i1, i2, i3, i4, i5, i6⟩, HO, hPX.out, HF.D, HF.M⟩
  all_goals
    have HIN := HIC
    go_wp2_with (first
      | (refine wpList_load_row rfl 34 (.tmp 3) rfl gc (by rfl) _ _ _ _ HB.out.bl.G Tryz.underlying34 rfl Tryz.infoC ?_)
      | (refine wpList_store_row (cs := Conv.cells C) rfl 34 (.tmp 2) (.tmp 53) rfl HB.out.bl.R (by rfl) (by rfl) (by rfl) Tryz.infoC (Conv.one _ HB.out.own.rd.one) ?_; intro w39 R39 M39))
    have HF := HB.out.bl.fin R39 M39
    have HO : OwnPts w39 w.heap.size (Conv.pts C) P := M39.owns HB.out.own (fun q hq => by simpa using (HB.out.far q hq).2.1)
    refine bodyPost_ret (results_cell_row rfl _ _ gr _ _ _ _ rfl HF.R Tryz.underlying34 rfl Tryz.infoC) rfl ?_
    have ⟨i1, i2, i3, i4, i5, i6⟩ := HIN.out
    exact ⟨C, P, _, rfl, ⟨HO.rd, i1, i2, i3, i4, i5, i6⟩, HO, hPL.out, HF.D, HF.M⟩
end Go.Proofs.YtijjkonephjodaaGreatDoor

namespace Go.Proofs.YtijjkonephjodaaGreatDoor
open Go.RowKit

/-- A sensor under way: its block, the result's block, its points. -/
structure SX (w0 w : World) (b : Nat) (v : Value) (L : List Int) (n gr gc : Nat) (S : Sen) (P : List Pt) : Prop where
  bl : Bld w0 w b v L n 40 gr gc zS.cells S.cells
  own : OwnPts w w0.heap.size S.conv.pts P
  far : ∀ q, S.conv.pts.ownBlock = some q → q ≠ b ∧ q ≠ gr ∧ q ≠ gc
theorem SX.dice {w0 w w' : World} {b n n' gr gc : Nat} {v : Value} {L : List Int} {S : Sen} {P : List Pt} (h : SX w0 w b v L n gr gc S P) (D : IsDice w' b v L n') (M : Mods [b] w w') : SX w0 w' b v L n' gr gc S P :=
  ⟨h.bl.dice D M, M.owns h.own fun q hq => by simpa using (h.far q hq).1, h.far⟩
theorem SX.set {w0 w : World} {b n gr gc : Nat} {v : Value} {L : List Int} {S S' : Sen} {P : List Pt} (h : SX w0 w b v L n gr gc S P) (i : Nat) (u : Value) (hC : S.cells.setIfInBounds i u = S'.cells) (hp : S'.conv.pts = S.conv.pts) : SX w0 (w.setCell ⟨gc, i, none⟩ u) b v L n gr gc S' P :=
  ⟨hC ▸ h.bl.set i u, by rw [hp]; exact ((Mods.refl (S := [gc])).setCell (p := ⟨gc, i, none⟩) (.inl (by simp)) u).owns h.own (fun q hq => by simpa using (h.far q hq).2.2), by rw [hp]; exact h.far⟩
/-- What is asked of a sensor's numbers. -/
structure SNums (S : Sen) (P : List Pt) : Prop where
  conv : CNums S.conv P
  number : S.number < 256
  type : S.type < 256
  unit : S.unit < 256
  name : S.name.size ≤ 1000
  eid : S.eid < 256
  einst : S.einst < 256
  mask : S.mask < 256
  raw : ∀ i, S.raw i < 256
  hl : S.hl < 256
  hu : S.hu < 256
  states : S.states < 65536
  asrt : S.asrt < 65536
  deas : S.deas < 65536
  samples : I64 S.samples
theorem SNums.of {w : World} {S : Sen} {P : List Pt} (h : IsSen w S P) : SNums S P :=
  ⟨⟨h.conv.pok, h.conv.form, h.conv.m, h.conv.b, h.conv.k1, h.conv.k2⟩, h.number, h.type, h.unit, h.name, h.eid, h.einst, h.mask, h.raw, h.hl, h.hu, h.states, h.asrt, h.deas, h.samples⟩
theorem SNums.is {w : World} {S : Sen} {P : List Pt} (h : SNums S P) (hr : RdPts w S.conv.pts P) : IsSen w S P :=
  ⟨⟨hr, h.conv.1, h.conv.2.1, h.conv.2.2.1, h.conv.2.2.2.1, h.conv.2.2.2.2.1, h.conv.2.2.2.2.2⟩, h.number, h.type, h.unit, h.name, h.eid, h.einst, h.mask, h.raw, h.hl, h.hu, h.states, h.asrt, h.deas, h.samples⟩
/-- A sensor of the dice, often not valid. -/
def MadeOddS (w : World) (b : Nat) (v : Value) (L : List Int) (e : Ending) (w' : World) : Prop :=
  ∃ (S : Sen) (P : List Pt) (n : Nat), e = .returned (.agg S.cells) ∧ IsSen w' S P ∧ OwnPts w' w.heap.size S.conv.pts P ∧ P.length ≤ 13 ∧ IsDice w' b v L n ∧ Mods [b] w w'
def alphaA : ByteArray := ⟨#[97, 127]⟩
def Sen.setRaw (S : Sen) (j x : Nat) : Sen := match j with
  | 0 => { S with r0 := x }
  | 1 => { S with r1 := x }
  | 2 => { S with r2 := x }
  | 3 => { S with r3 := x }
  | 4 => { S with r4 := x }
  | _ => { S with r5 := x }
theorem setRaw_cells (S : Sen) {j : Nat} (hj : j < 6) (x : Nat) : S.cells.setIfInBounds (15 + j) (.int .u8 x) = (S.setRaw j x).cells := by
  match j, hj with
  | 0, _ | 1, _ | 2, _ | 3, _ | 4, _ | 5, _ => rfl
theorem setRaw_nums {S : Sen} {P : List Pt} (h : SNums S P) {j : Nat} (hj : j < 6) {x : Nat} (hx : x < 256) : SNums (S.setRaw j x) P := by
  have hr : ∀ i, (S.setRaw j x).raw i < 256 := fun i => by
    have h0 := h.raw i
    match j, hj with
    | 0, _ | 1, _ | 2, _ | 3, _ | 4, _ | 5, _ =>
      unfold Sen.raw at h0 ⊢
      rcases Nat.lt_or_ge i 6 with hi | hi
      · match i, hi with
        | 0, _ | 1, _ | 2, _ | 3, _ | 4, _ | 5, _ => first | exact hx | exact h0
      · rw [List.getD_eq_getElem?_getD, List.getElem?_eq_none (by simpa using hi)]; decide
  match j, hj with
  | 0, _ | 1, _ | 2, _ | 3, _ | 4, _ | 5, _ => exact { h with raw := hr }
set_option maxRecDepth 100000 in
set_option maxHeartbeats 4000000 in
theorem oddSensor_ok (w : World) (b : Nat) (v : Value) (L : List Int) (n : Nat) (h : IsDice w b v L n) :
    Calls Tryz.prog 22 #[.pointer (some ⟨b, 0, none⟩)] w fun e w' => MadeOddS w b v L e w' := by
  have hbl := h.lt
  have H := Lib.hid h
  have hv := Lib.hid h.vlt
  clear h
  go_enter Tryz.func22, Tryz.ntmps22
  go_wp2_with fail
  change Calls _ _ _ (w.alloc (.cells zS.cells 40)) _
  have M1 := (Mods.refl (S := []) (w := w)).alloc (.cells zS.cells 40)
  have R1 := heap_alloc_new w (.cells zS.cells 40)
  have Z1 : (w.alloc (.cells zS.cells 40)).heap.size = w.heap.size + 1 := by simp
  generalize w.alloc (.cells zS.cells 40) = w1 at M1 R1 Z1 ⊢
  generalize hgr : w.heap.size = gr at R1 Z1 hbl ⊢
  have HGR := Lib.hid hgr
  clear hgr
  have D1 := H.out.mods0 M1
  refine (byte_ok w1 b v L n D1).mono ?_
  rintro e wb ⟨num', nb, rfl, nu0, nu1, Db, Mb⟩
  obtain ⟨num, rfl⟩ := Int.eq_ofNat_of_zero_le nu0
  go_wp2_with fail
  refine (sensor_ok wb b v L nb Db num (by omega)).mono ?_
  rintro e w2 ⟨S, P, n2, rfl, IS, VS, OP, PL, SN, D2, M2⟩
  have hone := Lib.hid IS.conv.rd.one
  have HIC := Lib.hid (SNums.of IS)
  have zb := Mb.size
  have z2 := M2.size
  have HSX : Hid (∀ W, W.heap[w2.heap.size]? = some (.cells S.cells 40 (0, 0)) → Mods [w2.heap.size] (w2.alloc (.cells zS.cells 40)) W → SX w W b v L n2 gr w2.heap.size S P) := Lib.hid (fun W R M => by
    have MF := fresh M
    have hb2 := D2.lt
    refine ⟨⟨D2.mods0 MF, ((M1.nil.trans Mb).trans M2).comp0 MF, MF.heap (M2.heap (Mb.heap R1 (by simp; omega)) (by simp; omega)) (by simp), R, by have := HGR.out; omega, by have := HGR.out; omega, by have := HGR.out; omega, by omega, hv.out⟩, OwnPts.down (MF.owns OP (by simp)) (by have := HGR.out; omega), fun q hq => by have := OP.own q hq; refine ⟨?_, ?_, ?_⟩ <;> omega⟩)
  clear IS VS OP D2 M2 M1 R1 D1 Z1 Mb Db
  have hPL := Lib.hid (show P.length ≤ 13 by omega)
  go_wp2_with (refine wpList_store_row (cs := S.cells) rfl 40 (.tmp 3) (.tmp 7) rfl (heap_alloc_new w2 _) (by rfl) (by rfl) (by rfl) (Sen.infoS _) (Sen.one _ hone.out) ?_; intro w4 R4 M4; have HB := Lib.hid (HSX.out w4 R4 M4); clear M4 R4)
  clear HSX z2 zb
  generalize w2.heap.size = gc at HB ⊢
  refine (next_ok w4 b v L _ HB.out.bl.D 12 (by omega) (by omega)).mono ?_
  rintro e w5 ⟨k, n5, rfl, k0, k1, D5, M5⟩
  have HB := Lib.hid (HB.out.dice D5 M5)
  clear D5 M5
  rcases (show k = 0 ∨ k = 1 ∨ k = 2 ∨ k = 3 ∨ k = 4 ∨ k = 5 ∨ k = 6 ∨ k = 7 ∨ k = 8 ∨ 9 ≤ k by omega) with rfl | rfl | rfl | rfl | rfl | rfl | rfl | rfl | rfl | hk
  · go_wp2_with fail
    refine (next_ok w5 b v L _ HB.out.bl.D 19 (by omega) (by omega)).mono ?_
    rintro e w6 ⟨m', n6, rfl, m0, m1, D6, M6⟩
    obtain ⟨m, rfl⟩ := Int.eq_ofNat_of_zero_le m0
    have HB := Lib.hid (HB.out.dice D6 M6)
    clear D6 M6
    go_wp2_with fail
    refine (text_ok w6 b v L _ HB.out.bl.D alphaA (by decide) (by decide) m (by omega)).mono ?_
    rintro e w7 ⟨nm, n7, rfl, nm0, nm1, D7, M7⟩
    have HB := Lib.hid (HB.out.dice D7 M7)
    have hnm : nm.size ≤ 1000 := by omega
    clear D7 M7 nm0 nm1
    have cx : w7.cell? ⟨gc, 3, none⟩ = some (.string S.name) := HB.out.bl.c 3
    have fx : w7.frozen? ⟨gc, 3, none⟩ = false := HB.out.bl.f 3
    have HB : Hid (SX w (w7.setCell ⟨gc, 3, none⟩ (.string nm)) b v L n7 gr gc { S with name := nm } P) := Lib.hid (HB.out.set 3 (.string nm) rfl rfl)
    have HIN : Hid (SNums { S with name := nm } P) := Lib.hid { HIC.out with name := hnm }
    have HSB := Lib.hid (SenBox.mk HB.out.bl.G)
    go_wp2_with (first
      | (refine wpList_load_sen rfl (.tmp 3) rfl HSB.out (by rfl) ?_)
      | (refine wpList_store_row (cs := Sen.cells {S with name:=nm}) rfl 40 (.tmp 2) (.tmp 66) rfl HB.out.bl.R (by rfl) (by rfl) (by rfl) (Sen.infoS _) (Sen.one _ HB.out.own.rd.one) ?_; intro w39 R39 M39))
    have HF := HB.out.bl.fin R39 M39
    have HO : OwnPts w39 w.heap.size (Sen.conv {S with name:=nm}).pts P := M39.owns HB.out.own (fun q hq => by simpa using (HB.out.far q hq).2.1)
    refine bodyPost_ret (results_cell_row rfl _ _ gr _ _ _ _ rfl HF.R Tryz.underlying40 rfl (Sen.infoS _)) rfl ?_
    exact ⟨{S with name:=nm}, P, _, rfl, HIN.out.is HO.rd, HO, hPL.out, HF.D, HF.M⟩
  · go_wp2_with fail
    refine (next_ok w5 b v L _ HB.out.bl.D 8 (by omega) (by omega)).mono ?_
    rintro e w7 ⟨r, n7, rfl, r0, r1, D7, M7⟩
    have HB := Lib.hid (HB.out.dice D7 M7)
    clear D7 M7
    have cx : w7.cell? ⟨gc, 27, none⟩ = some (.int .i64 S.samples) := HB.out.bl.c 27
    have fx : w7.frozen? ⟨gc, 27, none⟩ = false := HB.out.bl.f 27
    have HB : Hid (SX w (w7.setCell ⟨gc, 27, none⟩ (.int .i64 (r - 1))) b v L n7 gr gc { S with samples := r - 1 } P) := Lib.hid (HB.out.set 27 (.int .i64 (r - 1)) rfl rfl)
    have HIN : Hid (SNums { S with samples := r - 1 } P) := Lib.hid { HIC.out with samples := (⟨by show _ ≤ r - 1; omega, by show r - 1 ≤ _; omega⟩ : I64 (r - 1)) }
    have HSB := Lib.hid (SenBox.mk HB.out.bl.G)
    go_wp2_with (first
      | (refine wpList_load_sen rfl (.tmp 3) rfl HSB.out (by rfl) ?_)
      | (refine wpList_store_row (cs := Sen.cells {S with samples:=r-1}) rfl 40 (.tmp 2) (.tmp 66) rfl HB.out.bl.R (by rfl) (by rfl) (by rfl) (Sen.infoS _) (Sen.one _ HB.out.own.rd.one) ?_; intro w39 R39 M39))
    have HF := HB.out.bl.fin R39 M39
    have HO : OwnPts w39 w.heap.size (Sen.conv {S with samples:=r-1}).pts P := M39.owns HB.out.own (fun q hq => by simpa using (HB.out.far q hq).2.1)
    refine bodyPost_ret (results_cell_row rfl _ _ gr _ _ _ _ rfl HF.R Tryz.underlying40 rfl (Sen.infoS _)) rfl ?_
    exact ⟨{S with samples:=r-1}, P, _, rfl, HIN.out.is HO.rd, HO, hPL.out, HF.D, HF.M⟩
  · have cx : w5.cell? ⟨gc, 6, none⟩ = some (.bool S.disc) := HB.out.bl.c 6
    have fx : w5.frozen? ⟨gc, 6, none⟩ = false := HB.out.bl.f 6
    have HB : Hid (SX w (w5.setCell ⟨gc, 6, none⟩ (.bool (!S.disc))) b v L n5 gr gc { S with disc := !S.disc } P) := Lib.hid (HB.out.set 6 (.bool (!S.disc)) rfl rfl)
    have HIN : Hid (SNums { S with disc := !S.disc } P) := Lib.hid { HIC.out with }
    have HSB := Lib.hid (SenBox.mk HB.out.bl.G)
    go_wp2_with (first
      | (refine wpList_load_sen rfl (.tmp 3) rfl HSB.out (by rfl) ?_)
      | (refine wpList_store_row (cs := Sen.cells {S with disc:=!S.disc}) rfl 40 (.tmp 2) (.tmp 66) rfl HB.out.bl.R (by rfl) (by rfl) (by rfl) (Sen.infoS _) (Sen.one _ HB.out.own.rd.one) ?_; intro w39 R39 M39))
    have HF := HB.out.bl.fin R39 M39
    have HO : OwnPts w39 w.heap.size (Sen.conv {S with disc:=!S.disc}).pts P := M39.owns HB.out.own (fun q hq => by simpa using (HB.out.far q hq).2.1)
    refine bodyPost_ret (results_cell_row rfl _ _ gr _ _ _ _ rfl HF.R Tryz.underlying40 rfl (Sen.infoS _)) rfl ?_
    exact ⟨{S with disc:=!S.disc}, P, _, rfl, HIN.out.is HO.rd, HO, hPL.out, HF.D, HF.M⟩
  · go_wp2_with fail
    refine (next_ok w5 b v L _ HB.out.bl.D 6 (by omega) (by omega)).mono ?_
    rintro e w6 ⟨j', n6, rfl, j0, j1, D6, M6⟩
    obtain ⟨j, rfl⟩ := Int.eq_ofNat_of_zero_le j0
    have hj : j < 6 := by omega
    have HB := Lib.hid (HB.out.dice D6 M6)
    clear D6 M6
    go_wp2_with fail
    refine (byte_ok w6 b v L _ HB.out.bl.D).mono ?_
    rintro e w7 ⟨r', n7, rfl, r0, r1, D7, M7⟩
    obtain ⟨r, rfl⟩ := Int.eq_ofNat_of_zero_le r0
    have HB := Lib.hid (HB.out.dice D7 M7)
    clear D7 M7
    have cx : w7.cell? ⟨gc, 15 + j, none⟩ = some (.int .u8 (S.raw j)) := SenBox.craw ⟨HB.out.bl.G⟩ hj
    have fx : w7.frozen? ⟨gc, 15 + j, none⟩ = false := HB.out.bl.f _
    have i1 : (0 : Int) ≤ (j : Int) := by omega
    have i2 : (j : Int) < 6 := by omega
    have hpp : (S.setRaw j r).conv.pts = S.conv.pts := by
      match j, hj with
      | 0, _ | 1, _ | 2, _ | 3, _ | 4, _ | 5, _ => rfl
    have HB : Hid (SX w (w7.setCell ⟨gc, 15 + j, none⟩ (.int .u8 r)) b v L n7 gr gc (S.setRaw j r) P) := Lib.hid (HB.out.set (15 + j) (.int .u8 r) (setRaw_cells S hj r) hpp)
    have HIN : Hid (SNums (S.setRaw j r) P) := Lib.hid (setRaw_nums HIC.out hj (by omega))
    clear hpp
    have HSB := Lib.hid (SenBox.mk HB.out.bl.G)
    go_wp2_with (first
      | (refine wpList_load_sen rfl (.tmp 3) rfl HSB.out (by rfl) ?_)
      | (refine wpList_store_row (cs := Sen.cells (S.setRaw j r)) rfl 40 (.tmp 2) (.tmp 66) rfl HB.out.bl.R (by rfl) (by rfl) (by rfl) (Sen.infoS _) (Sen.one _ HB.out.own.rd.one) ?_; intro w39 R39 M39))
    have HF := HB.out.bl.fin R39 M39
    have HO : OwnPts w39 w.heap.size (Sen.conv (S.setRaw j r)).pts P := M39.owns HB.out.own (fun q hq => by simpa using (HB.out.far q hq).2.1)
    refine bodyPost_ret (results_cell_row rfl _ _ gr _ _ _ _ rfl HF.R Tryz.underlying40 rfl (Sen.infoS _)) rfl ?_
    exact ⟨(S.setRaw j r), P, _, rfl, HIN.out.is HO.rd, HO, hPL.out, HF.D, HF.M⟩
  · skip
    go_wp2_with fail
    refine (byte_ok w5 b v L _ HB.out.bl.D).mono ?_
    rintro e w7 ⟨r', n7, rfl, r0, r1, D7, M7⟩
    obtain ⟨r, rfl⟩ := Int.eq_ofNat_of_zero_le r0
    have HB := Lib.hid (HB.out.dice D7 M7)
    clear D7 M7
    have cx : w7.cell? ⟨gc, 14, none⟩ = some (.int .u8 S.mask) := HB.out.bl.c 14
    have fx : w7.frozen? ⟨gc, 14, none⟩ = false := HB.out.bl.f 14
    have HB : Hid (SX w (w7.setCell ⟨gc, 14, none⟩ (.int .u8 r)) b v L n7 gr gc ({S with mask:=r}) P) := Lib.hid (HB.out.set 14 (.int .u8 r) rfl rfl)
    have HIN : Hid (SNums ({S with mask:=r}) P) := Lib.hid { HIC.out with mask := (show r < 256 by omega) }
    have HSB := Lib.hid (SenBox.mk HB.out.bl.G)
    go_wp2_with (first
      | (refine wpList_load_sen rfl (.tmp 3) rfl HSB.out (by rfl) ?_)
      | (refine wpList_store_row (cs := Sen.cells ({S with mask:=r})) rfl 40 (.tmp 2) (.tmp 66) rfl HB.out.bl.R (by rfl) (by rfl) (by rfl) (Sen.infoS _) (Sen.one _ HB.out.own.rd.one) ?_; intro w39 R39 M39))
    have HF := HB.out.bl.fin R39 M39
    have HO : OwnPts w39 w.heap.size (Sen.conv ({S with mask:=r})).pts P := M39.owns HB.out.own (fun q hq => by simpa using (HB.out.far q hq).2.1)
    refine bodyPost_ret (results_cell_row rfl _ _ gr _ _ _ _ rfl HF.R Tryz.underlying40 rfl (Sen.infoS _)) rfl ?_
    exact ⟨({S with mask:=r}), P, _, rfl, HIN.out.is HO.rd, HO, hPL.out, HF.D, HF.M⟩
  · skip
    go_wp2_with fail
    refine (next_ok w5 b v L _ HB.out.bl.D 65536 (by omega) (by omega)).mono ?_
    rintro e w7 ⟨r', n7, rfl, r0, r1, D7, M7⟩
    obtain ⟨r, rfl⟩ := Int.eq_ofNat_of_zero_le r0
    have HB := Lib.hid (HB.out.dice D7 M7)
    clear D7 M7
    have cx : w7.cell? ⟨gc, 23, none⟩ = some (.int .u16 S.states) := HB.out.bl.c 23
    have fx : w7.frozen? ⟨gc, 23, none⟩ = false := HB.out.bl.f 23
    have HB : Hid (SX w (w7.setCell ⟨gc, 23, none⟩ (.int .u16 r)) b v L n7 gr gc ({S with states:=r}) P) := Lib.hid (HB.out.set 23 (.int .u16 r) rfl rfl)
    have HIN : Hid (SNums ({S with states:=r}) P) := Lib.hid { HIC.out with states := (show r<65536 by omega) }
    have HSB := Lib.hid (SenBox.mk HB.out.bl.G)
    go_wp2_with (first
      | (refine wpList_load_sen rfl (.tmp 3) rfl HSB.out (by rfl) ?_)
      | (refine wpList_store_row (cs := Sen.cells ({S with states:=r})) rfl 40 (.tmp 2) (.tmp 66) rfl HB.out.bl.R (by rfl) (by rfl) (by rfl) (Sen.infoS _) (Sen.one _ HB.out.own.rd.one) ?_; intro w39 R39 M39))
    have HF := HB.out.bl.fin R39 M39
    have HO : OwnPts w39 w.heap.size (Sen.conv ({S with states:=r})).pts P := M39.owns HB.out.own (fun q hq => by simpa using (HB.out.far q hq).2.1)
    refine bodyPost_ret (results_cell_row rfl _ _ gr _ _ _ _ rfl HF.R Tryz.underlying40 rfl (Sen.infoS _)) rfl ?_
    exact ⟨({S with states:=r}), P, _, rfl, HIN.out.is HO.rd, HO, hPL.out, HF.D, HF.M⟩
  · skip
    go_wp2_with fail
    refine (next_ok w5 b v L _ HB.out.bl.D 65536 (by omega) (by omega)).mono ?_
    rintro e w7 ⟨r', n7, rfl, r0, r1, D7, M7⟩
    obtain ⟨r, rfl⟩ := Int.eq_ofNat_of_zero_le r0
    have HB := Lib.hid (HB.out.dice D7 M7)
    clear D7 M7
    have cx : w7.cell? ⟨gc, 24, none⟩ = some (.int .u16 S.asrt) := HB.out.bl.c 24
    have fx : w7.frozen? ⟨gc, 24, none⟩ = false := HB.out.bl.f 24
    have HB : Hid (SX w (w7.setCell ⟨gc, 24, none⟩ (.int .u16 r)) b v L n7 gr gc ({S with asrt:=r}) P) := Lib.hid (HB.out.set 24 (.int .u16 r) rfl rfl)
    have HIN : Hid (SNums ({S with asrt:=r}) P) := Lib.hid { HIC.out with asrt := (show r<65536 by omega) }
    have HSB := Lib.hid (SenBox.mk HB.out.bl.G)
    go_wp2_with (first
      | (refine wpList_load_sen rfl (.tmp 3) rfl HSB.out (by rfl) ?_)
      | (refine wpList_store_row (cs := Sen.cells ({S with asrt:=r})) rfl 40 (.tmp 2) (.tmp 66) rfl HB.out.bl.R (by rfl) (by rfl) (by rfl) (Sen.infoS _) (Sen.one _ HB.out.own.rd.one) ?_; intro w39 R39 M39))
    have HF := HB.out.bl.fin R39 M39
    have HO : OwnPts w39 w.heap.size (Sen.conv ({S with asrt:=r})).pts P := M39.owns HB.out.own (fun q hq => by simpa using (HB.out.far q hq).2.1)
    refine bodyPost_ret (results_cell_row rfl _ _ gr _ _ _ _ rfl HF.R Tryz.underlying40 rfl (Sen.infoS _)) rfl ?_
    exact ⟨({S with asrt:=r}), P, _, rfl, HIN.out.is HO.rd, HO, hPL.out, HF.D, HF.M⟩
  · go_wp2_with fail
    refine (oddConversion_ok w5 b v L _ HB.out.bl.D).mono ?_
    rintro e w7 ⟨C, P7, n7, rfl, IC, OC, PL7, D7, M7⟩
    have hg5 := lt_of_block HB.out.bl.G
    have hr5 := lt_of_block HB.out.bl.R
    have hb5 := HB.out.bl.D.lt
    have hw5 := HB.out.bl.hc
    have HB := Lib.hid (HB.out.dice D7 M7)
    have HONE := Lib.hid IC.rd.one
    have HIN : Hid (SNums { S with conv := C } P7) := Lib.hid { HIC.out with conv := ⟨IC.pok, IC.form, IC.m, IC.b, IC.k1, IC.k2⟩ }
    have HX : Hid (∀ W, W.heap[gc]? = some (.cells (setAll S.cells 7 C.cells.toList) 40 (0, 0)) → Mods [gc] w7 W → SX w W b v L n7 gr gc { S with conv := C } P7) := Lib.hid (fun W G M => by
      have hf : ∀ q, C.pts.ownBlock = some q → q ≠ b ∧ q ≠ gr ∧ q ≠ gc := fun q hq => by have := OC.own q hq; refine ⟨?_, ?_, ?_⟩ <;> omega
      rw [setAll_conv] at G
      exact ⟨HB.out.bl.part G M, OwnPts.down (M.owns OC (fun q hq => by simpa using (hf q hq).2.2)) (by omega), hf⟩)
    have HP7 := Lib.hid PL7
    clear IC OC D7 M7 hg5 hr5 hb5 hw5 PL7
    go_wp2_with (first
      | (refine wpList_load_sen rfl (.tmp 3) rfl HSB.out (by rfl) ?_)
      | (refine wpList_store_row (cs := ({ S with conv := C } : Sen).cells) rfl 40 (.tmp 2) (.tmp 66) rfl HB9.out.bl.R (by rfl) (by rfl) (by rfl) (Sen.infoS _) (Sen.one _ HONE.out) ?_; intro w39 R39 M39)
      | (refine wpList_store_part (cs := C.cells) rfl 34 (.tmp 60) (.tmp 59) rfl HB.out.bl.G 7 (by rfl) (by rfl) (show 7 + 7 ≤ 28 by decide) Tryz.infoC (Conv.one _ HONE.out) ?_; intro w13 R13 M13; have HB9 := Lib.hid (HX.out w13 R13 M13); have HSB : Hid (SenBox w13 gc ({ S with conv := C } : Sen)) := Lib.hid ⟨HB9.out.bl.G⟩; clear R13 M13))
    have HF := HB9.out.bl.fin R39 M39
    have HO : OwnPts w39 w.heap.size C.pts P7 := M39.owns HB9.out.own (fun q hq => by simpa using (HB9.out.far q hq).2.1)
    refine bodyPost_ret (results_cell_row rfl _ _ gr _ _ _ _ rfl HF.R Tryz.underlying40 rfl (Sen.infoS _)) rfl ?_
    exact ⟨{ S with conv := C }, P7, _, rfl, HIN.out.is HO.rd, HO, HP7.out, HF.D, HF.M⟩
  · skip
    go_wp2_with fail
    refine (byte_ok w5 b v L _ HB.out.bl.D).mono ?_
    rintro e w7 ⟨r', n7, rfl, r0, r1, D7, M7⟩
    obtain ⟨r, rfl⟩ := Int.eq_ofNat_of_zero_le r0
    have HB := Lib.hid (HB.out.dice D7 M7)
    clear D7 M7
    have cx : w7.cell? ⟨gc, 21, none⟩ = some (.int .u8 S.hl) := HB.out.bl.c 21
    have fx : w7.frozen? ⟨gc, 21, none⟩ = false := HB.out.bl.f 21
    have HB : Hid (SX w (w7.setCell ⟨gc, 21, none⟩ (.int .u8 r)) b v L n7 gr gc ({S with hl:=r}) P) := Lib.hid (HB.out.set 21 (.int .u8 r) rfl rfl)
    have HIN : Hid (SNums ({S with hl:=r}) P) := Lib.hid { HIC.out with hl := (show r < 256 by omega) }
    have HSB := Lib.hid (SenBox.mk HB.out.bl.G)
    go_wp2_with (first
      | (refine wpList_load_sen rfl (.tmp 3) rfl HSB.out (by rfl) ?_)
      | (refine wpList_store_row (cs := Sen.cells ({S with hl:=r})) rfl 40 (.tmp 2) (.tmp 66) rfl HB.out.bl.R (by rfl) (by rfl) (by rfl) (Sen.infoS _) (Sen.one _ HB.out.own.rd.one) ?_; intro w39 R39 M39))
    have HF := HB.out.bl.fin R39 M39
    have HO : OwnPts w39 w.heap.size (Sen.conv ({S with hl:=r})).pts P := M39.owns HB.out.own (fun q hq => by simpa using (HB.out.far q hq).2.1)
    refine bodyPost_ret (results_cell_row rfl _ _ gr _ _ _ _ rfl HF.R Tryz.underlying40 rfl (Sen.infoS _)) rfl ?_
    exact ⟨({S with hl:=r}), P, _, rfl, HIN.out.is HO.rd, HO, hPL.out, HF.D, HF.M⟩
  · have d0 : (k == 0) = false := by simp; omega
    have d1 : (k == 1) = false := by simp; omega
    have d2 : (k == 2) = false := by simp; omega
    have d3 : (k == 3) = false := by simp; omega
    have d4 : (k == 4) = false := by simp; omega
    have d5 : (k == 5) = false := by simp; omega
    have d6 : (k == 6) = false := by simp; omega
    have d7 : (k == 7) = false := by simp; omega
    have d8 : (k == 8) = false := by simp; omega
    have HIN := HIC
    have HSB := Lib.hid (SenBox.mk HB.out.bl.G)
    go_wp2_with (first
      | (refine wpList_load_sen rfl (.tmp 3) rfl HSB.out (by rfl) ?_)
      | (refine wpList_store_row (cs := Sen.cells S) rfl 40 (.tmp 2) (.tmp 66) rfl HB.out.bl.R (by rfl) (by rfl) (by rfl) (Sen.infoS _) (Sen.one _ HB.out.own.rd.one) ?_; intro w39 R39 M39))
    have HF := HB.out.bl.fin R39 M39
    have HO : OwnPts w39 w.heap.size (Sen.conv S).pts P := M39.owns HB.out.own (fun q hq => by simpa using (HB.out.far q hq).2.1)
    refine bodyPost_ret (results_cell_row rfl _ _ gr _ _ _ _ rfl HF.R Tryz.underlying40 rfl (Sen.infoS _)) rfl ?_
    exact ⟨S, P, _, rfl, HIN.out.is HO.rd, HO, hPL.out, HF.D, HF.M⟩
end Go.Proofs.YtijjkonephjodaaGreatDoor

namespace Go.Proofs.YtijjkonephjodaaGreatDoor

/-- What Apply makes of a state. -/
def applyN (st : Nat) : List Chg → Nat × Int
  | [] => (st, 0)
  | c :: l => if c.idx < 0 ∨ 15 ≤ c.idx then (0, 2) else if st.testBit c.idx.toNat = c.on then (0, 1) else applyN (st ^^^ 2 ^ c.idx.toNat) l
def mid (a b k : Nat) : Nat := a ^^^ ((a ^^^ b) % 2 ^ k)
theorem mid_bit (a b k i : Nat) : (mid a b k).testBit i = if i < k then b.testBit i else a.testBit i := by
  rw [mid, Nat.testBit_xor, Nat.testBit_mod_two_pow, Nat.testBit_xor]
  by_cases h : i < k
  · simp [h]
  · simp [h]
theorem apply_chL (a b : Nat) : ∀ k, k ≤ 15 → ∀ l, applyN a (chL a b k ++ l) = applyN (mid a b k) l
  | 0, _, l => by
    have e : mid a b 0 = a := Nat.eq_of_testBit_eq fun i => by rw [mid_bit]; simp
    rw [e]; rfl
  | k + 1, hk, l => by
    rw [chL, List.append_assoc, apply_chL a b k (by omega)]
    have hm : (mid a b k).testBit k = a.testBit k := by rw [mid_bit]; simp
    cases hb : (a ^^^ b).testBit k with
    | true =>
      have hx := hb
      rw [Nat.testBit_xor] at hx
      have e : mid a b (k + 1) = mid a b k ^^^ 2 ^ k := Nat.eq_of_testBit_eq fun i => by
        rw [Nat.testBit_xor, mid_bit, mid_bit, Nat.testBit_two_pow]
        rcases Nat.lt_trichotomy i k with h | h | h
        · simp [h, Nat.lt_succ_of_lt h, show k ≠ i by omega]
        · subst h
          simp
          revert hx
          cases a.testBit i <;> cases b.testBit i <;> simp
        · simp [show ¬ i < k by omega, show ¬ i < k + 1 by omega, show k ≠ i by omega]
      rw [if_pos rfl, List.singleton_append, applyN, if_neg (by simp; omega), if_neg ?_, e]
      · simp
      · simp only [Int.toNat_natCast, hm]
        revert hx
        cases a.testBit k <;> cases b.testBit k <;> simp
    | false =>
      have hx := hb
      rw [Nat.testBit_xor] at hx
      have e : mid a b (k + 1) = mid a b k := Nat.eq_of_testBit_eq fun i => by
        rw [mid_bit, mid_bit]
        rcases Nat.lt_trichotomy i k with h | h | h
        · simp [h, Nat.lt_succ_of_lt h]
        · subst h
          simp
          revert hx
          cases a.testBit i <;> cases b.testBit i <;> simp
        · simp [show ¬ i < k by omega, show ¬ i < k + 1 by omega]
      rw [if_neg (by simp), List.nil_append, e]
theorem mid_whole {a b k : Nat} (ha : a < 2 ^ k) (hb : b < 2 ^ k) : mid a b k = b := by
  refine bits_ext (Nat.xor_lt_two_pow ha (Nat.lt_of_le_of_lt (Nat.mod_le _ _) (Nat.xor_lt_two_pow ha hb))) hb fun i hi => ?_
  rw [mid_bit, if_pos hi]
theorem apply_step {a b k : Nat} (hk : k ≤ 15) (ha : a < 2 ^ k) (hb : b < 2 ^ k) (l : List Chg) : applyN a (chL a b k ++ l) = applyN b l := by
  rw [apply_chL a b k hk, mid_whole ha hb]
theorem chL_len (a b k : Nat) : (chL a b (k + 1)).length = (chL a b k).length + if (a.testBit k ^^ b.testBit k) then 1 else 0 := by
  rw [chL, List.length_append, Nat.testBit_xor]
  split <;> rfl
theorem chL_tri (a b c : Nat) : ∀ k, (chL a b k).length ≤ (chL a c k).length + (chL c b k).length ∧ ((chL a c k).length + (chL c b k).length - (chL a b k).length) % 2 = 0
  | 0 => ⟨by simp [chL], by simp [chL]⟩
  | k + 1 => by
    have ⟨h1, h2⟩ := chL_tri a b c k
    rw [chL_len, chL_len, chL_len]
    cases a.testBit k <;> cases b.testBit k <;> cases c.testBit k <;> simp <;> omega
def Chg.flip (c : Chg) : Chg := ⟨c.idx, !c.on⟩
theorem chL_flip (a b : Nat) : ∀ k, chL b a k = (chL a b k).map Chg.flip
  | 0 => rfl
  | k + 1 => by
    rw [chL, chL, List.map_append, chL_flip a b k, Nat.xor_comm b a]
    congr 1
    cases hb : (a ^^^ b).testBit k with
    | false => simp
    | true =>
      rw [Nat.testBit_xor] at hb
      simp [Chg.flip]
      revert hb
      cases a.testBit k <;> cases b.testBit k <;> simp
theorem chL_back (a b k i : Nat) (h : i < (chL a b k).length) : ((chL b a k).getD i default).idx = ((chL a b k).getD i default).idx ∧ ((chL b a k).getD i default).on = !((chL a b k).getD i default).on := by
  rw [chL_flip a b k]
  simp [List.getD_eq_getElem?_getD, List.getElem?_map, List.getElem?_eq_getElem h, Chg.flip]
theorem chL_back_len (a b k : Nat) : (chL b a k).length = (chL a b k).length := by rw [chL_flip a b k, List.length_map]
/-- Every change has an index below k. -/
theorem chL_idx (a b : Nat) : ∀ k, ∀ c ∈ chL a b k, 0 ≤ c.idx ∧ c.idx < k
  | 0 => by simp [chL]
  | k + 1 => by
    intro c hc
    rw [chL, List.mem_append] at hc
    rcases hc with h | h
    · have := chL_idx a b k c h; omega
    · split at h
      · simp at h; subst h; simp; omega
      · simp at h
end Go.Proofs.YtijjkonephjodaaGreatDoor

namespace Go.Proofs.YtijjkonephjodaaGreatDoor
open Go.RowKit

/-- A valid discrete sensor. -/
def digB (S : Sen) (P : List Pt) : Bool := S.disc && validB S P
/-- What Step gives. -/
def dstepN (S : Sen) (P : List Pt) (a b : Nat) : Nat × List Chg × Int :=
  if digB S P then (if (a ||| b) &&& (65535 - S.states) = 0 then (b, chL a b 15, 0) else (0, [], 2)) else (0, [], 1)
set_option maxRecDepth 100000 in
set_option maxHeartbeats 2000000 in
theorem dstep_ok (w : World) (S : Sen) (P : List Pt) (hS : IsSen w S P) (st to : Nat) (hst : st < 65536) (hto : to < 65536) :
    Calls Tryz.prog 84 #[.agg S.cells, .int .u16 st, .int .u16 to] w fun e w' => StepOut w .u16 (dstepN S P st to) e w' := by
  have hm := hS.states
  have HS := Lib.hid hS
  clear hS
  have BB := Lib.hid (SenBox.new w S)
  have M0 := Lib.hid ((Mods.refl (S := []) (w := w)).alloc (.cells S.cells 40))
  obtain ⟨_, _, _, _, _, _, x6⟩ := S.headc
  have HA := Lib.hid (show digB S P = (S.disc && validB S P) from rfl)
  cases hd : S.disc with
  | false =>
    rw [hd] at x6
    rw [hd] at HA
    have HR := Lib.hid (show dstepN S P st to = (0, [], 1) by simp [dstepN, HA.out])
    clear hd
    go_enter Tryz.func84, Tryz.ntmps84
    go_wp2_with fail
    go_ret3
    exact ⟨_, by rw [HR.out]; rfl, by rw [HR.out]; exact OwnChg.nil _ _, M0.out⟩
  | true =>
    rw [hd] at x6
    rw [hd, Bool.true_and] at HA
    clear hd
    go_enter Tryz.func84, Tryz.ntmps84
    go_wp2_with (refine wpList_load_senG (by rfl) (.tmp 3) rfl BB.out (by rfl) ?_)
    refine (valid_ok _ S P (HS.out.mods0 M0.out)).mono ?_
    rintro e w2 ⟨rfl, M2⟩
    have B2 := BB.out.mods0 M2
    have M2 := Lib.hid (M0.out.trans M2)
    obtain ⟨_, _, x23, _, _, _, _⟩ := B2.rest
    clear x6 M0 HS BB
    cases ha : validB S P with
    | false =>
      have HR := Lib.hid (show dstepN S P st to = (0, [], 1) by simp [dstepN, HA.out, ha])
      clear ha HA
      go_wp2_with fail
      go_ret3
      exact ⟨_, by rw [HR.out]; rfl, by rw [HR.out]; exact OwnChg.nil _ _, M2.out⟩
    | true =>
      have ho : st ||| to < 65536 := Nat.or_lt_two_pow (n := 16) hst hto
      have eo : bits .or .u16 (st : Int) (to : Int) = ((st ||| to : Nat) : Int) := u16_or_nat _ _ hst hto
      have ea : bits .andNot .u16 ((st ||| to : Nat) : Int) (S.states : Int) = (((st ||| to) &&& (65535 - S.states) : Nat) : Int) := u16_andNot_nat _ _ ho hm
      by_cases hx : (st ||| to) &&& (65535 - S.states) = 0
      · have HR := Lib.hid (show dstepN S P st to = (to, chL st to 15, 0) by simp [dstepN, HA.out, ha, hx])
        have e1 : ((((st ||| to) &&& (65535 - S.states) : Nat) : Int) != 0) = false := by simp only [hx]; rfl
        have M3 := M2.out
        have hxl : st ^^^ to < 65536 := Nat.xor_lt_two_pow (n := 16) hst hto
        have ex : bits .xor .u16 (st : Int) (to : Int) = ((st ^^^ to : Nat) : Int) := u16_xor_nat _ _ hst hto
        clear ha hx HA ho
        go_wp2_with fail
        clear ea e1 x23 eo B2
        go_loopw [9, 28] (fun d i wr => ∃ k : Nat, k ≤ 15 ∧ i = .int .i64 k ∧ OwnChg wr w.heap.size d (chL st to k) ∧ Mods [] w wr) (fun _ i _ => 15 - (intOf i).toNat)
        case atStart => exact ⟨0, by omega, rfl, OwnChg.nil _ _, M3⟩
        case round =>
          obtain ⟨k, hk, rfl, O, M⟩ := hrel
          clear M3
          by_cases hlt : k < 15
          · have hz := M.size
            have hln := chL_length st to k
            have b8 := bit16 hxl k
            have HC := Lib.hid (show chL st to (k + 1) = chL st to k ++ (if (st ^^^ to).testBit k then [⟨k, to.testBit k⟩] else []) from rfl)
            cases hb : (st ^^^ to).testBit k with
            | false =>
              rw [hb] at b8
              have b9 : (bits .and .u16 (((st ^^^ to : Nat) : Int) / 2 ^ k) 1 == 1) = false := by rw [b8]; rfl
              rw [hb] at HC
              have HC := Lib.hid (show chL st to (k + 1) = chL st to k by rw [HC.out]; simp)
              clear hb b8
              go_wp2_with fail
              exact ⟨⟨k + 1, by omega, by go_num, by rw [HC.out]; exact O, M⟩, by simp only [intOf]; omega⟩
            | true =>
              rw [hb] at b8
              have b9 : (bits .and .u16 (((st ^^^ to : Nat) : Int) / 2 ^ k) 1 == 1) = true := by rw [b8]; rfl
              rw [hb] at HC
              have HC2 := Lib.hid (show chL st to (k + 1) = chL st to k ++ [⟨k, to.testBit k⟩] by rw [HC.out]; simp)
              clear HC
              have t8 := bit16 hto k
              obtain ⟨tb1, htb⟩ : ∃ tb1, tb1 = to.testBit k := ⟨_, rfl⟩
              rw [← htb] at t8 HC2
              have t9 : (bits .and .u16 ((to : Int) / 2 ^ k) 1 == 1) = tb1 := by rw [t8]; cases tb1 <;> rfl
              clear hb b8 t8 htb
              go_wp2_with (at_builtin; refine wpList_pushC rfl (.tmp 38) (.tmp 46) rfl w.heap.size _ (chL st to k) (by rfl) (O.mods0 (Mods.refl.alloc _)) wr.heap.size ⟨k, tb1⟩ _ _ (heap_alloc_new wr _) (by rfl) (by omega) (by simp; omega) ?_)
              intro v' w5 O5 M5
              have M5 := Lib.hid ((M.alloc _).then_from M5 (Nat.le_refl _))
              have O5 := Lib.hid O5
              clear O
              go_wp2
              exact ⟨⟨k + 1, by omega, by go_num, by rw [HC2.out]; exact O5.out, M5.out⟩, by simp only [intOf]; omega⟩
          · have hk6 : k = 15 := by omega
            subst hk6
            go_wp2
            go_ret3
            exact ⟨_, by rw [HR.out]; rfl, by rw [HR.out]; exact O, M⟩
      · have HR := Lib.hid (show dstepN S P st to = (0, [], 2) by simp [dstepN, HA.out, ha, hx])
        have e1 : ((((st ||| to) &&& (65535 - S.states) : Nat) : Int) != 0) = true := by simp only [bne_iff_ne, ne_eq, Int.natCast_eq_zero]; exact hx
        clear ha hx HA
        go_wp2_with fail
        go_ret3
        exact ⟨_, by rw [HR.out]; rfl, by rw [HR.out]; exact OwnChg.nil _ _, M2.out⟩
end Go.Proofs.YtijjkonephjodaaGreatDoor

namespace Go.Proofs.YtijjkonephjodaaGreatDoor
open Go.RowKit

/-- Changes whose numbers fit. -/
def ChgOk (l : List Chg) : Prop := ∀ i, I64 (l.getD i default).idx
theorem applyN_lt : ∀ (l : List Chg) (st : Nat), st < 65536 → (applyN st l).1 < 65536
  | [], st, h => h
  | c :: l, st, h => by
    rw [applyN]
    split
    · exact (by decide : 0 < 65536)
    · split
      · exact (by decide : 0 < 65536)
      · exact applyN_lt l _ (Nat.xor_lt_two_pow (n := 16) h (Nat.pow_lt_pow_right (by omega) (by omega)))
theorem drop_getD {α : Type} (d : α) : ∀ (l : List α) (k : Nat), k < l.length → l.drop k = l.getD k d :: l.drop (k + 1)
  | [], _, h => by simp at h
  | _ :: _, 0, _ => rfl
  | _ :: l, k + 1, h => by simpa using drop_getD d l k (by simpa using h)
theorem and_bit16 {st k : Nat} (hst : st < 65536) (hk : k < 15) : (bits .and .u16 (st : Int) ((2 ^ k : Nat) : Int) != 0) = st.testBit k := by
  have hp : 2 ^ k < 65536 := Nat.pow_lt_pow_right (a := 2) (n := 16) (by omega) (by omega)
  rw [u16_and_nat _ _ hst hp, nat_bit, tb]
  have h0 : 0 < 2 ^ k := Nat.pow_pos (by omega)
  rcases Nat.mod_two_eq_zero_or_one (st / 2 ^ k) with h | h
  · simp [h]
  · rw [h]
    generalize 2 ^ k = p at h0
    simp
    omega
end Go.Proofs.YtijjkonephjodaaGreatDoor

namespace Go.Proofs.YtijjkonephjodaaGreatDoor
open Go.RowKit

end Go.Proofs.YtijjkonephjodaaGreatDoor

namespace Go.Proofs.YtijjkonephjodaaGreatDoor
open Go.RowKit

set_option maxRecDepth 100000 in
set_option maxHeartbeats 2000000 in
theorem refDStep_ok (w : World) (S : Sen) (P : List Pt) (hS : IsSen w S P) (st to : Nat) (hst : st < 65536) (hto : to < 65536) :
    Calls Tryz.prog 105 #[.agg S.cells, .int .u16 st, .int .u16 to] w fun e w' => StepOut w .u16 (dstepN S P st to) e w' := by
  have hm := hS.states
  have HS := Lib.hid hS
  clear hS
  have BB := Lib.hid (SenBox.new w S)
  have M0 := Lib.hid ((Mods.refl (S := []) (w := w)).alloc (.cells S.cells 40))
  obtain ⟨_, _, _, _, _, _, x6⟩ := S.headc
  have HA := Lib.hid (show digB S P = (S.disc && validB S P) from rfl)
  cases hd : S.disc with
  | false =>
    rw [hd] at x6
    rw [hd] at HA
    have HR := Lib.hid (show dstepN S P st to = (0, [], 1) by simp [dstepN, HA.out])
    clear hd
    go_enter Tryz.func105, Tryz.ntmps105
    go_wp2_with fail
    go_ret3
    exact ⟨_, by rw [HR.out]; rfl, by rw [HR.out]; exact OwnChg.nil _ _, M0.out⟩
  | true =>
    rw [hd] at x6
    rw [hd, Bool.true_and] at HA
    clear hd
    go_enter Tryz.func105, Tryz.ntmps105
    go_wp2_with (refine wpList_load_senG (by rfl) (.tmp 3) rfl BB.out (by rfl) ?_)
    refine (refValid_ok _ S P (HS.out.mods0 M0.out)).mono ?_
    rintro e w2 ⟨rfl, M2⟩
    have B2 := BB.out.mods0 M2
    have M2 := Lib.hid (M0.out.trans M2)
    obtain ⟨_, _, x23, _, _, _, _⟩ := B2.rest
    clear x6 M0 HS BB
    cases ha : validB S P with
    | false =>
      have HR := Lib.hid (show dstepN S P st to = (0, [], 1) by simp [dstepN, HA.out, ha])
      clear ha HA
      go_wp2_with fail
      go_ret3
      exact ⟨_, by rw [HR.out]; rfl, by rw [HR.out]; exact OwnChg.nil _ _, M2.out⟩
    | true =>
      have e1 : bits .andNot .u16 (st : Int) (S.states : Int) = ((st &&& (65535 - S.states) : Nat) : Int) := u16_andNot_nat _ _ hst hm
      have e2 : bits .andNot .u16 (to : Int) (S.states : Int) = ((to &&& (65535 - S.states) : Nat) : Int) := u16_andNot_nat _ _ hto hm
      have HOA := or_and_zero st to (65535 - S.states)
      by_cases hx : (st ||| to) &&& (65535 - S.states) = 0
      · have HR := Lib.hid (show dstepN S P st to = (to, chL st to 15, 0) by simp [dstepN, HA.out, ha, hx])
        obtain ⟨z1, z2⟩ := HOA.1 hx
        rw [z1] at e1
        rw [z2] at e2
        have M3 := M2.out
        clear ha hx HA HOA z1 z2
        go_wp2_with fail
        clear e1 e2 x23 B2
        go_loopw [9, 10] (fun d i wr => ∃ k : Nat, k ≤ 15 ∧ i = .int .i64 k ∧ OwnChg wr w.heap.size d (chL st to k) ∧ Mods [] w wr) (fun _ i _ => 15 - (intOf i).toNat)
        case atStart => exact ⟨0, by omega, rfl, OwnChg.nil _ _, M3⟩
        case round =>
          obtain ⟨k, hk, rfl, O, M⟩ := hrel
          clear M3
          by_cases hlt : k < 15
          · have hz := M.size
            have hln := chL_length st to k
            have HC := Lib.hid (show chL st to (k + 1) = chL st to k ++ (if (st ^^^ to).testBit k then [⟨k, to.testBit k⟩] else []) from rfl)
            rw [Nat.testBit_xor] at HC
            have HO := Lib.hid O
            have HM := Lib.hid M
            clear O M
            go_wp2_with fail
            refine (has_ok to k hto (by omega) _).mono ?_
            rintro e w3 ⟨rfl, rfl⟩
            go_wp2_with fail
            refine (has_ok st k hst (by omega) _).mono ?_
            rintro e w4 ⟨rfl, rfl⟩
            generalize hb1 : to.testBit k = b1 at HC ⊢
            generalize hb2 : st.testBit k = b2 at HC ⊢
            clear hb1 hb2
            cases b1 with
            | false =>
              cases b2 with
              | false =>
                have HC := Lib.hid (show chL st to (k + 1) = chL st to k by rw [HC.out]; simp)
                go_wp2_with fail
                exact ⟨⟨k + 1, by omega, by go_num, by rw [HC.out]; exact HO.out, HM.out⟩, by simp only [intOf]; omega⟩
              | true =>
                have HC2 := Lib.hid (show chL st to (k + 1) = chL st to k ++ [⟨k, false⟩] by rw [HC.out]; simp)
                clear HC
                go_wp2_with (at_builtin; refine wpList_pushC rfl (.tmp 44) (.tmp 48) rfl w.heap.size _ (chL st to k) (by rfl) (HO.out.mods0 (Mods.refl.alloc _)) wr.heap.size ⟨k, false⟩ _ _ (heap_alloc_new wr _) (by rfl) (by omega) (by simp; omega) ?_)
                intro v' w5 O5 M5
                have M5 := Lib.hid ((HM.out.alloc _).then_from M5 (Nat.le_refl _))
                have O5 := Lib.hid O5
                go_wp2
                exact ⟨⟨k + 1, by omega, by go_num, by rw [HC2.out]; exact O5.out, M5.out⟩, by simp only [intOf]; omega⟩
            | true =>
              cases b2 with
              | false =>
                have HC2 := Lib.hid (show chL st to (k + 1) = chL st to k ++ [⟨k, true⟩] by rw [HC.out]; simp)
                clear HC
                go_wp2_with (at_builtin; refine wpList_pushC rfl (.tmp 44) (.tmp 48) rfl w.heap.size _ (chL st to k) (by rfl) (HO.out.mods0 (Mods.refl.alloc _)) wr.heap.size ⟨k, true⟩ _ _ (heap_alloc_new wr _) (by rfl) (by omega) (by simp; omega) ?_)
                intro v' w5 O5 M5
                have M5 := Lib.hid ((HM.out.alloc _).then_from M5 (Nat.le_refl _))
                have O5 := Lib.hid O5
                go_wp2
                exact ⟨⟨k + 1, by omega, by go_num, by rw [HC2.out]; exact O5.out, M5.out⟩, by simp only [intOf]; omega⟩
              | true =>
                have HC := Lib.hid (show chL st to (k + 1) = chL st to k by rw [HC.out]; simp)
                go_wp2_with fail
                exact ⟨⟨k + 1, by omega, by go_num, by rw [HC.out]; exact HO.out, HM.out⟩, by simp only [intOf]; omega⟩
          · have hk6 : k = 15 := by omega
            subst hk6
            go_wp2
            go_ret3
            exact ⟨_, by rw [HR.out]; rfl, by rw [HR.out]; exact O, M⟩
      · have HR := Lib.hid (show dstepN S P st to = (0, [], 2) by simp [dstepN, HA.out, ha, hx])
        by_cases h1 : st &&& (65535 - S.states) = 0
        · have h2 : to &&& (65535 - S.states) ≠ 0 := fun h => hx (HOA.2 ⟨h1, h⟩)
          rw [h1] at e1
          have q2 : (((to &&& (65535 - S.states) : Nat) : Int) != 0) = true := by simp only [bne_iff_ne, ne_eq, Int.natCast_eq_zero]; exact h2
          clear ha hx HA HOA h1 h2
          go_wp2_with fail
          go_ret3
          exact ⟨_, by rw [HR.out]; rfl, by rw [HR.out]; exact OwnChg.nil _ _, M2.out⟩
        · have q1 : (((st &&& (65535 - S.states) : Nat) : Int) != 0) = true := by simp only [bne_iff_ne, ne_eq, Int.natCast_eq_zero]; exact h1
          clear ha hx HA HOA h1 e2
          go_wp2_with fail
          go_ret3
          exact ⟨_, by rw [HR.out]; rfl, by rw [HR.out]; exact OwnChg.nil _ _, M2.out⟩
end Go.Proofs.YtijjkonephjodaaGreatDoor
