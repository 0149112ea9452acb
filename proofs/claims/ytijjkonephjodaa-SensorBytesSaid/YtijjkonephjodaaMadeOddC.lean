/- The dice's OddConversion: contract. -/
import Derived.Test.YtijjkonephjodaaReady
import Derived.Deep.RegionLaw
import Derived.Test.YtijjkonephjodaaHeldRow
namespace Go.Proofs.Ytijjkonephjodaa
open Go.RowKit

/-- append of one point within a region that draws its order; where the new row lies. -/
theorem step_pushP2 {ops : Array Oper} {o : Oper} {a : Act} {w : World} {K : Act → World → Prop} {Q : Exit → Act → World → Prop} {E : Prop} (hgd : o.guard = none) (s x : Operand)
    (ho : o.op = .call { callee := .builtin .append, args := #[s, x], argTypes := #[24, 24] })
    (B : Nat) (v : Value) (P : List Pt) (hs : a.eval s = v) (hown : OwnPts w B v P) (g : Nat) (p : Pt) (T : TypeId) (fr : Nat × Nat) (hg : w.heap[g]? = some (.cells #[.int .u8 p.raw, .int .i64 p.val] T fr)) (hx : a.eval x = .slice (some ⟨g, 0, none⟩) 1 1)
    (hn : P.length ≤ 1000000) (hbase : B ≤ w.heap.size)
    (h : ∀ g' cap w', OwnPts w' B (.slice (some ⟨g', 0, none⟩) (P.length + 1) cap) (P ++ [p]) → Mods v.ownBlock.toList w w' → (v.ownBlock = some g' ∨ g' = w.heap.size) → K (a.put o.dst (.slice (some ⟨g', 0, none⟩) (P.length + 1) cap)) w') :
    if Region.wanted o (yielded ops a.tmps) = true then Oper.wp Try.prog o a w K Q else E := by
  obtain ⟨i0, hi, hz0, hz1, hz2⟩ := info_parts Try.infoP
  refine step_append_lies _ hgd s x _ ho B 115 i0 _ 2 16 Try.underlying24 hi hz0 hz1 hz2 rfl (by decide) v P.length (ptsCells P) hs hown ⟨g, 0, none⟩ 1 1 [.int .u8 p.raw, .int .i64 p.val] hx rfl ?_ (by intro u hu; simp at hu; rcases hu with rfl | rfl <;> rfl) (by decide) (by unfold maxLen; omega) (by omega) hbase w.heap.size rfl ?_
  · intro j u hj
    exact World.news_of_block (cs := #[.int .u8 p.raw, .int .i64 p.val]) (t := T) (fr := fr) hg j u hj
  · intro g' cap w' h1 h2 h3 _
    refine h _ _ _ ?_ (Mods.of_grown h2) h3
    unfold OwnPts
    rw [ptsCells_snoc, List.length_append]
    exact h1
theorem ptsCells_set (P : List Pt) (x : Int) : ∀ j, j < P.length → ptsCells (P.set j ⟨(P.getD j default).raw, x⟩) = (ptsCells P).set (j * 2 + 1) (.int .i64 x) := by
  induction P with
  | nil => intro j h; simp at h
  | cons p P ih =>
    intro j h
    match j with
    | 0 => rfl
    | j + 1 =>
      have := ih j (by simpa using h)
      have e : ∀ (q : Pt) (Q : List Pt), ptsCells (q :: Q) = .int .u8 q.raw :: .int .i64 q.val :: ptsCells Q := fun _ _ => rfl
      rw [List.set_cons_succ, e, e, show (j + 1) * 2 + 1 = (j * 2 + 1) + 1 + 1 by omega, List.set_cons_succ, List.set_cons_succ, List.getD_cons_succ, this]
/-- One value is turned. -/
theorem OwnPts.setVal {w : World} {B g cap : Nat} {P : List Pt} (h : OwnPts w B (.slice (some ⟨g, 0, none⟩) P.length cap) P) {j : Nat} (hj : j < P.length) (x : Int) :
    OwnPts (w.setCell ⟨g, j * 2 + 1, none⟩ (.int .i64 x)) B (.slice (some ⟨g, 0, none⟩) P.length cap) (P.set j ⟨(P.getD j default).raw, x⟩) := by
  obtain ⟨hl, h⟩ := h
  refine ⟨by rw [ptsCells_set P x j hj]; simpa using hl, ?_⟩
  rcases h with ⟨h, _⟩ | ⟨g', cap', cur, he, hB, hg, h1, h2, h3, h4⟩
  · cases h
  · have he2 := he
    injection he2 with e1 e2 e3
    injection e1 with e1
    injection e1 with e1
    subst e1 e3
    refine .inr ⟨g, cap, cur.setIfInBounds (j * 2 + 1) (.int .i64 x), by rw [List.length_set], hB, heap_setCell hg, by rw [List.length_set]; exact h1, h2, by simpa using h3, ?_⟩
    rw [ptsCells_set P x j hj, ← h4, List.length_set, Array.toList_setIfInBounds, List.take_set]
/-- A conversion under way: its block, the result's block, its points. -/
structure CB (w0 w : World) (b : Nat) (v : Value) (L : List Int) (n gr gc : Nat) (C : Conv) (P : List Pt) : Prop where
  bl : Bld w0 w b v L n 26 gr gc (cvC 0 false 0 0 0 0 (.slice none 0 0)) C.cells
  own : OwnPts w w0.heap.size C.pts P
  far : ∀ q, C.pts.ownBlock = some q → q ≠ b ∧ q ≠ gr ∧ q ≠ gc
theorem CB.dice {w0 w w' : World} {b n n' gr gc : Nat} {v : Value} {L : List Int} {C : Conv} {P : List Pt} (h : CB w0 w b v L n gr gc C P) (D : IsDice w' b v L n') (M : Mods [b] w w') : CB w0 w' b v L n' gr gc C P :=
  ⟨h.bl.dice D M, M.owns h.own fun q hq => by simpa using (h.far q hq).1, h.far⟩
theorem CB.mods0 {w0 w w' : World} {b n gr gc : Nat} {v : Value} {L : List Int} {C : Conv} {P : List Pt} (h : CB w0 w b v L n gr gc C P) (M : Mods [] w w') : CB w0 w' b v L n gr gc C P := h.dice (h.bl.D.mods0 M) M.nil
theorem CB.set {w0 w : World} {b n gr gc : Nat} {v : Value} {L : List Int} {C C' : Conv} {P : List Pt} (h : CB w0 w b v L n gr gc C P) (i : Nat) (u : Value) (hC : C.cells.setIfInBounds i u = C'.cells) (hp : C'.pts = C.pts) : CB w0 (w.setCell ⟨gc, i, none⟩ u) b v L n gr gc C' P :=
  ⟨hC ▸ h.bl.set i u, by rw [hp]; exact ((Mods.refl (S := [gc])).setCell (p := ⟨gc, i, none⟩) (.inl (by simp)) u).owns h.own (fun q hq => by simpa using (h.far q hq).2.2), by rw [hp]; exact h.far⟩
/-- A conversion of the dice, often not valid. -/
def MadeOddC (w : World) (b : Nat) (v : Value) (L : List Int) (e : Ending) (w' : World) : Prop :=
  ∃ (C : Conv) (P : List Pt) (n : Nat), e = .returned (.agg C.cells) ∧ IsConv w' C P ∧ OwnPts w' w.heap.size C.pts P ∧ P.length ≤ 13 ∧ IsDice w' b v L n ∧ Mods [b] w w'
/-- What is asked of a conversion's numbers. -/
def CNums (C : Conv) (P : List Pt) : Prop := PtsOk P ∧ I64 C.form ∧ I64 C.m ∧ I64 C.b ∧ I64 C.k1 ∧ I64 C.k2
set_option maxRecDepth 100000 in
set_option maxHeartbeats 4000000 in
theorem oddConversion_ok (w : World) (b : Nat) (v : Value) (L : List Int) (n : Nat) (h : IsDice w b v L n) :
    Calls Try.prog 48 #[.pointer (some ⟨b, 0, none⟩)] w fun e w' => MadeOddC w b v L e w' := by
  have hbl := h.lt
  have H := Lib.hid h
  have hv := Lib.hid h.vlt
  clear h
  go_enter Try.func48, Try.ntmps48
  go_wp2_with fail
  change Calls _ _ _ (w.alloc (.cells (cvC 0 false 0 0 0 0 (.slice none 0 0)) 26)) _
  have M1 := (Mods.refl (S := []) (w := w)).alloc (.cells (cvC 0 false 0 0 0 0 (.slice none 0 0)) 26)
  have R1 := heap_alloc_new w (.cells (cvC 0 false 0 0 0 0 (.slice none 0 0)) 26)
  have Z1 : (w.alloc (.cells (cvC 0 false 0 0 0 0 (.slice none 0 0)) 26)).heap.size = w.heap.size + 1 := by simp
  generalize w.alloc (.cells (cvC 0 false 0 0 0 0 (.slice none 0 0)) 26) = w1 at M1 R1 Z1 ⊢
  generalize hgr : w.heap.size = gr at R1 Z1 hbl ⊢
  have HGR := Lib.hid hgr
  clear hgr
  have D1 := H.out.mods0 M1
  refine (conversion_ok w1 b v L n D1).mono ?_
  rintro e w2 ⟨C, P, n2, rfl, IC, CV, OC, PL, D2, M2⟩
  have hone := Lib.hid IC.rd.one
  have HIC := Lib.hid (show CNums C P from ⟨IC.pok, IC.form, IC.m, IC.b, IC.k1, IC.k2⟩)
  have z2 := M2.size
  have HCB : Hid (∀ W, W.heap[w2.heap.size]? = some (.cells C.cells 26 (0, 0)) → Mods [w2.heap.size] (w2.alloc (.cells (cvC 0 false 0 0 0 0 (.slice none 0 0)) 26)) W → CB w W b v L n2 gr w2.heap.size C P) := Lib.hid (fun W R M => by
    have MF := fresh M
    have hb2 := D2.lt
    refine ⟨⟨D2.mods0 MF, (M1.nil.trans M2).comp0 MF, MF.heap (M2.heap R1 (by simp; omega)) (by simp), R, by have := HGR.out; omega, by have := HGR.out; omega, by have := HGR.out; omega, by omega, hv.out⟩, OwnPts.down (MF.owns OC (by simp)) (by have := HGR.out; omega), fun q hq => by have := OC.own q hq; refine ⟨?_, ?_, ?_⟩ <;> omega⟩)
  clear IC CV OC D2 M2 M1 R1 D1 Z1
  have hPL := Lib.hid (show P.length ≤ 13 by omega)
  go_wp2_with (refine wpList_store_row (cs := C.cells) rfl 26 (.tmp 3) (.tmp 5) rfl (heap_alloc_new w2 _) (by rfl) (by rfl) (by rfl) Try.infoC (Conv.one _ hone.out) ?_; intro w4 R4 M4; have HB := Lib.hid (HCB.out w4 R4 M4); clear M4 R4)
  clear HCB z2
  generalize w2.heap.size = gc at HB ⊢
  refine (next_ok w4 b v L _ HB.out.bl.D 8 (by omega) (by omega)).mono ?_
  rintro e w5 ⟨k, n5, rfl, k0, k1, D5, M5⟩
  have HB := Lib.hid (HB.out.dice D5 M5)
  clear D5 M5
  rcases (show k = 0 ∨ k = 1 ∨ k = 2 ∨ k = 3 ∨ k = 4 ∨ k = 5 ∨ k = 6 ∨ k = 7 by omega) with rfl | rfl | rfl | rfl | rfl | rfl | rfl | rfl
  · skip
    go_wp2_with fail
    refine (next_ok w5 b v L _ HB.out.bl.D 8 (by omega) (by omega)).mono ?_
    rintro e w7 ⟨r, n7, rfl, r0, r1, D7, M7⟩
    have HB := Lib.hid (HB.out.dice D7 M7)
    clear D7 M7
    have cx : w7.cell? ⟨gc, 0, none⟩ = some (.int .i64 C.form) := HB.out.bl.c 0
    have fx : w7.frozen? ⟨gc, 0, none⟩ = false := HB.out.bl.f 0
    have HB : Hid (CB w (w7.setCell ⟨gc, 0, none⟩ (.int .i64 (r - 1))) b v L n7 gr gc { C with form := r - 1 } P) := Lib.hid (HB.out.set 0 (.int .i64 (r - 1)) rfl rfl)
    have HIN : Hid (CNums { C with form := r - 1 } P) := Lib.hid (by
      have ⟨i1, i2, i3, i4, i5, i6⟩ := HIC.out
      have hr : I64 (r - 1) := by constructor <;> omega
      exact ⟨i1, hr, i3, i4, i5, i6⟩)
    go_wp2_with (first
      | (refine wpList_load_row rfl 26 (.tmp 3) rfl gc (by rfl) _ _ _ _ HB.out.bl.G Try.underlying26 rfl Try.infoC ?_)
      | (refine wpList_store_row (cs := Conv.cells {C with form:=r-1}) rfl 26 (.tmp 2) (.tmp 53) rfl HB.out.bl.R (by rfl) (by rfl) (by rfl) Try.infoC (Conv.one _ HB.out.own.rd.one) ?_; intro w39 R39 M39))
    have HF := HB.out.bl.fin R39 M39
    have HO : OwnPts w39 w.heap.size (Conv.pts {C with form:=r-1}) P := M39.owns HB.out.own (fun q hq => by simpa using (HB.out.far q hq).2.1)
    refine bodyPost_ret (results_cell_row rfl _ _ gr _ _ _ _ rfl HF.R Try.underlying26 rfl Try.infoC) rfl ?_
    have ⟨i1, i2, i3, i4, i5, i6⟩ := HIN.out
    exact ⟨{C with form:=r-1}, P, _, rfl, ⟨HO.rd, i1, i2, i3, i4, i5, i6⟩, HO, hPL.out, HF.D, HF.M⟩
  · skip
    go_wp2_with fail
    refine (next_ok w5 b v L _ HB.out.bl.D 1100 (by omega) (by omega)).mono ?_
    rintro e w7 ⟨r, n7, rfl, r0, r1, D7, M7⟩
    have HB := Lib.hid (HB.out.dice D7 M7)
    clear D7 M7
    have cx : w7.cell? ⟨gc, 2, none⟩ = some (.int .i64 C.m) := HB.out.bl.c 2
    have fx : w7.frozen? ⟨gc, 2, none⟩ = false := HB.out.bl.f 2
    have HB : Hid (CB w (w7.setCell ⟨gc, 2, none⟩ (.int .i64 (r - 550))) b v L n7 gr gc { C with m := r - 550 } P) := Lib.hid (HB.out.set 2 (.int .i64 (r - 550)) rfl rfl)
    have HIN : Hid (CNums { C with m := r - 550 } P) := Lib.hid (by
      have ⟨i1, i2, i3, i4, i5, i6⟩ := HIC.out
      have hr : I64 (r - 550) := by constructor <;> omega
      exact ⟨i1, i2, hr, i4, i5, i6⟩)
    go_wp2_with (first
      | (refine wpList_load_row rfl 26 (.tmp 3) rfl gc (by rfl) _ _ _ _ HB.out.bl.G Try.underlying26 rfl Try.infoC ?_)
      | (refine wpList_store_row (cs := Conv.cells {C with m:=r-550}) rfl 26 (.tmp 2) (.tmp 53) rfl HB.out.bl.R (by rfl) (by rfl) (by rfl) Try.infoC (Conv.one _ HB.out.own.rd.one) ?_; intro w39 R39 M39))
    have HF := HB.out.bl.fin R39 M39
    have HO : OwnPts w39 w.heap.size (Conv.pts {C with m:=r-550}) P := M39.owns HB.out.own (fun q hq => by simpa using (HB.out.far q hq).2.1)
    refine bodyPost_ret (results_cell_row rfl _ _ gr _ _ _ _ rfl HF.R Try.underlying26 rfl Try.infoC) rfl ?_
    have ⟨i1, i2, i3, i4, i5, i6⟩ := HIN.out
    exact ⟨{C with m:=r-550}, P, _, rfl, ⟨HO.rd, i1, i2, i3, i4, i5, i6⟩, HO, hPL.out, HF.D, HF.M⟩
  · skip
    go_wp2_with fail
    refine (next_ok w5 b v L _ HB.out.bl.D 10 (by omega) (by omega)).mono ?_
    rintro e w7 ⟨r, n7, rfl, r0, r1, D7, M7⟩
    have HB := Lib.hid (HB.out.dice D7 M7)
    clear D7 M7
    have cx : w7.cell? ⟨gc, 4, none⟩ = some (.int .i64 C.k1) := HB.out.bl.c 4
    have fx : w7.frozen? ⟨gc, 4, none⟩ = false := HB.out.bl.f 4
    have HB : Hid (CB w (w7.setCell ⟨gc, 4, none⟩ (.int .i64 (r - 5))) b v L n7 gr gc { C with k1 := r - 5 } P) := Lib.hid (HB.out.set 4 (.int .i64 (r - 5)) rfl rfl)
    have HIN : Hid (CNums { C with k1 := r - 5 } P) := Lib.hid (by
      have ⟨i1, i2, i3, i4, i5, i6⟩ := HIC.out
      have hr : I64 (r - 5) := by constructor <;> omega
      exact ⟨i1, i2, i3, i4, hr, i6⟩)
    go_wp2_with (first
      | (refine wpList_load_row rfl 26 (.tmp 3) rfl gc (by rfl) _ _ _ _ HB.out.bl.G Try.underlying26 rfl Try.infoC ?_)
      | (refine wpList_store_row (cs := Conv.cells {C with k1:=r-5}) rfl 26 (.tmp 2) (.tmp 53) rfl HB.out.bl.R (by rfl) (by rfl) (by rfl) Try.infoC (Conv.one _ HB.out.own.rd.one) ?_; intro w39 R39 M39))
    have HF := HB.out.bl.fin R39 M39
    have HO : OwnPts w39 w.heap.size (Conv.pts {C with k1:=r-5}) P := M39.owns HB.out.own (fun q hq => by simpa using (HB.out.far q hq).2.1)
    refine bodyPost_ret (results_cell_row rfl _ _ gr _ _ _ _ rfl HF.R Try.underlying26 rfl Try.infoC) rfl ?_
    have ⟨i1, i2, i3, i4, i5, i6⟩ := HIN.out
    exact ⟨{C with k1:=r-5}, P, _, rfl, ⟨HO.rd, i1, i2, i3, i4, i5, i6⟩, HO, hPL.out, HF.D, HF.M⟩
  · have c6 : w5.cell? ⟨gc, 6, none⟩ = some C.pts := HB.out.bl.c 6
    have hgb : gc ≠ b := by have := HB.out.bl.hb; have := HB.out.bl.hc; omega
    have hgw := HB.out.bl.hc
    have BYT := Lib.hid (byte_ok (w5.drewN 1) b v L n5 (HB.out.bl.D.drewN 1))
    have hpl2 : P.length ≤ 12 := PL
    go_wp2_with fail
    go_region_law (first
      | (go_simp; go_at_call 80; refine (micro_ok w20 b v L n20 HB20.out.bl.D).mono ?_; rintro e w21 ⟨u, n21, rfl, u0, u1, D21, M21⟩; have HB21 := Lib.hid (HB20.out.dice D21 M21); have c6b : w21.cell? ⟨gc, 6, none⟩ = some C.pts := HB21.out.bl.c 6; have c6d : (w21.alloc (.cells #[.int .u8 (r20 : Int), .int .i64 u] 115)).cell? ⟨gc, 6, none⟩ = some C.pts := (Mods.refl (S := [])).alloc _ |>.cell c6b (by simp); clear D21 M21)
      | (go_simp; go_at_call 14; refine BYT.out.mono ?_; rintro e w20 ⟨rr, n20, rfl, rr0, rr1, D20, M20⟩; obtain ⟨r20, rfl⟩ := Int.eq_ofNat_of_zero_le rr0; have hr20 : r20 < 256 := (by omega); have HB20 := Lib.hid ((HB.out.mods0 (Mods.refl.drewN 1)).dice D20 M20); have c6a : w20.cell? ⟨gc, 6, none⟩ = some C.pts := HB20.out.bl.c 6; clear D20 M20)
      | (refine step_pushP2 (by rfl) _ _ (by rfl) w.heap.size C.pts P (by rfl) ((HB21.out.mods0 (by first | exact (Mods.refl.alloc _).drew | exact Mods.refl.alloc _ | exact (Mods.refl.drew).alloc _)).own) w21.heap.size ⟨r20, u⟩ _ _ (heap_alloc_new w21 _) (by rfl) (by omega) (by have := lt_of_block HB21.out.bl.G; simp; omega) ?_; intro g' cap' w22 O22 M22 hg22; have hfar22 := HB21.out.far; have hown22 := HB21.out.own.own; have hz22 := M22.size; have BL22 := Lib.hid ((HB21.out.bl.mods0 (by first | exact (Mods.refl.alloc _).drew | exact Mods.refl.alloc _ | exact (Mods.refl.drew).alloc _)).mods M22 (fun k hk => by cases hq : C.pts.ownBlock with | none => (rw [hq] at hk; simp at hk) | some q => (rw [hq] at hk; simp at hk; subst hk; exact ⟨(hown22 k hq).1, (hfar22 k hq).2⟩))); have FAR22 := Lib.hid (show g' ≠ b ∧ g' ≠ gr ∧ g' ≠ gc from by have h1 := lt_of_block HB21.out.bl.G; have h2 := lt_of_block HB21.out.bl.R; have h3 := HB21.out.bl.D.lt; rcases hg22 with h | h; exact hfar22 g' h; (simp at h; refine ⟨?_, ?_, ?_⟩ <;> omega)); have c6c : w22.cell? ⟨gc, 6, none⟩ = some C.pts := BL22.out.c 6; have f6c : w22.frozen? ⟨gc, 6, none⟩ = false := BL22.out.f 6; have O22 := Lib.hid O22; clear M22 hg22 hfar22 hown22 hz22))
    all_goals
      have HB : Hid (CB w (w22.setCell ⟨gc, 6, none⟩ (.slice (some ⟨g', 0, none⟩) (P.length + 1) cap')) b v L n21 gr gc { C with pts := .slice (some ⟨g', 0, none⟩) (P.length + 1) cap' } (P ++ [⟨r20, u⟩])) := Lib.hid ⟨BL22.out.set 6 _, ((Mods.refl (S := [gc])).setCell (p := ⟨gc, 6, none⟩) (.inl (by simp)) _).owns O22.out (fun q hq => by simp [Value.ownBlock] at hq; subst hq; simpa using FAR22.out.2.2), fun q hq => by simp [Value.ownBlock] at hq; subst hq; exact FAR22.out⟩
      have HIN : Hid (CNums { C with pts := .slice (some ⟨g', 0, none⟩) (P.length + 1) cap' } (P ++ [⟨r20, u⟩])) := Lib.hid (by
        have ⟨i1, i2⟩ := HIC.out
        refine ⟨⟨by simp; omega, fun i => ?_, fun i => ?_⟩, i2⟩
        · rw [getD_snoc]; split
          · exact i1.raw i
          · split
            · exact hr20
            · simp [default]
        · rw [getD_snoc]; split
          · exact i1.val i
          · split
            · exact ⟨by show _ ≤ u; omega, by show u ≤ _; omega⟩
            · simp [default, I64])
      have hPX := Lib.hid (show (P ++ [(⟨r20, u⟩ : Pt)]).length ≤ 13 by simp; omega)
      clear c6 c6a c6b c6d BYT
      go_wp2_with (first
        | (refine wpList_load_row rfl 26 (.tmp 3) rfl gc (by rfl) _ _ _ _ HB.out.bl.G Try.underlying26 rfl Try.infoC ?_)
        | (refine wpList_store_row (cs := Conv.cells {C with pts:=.slice (some ⟨g',0,none⟩) (P.length+1) cap'}) rfl 26 (.tmp 2) (.tmp 53) rfl HB.out.bl.R (by rfl) (by rfl) (by rfl) Try.infoC (Conv.one _ HB.out.own.rd.one) ?_; intro w39 R39 M39))
      have HF := HB.out.bl.fin R39 M39
      have HO : OwnPts w39 w.heap.size (Conv.pts {C with pts:=.slice (some ⟨g',0,none⟩) (P.length+1) cap'}) (P++[⟨r20,u⟩]) := M39.owns HB.out.own (fun q hq => by simpa using (HB.out.far q hq).2.1)
      refine bodyPost_ret (results_cell_row rfl _ _ gr _ _ _ _ rfl HF.R Try.underlying26 rfl Try.infoC) rfl ?_
      have ⟨i1, i2, i3, i4, i5, i6⟩ := HIN.out
      exact ⟨{C with pts:=.slice (some ⟨g',0,none⟩) (P.length+1) cap'}, (P++[⟨r20,u⟩]), _, rfl, ⟨HO.rd, i1, i2, i3, i4, i5, i6⟩, HO, hPX.out, HF.D, HF.M⟩
  · by_cases hz : P.length = 0
    · obtain ⟨ad, cap, hpts⟩ := HB.out.own.rd.len
      have c6 : w5.cell? ⟨gc, 6, none⟩ = some (.slice ad P.length cap) := by rw [← hpts]; exact HB.out.bl.c 6
      have d0 : decide ((0 : Int) < (P.length : Int)) = false := decide_eq_false (by omega)
      have HIN := HIC
      clear hpts
      go_wp2_with (first
        | (refine wpList_load_row rfl 26 (.tmp 3) rfl gc (by rfl) _ _ _ _ HB.out.bl.G Try.underlying26 rfl Try.infoC ?_)
        | (refine wpList_store_row (cs := Conv.cells C) rfl 26 (.tmp 2) (.tmp 53) rfl HB.out.bl.R (by rfl) (by rfl) (by rfl) Try.infoC (Conv.one _ HB.out.own.rd.one) ?_; intro w39 R39 M39))
      have HF := HB.out.bl.fin R39 M39
      have HO : OwnPts w39 w.heap.size (Conv.pts C) P := M39.owns HB.out.own (fun q hq => by simpa using (HB.out.far q hq).2.1)
      refine bodyPost_ret (results_cell_row rfl _ _ gr _ _ _ _ rfl HF.R Try.underlying26 rfl Try.infoC) rfl ?_
      have ⟨i1, i2, i3, i4, i5, i6⟩ := HIN.out
      exact ⟨C, P, _, rfl, ⟨HO.rd, i1, i2, i3, i4, i5, i6⟩, HO, hPL.out, HF.D, HF.M⟩
    · obtain ⟨g, cap, hpts⟩ := HB.out.own.form (by omega)
      have c6 : w5.cell? ⟨gc, 6, none⟩ = some (.slice (some ⟨g, 0, none⟩) P.length cap) := by rw [← hpts]; exact HB.out.bl.c 6
      have d0 : decide ((0 : Int) < (P.length : Int)) = true := decide_eq_true (by omega)
      have hgb : gc ≠ b := by have := HB.out.bl.hb; have := HB.out.bl.hc; omega
      have HPT := Lib.hid hpts
      have HFR := Lib.hid (HB.out.far g (by rw [hpts]; rfl))
      have HGB := Lib.hid ((HB.out.own.own g (by rw [hpts]; rfl)).1)
      have hpl2 : P.length ≤ 12 := PL
      clear hpts
      go_wp2_with fail
      have NX := Lib.hid (next_ok (w5.drewN 1) b v L n5 (HB.out.bl.D.drewN 1) (P.length : Int) (by omega) (by omega))
      refine heldStart (S := fun W => W.cell? ⟨gc, 6, none⟩ = some (.slice (some ⟨g, 0, none⟩) P.length cap)) 10 rfl (by kernel_rfl) c6 (fun hHeld => ?_)
      refine takeD (i := 0) (d := 44) (v := ?_) rfl rfl (by kernel_rfl) (by kernel_rfl) (by kernel_rfl) (fun _ _ _ h => h) (Or.inl ⟨by rfl, ?_⟩) hHeld ?_
      rotate_left 1
      · (intro w hSw; (try dsimp only at hSw); go_simp; (try with_reducible rfl))
      simp only [List.setIfInBounds_toArray, List.set_cons_zero, List.set_cons_succ]
      refine takeD (i := 1) (d := 45) (v := ?_) rfl rfl (by kernel_rfl) (by kernel_rfl) (by kernel_rfl) (fun _ _ _ h => h) (Or.inl ⟨by rfl, ?_⟩) hHeld ?_
      rotate_left 1
      · (intro w hSw; (try dsimp only at hSw); go_simp; (try with_reducible rfl))
      simp only [List.setIfInBounds_toArray, List.set_cons_zero, List.set_cons_succ]
      refine takeD (i := 2) (d := 46) (v := ?_) rfl rfl (by kernel_rfl) (by kernel_rfl) (by kernel_rfl) (fun _ _ _ h => h) (Or.inl ⟨by rfl, ?_⟩) hHeld ?_
      rotate_left 1
      · (intro w hSw; (try dsimp only at hSw); go_simp; (try with_reducible rfl))
      simp only [List.setIfInBounds_toArray, List.set_cons_zero, List.set_cons_succ]
      refine takeD (i := 3) (d := 47) (v := ?_) rfl rfl (by kernel_rfl) (by kernel_rfl) (by kernel_rfl) (fun _ _ _ h => h) (Or.inl ⟨by rfl, ?_⟩) hHeld ?_
      rotate_left 1
      · (intro w hSw; (try dsimp only at hSw); go_simp; (try with_reducible rfl))
      simp only [List.setIfInBounds_toArray, List.set_cons_zero, List.set_cons_succ]
      refine takeD (i := 4) (d := 48) (v := ?_) rfl rfl (by kernel_rfl) (by kernel_rfl) (by kernel_rfl) (fun _ _ _ h => h) (Or.inl ⟨by rfl, ?_⟩) hHeld ?_
      rotate_left 1
      · (intro w hSw; (try dsimp only at hSw); go_simp; (try with_reducible rfl))
      simp only [List.setIfInBounds_toArray, List.set_cons_zero, List.set_cons_succ]
      refine takeD (i := 5) (d := 49) (v := ?_) rfl rfl (by kernel_rfl) (by kernel_rfl) (by kernel_rfl) (fun _ _ _ h => h) (Or.inl ⟨by rfl, ?_⟩) hHeld ?_
      rotate_left 1
      · (intro w hSw; (try dsimp only at hSw); go_simp; (try with_reducible rfl))
      simp only [List.setIfInBounds_toArray, List.set_cons_zero, List.set_cons_succ]
      refine wpAnyH_ready (rs := [6]) (by kernel_rfl) (by simp) ?_
      refine AllReadyH.cons rfl (fun K hK => ?_) AllReadyH.nil
      go_simp
      go_wp2_with (go_at_call 19; refine NX.out.mono ?_; rintro e w7 ⟨j', n7, rfl, j0, j1, D7, M7⟩)
      refine hK.out _ _ ?_ (fun hHeld => ?_)
      · exact M7.cell hHeld (by simpa using hgb)
      clear hK K
      obtain ⟨j, rfl⟩ := Int.eq_ofNat_of_zero_le j0
      have hj : j < P.length := by omega
      have HB7 := Lib.hid ((HB.out.mods0 (Mods.refl.drewN 1)).dice D7 M7)
      have hrd := HB7.out.own.rd
      rw [HPT.out] at hrd
      obtain ⟨_, _, he, _, _, hc⟩ := hrd
      injection he with e1 e2 e3
      subst e1
      obtain ⟨_, _, he2, _, x1⟩ := hc j hj
      injection he2 with he2
      injection he2 with he3 he4
      subst he3 he4
      clear hc D7 M7 NX
      have x1b : w7.cell? ⟨g, j * 2 + 1, none⟩ = some (.int .i64 (P.getD j default).val) := by rw [← x1]; simp
      have f1 : w7.frozen? ⟨g, j * 2 + 1, none⟩ = false := by
        have := HB7.out.own
        rw [HPT.out] at this
        rcases this.2 with ⟨h, _⟩ | ⟨g', _, _, h, _, hg, _⟩
        · cases h
        · injection h with h; injection h with h; injection h with h; subst h; exact froz_blk hg _
      refine takeD (i := 7) (d := 51) (v := ?_) rfl rfl (by kernel_rfl) (by kernel_rfl) (by kernel_rfl) (fun _ _ _ h => h) (Or.inl ⟨by rfl, ?_⟩) hHeld ?_
      rotate_left 1
      · (intro w hSw; (try dsimp only at hSw); go_simp; (try with_reducible rfl))
      simp only [List.setIfInBounds_toArray, List.set_cons_zero, List.set_cons_succ]
      refine takeD (i := 8) (d := 52) (v := ?_) rfl rfl (by kernel_rfl) (by kernel_rfl) (by kernel_rfl) (fun _ _ _ h => h) (Or.inl ⟨by rfl, ?_⟩) hHeld ?_
      rotate_left 1
      · (intro w hSw; (try dsimp only at hSw); go_simp; (try with_reducible rfl))
      simp only [List.setIfInBounds_toArray, List.set_cons_zero, List.set_cons_succ]
      have HBN : Hid (CB w (w7.setCell ⟨g, j * 2 + 1, none⟩ (.int .i64 1000000000001)) b v L n7 gr gc C (P.set j ⟨(P.getD j default).raw, 1000000000001⟩)) := Lib.hid ⟨HB7.out.bl.mods ((Mods.refl (S := [g])).setCell (p := ⟨g, j * 2 + 1, none⟩) (.inl (by simp)) _) (fun q hq => by simp at hq; subst hq; exact ⟨HGB.out, HFR.out.2⟩),
        by
          have := HB7.out.own
          rw [HPT.out] at this ⊢
          exact this.setVal hj _, HB7.out.far⟩
      refine wpAnyH_ready (rs := [9]) (by kernel_rfl) (by simp) ?_
      refine AllReadyH.cons rfl (fun K hK => ?_) AllReadyH.nil
      go_simp
      refine hK.out _ _ ?_ (fun hHeld => ?_)
      · have := HBN.out.bl.c 6; rw [this]; exact congrArg some HPT.out
      clear hK K
      refine wpAnyH_done (by kernel_rfl) ?_ _
      have HB := HBN
      have HIN : Hid (CNums C (P.set j ⟨(P.getD j default).raw, 1000000000001⟩)) := Lib.hid (by
        have ⟨i1, i2⟩ := HIC.out
        have hg : ∀ i, (P.set j ⟨(P.getD j default).raw, 1000000000001⟩).getD i default = P.getD i default ∨ (P.set j ⟨(P.getD j default).raw, 1000000000001⟩).getD i default = ⟨(P.getD j default).raw, 1000000000001⟩ := fun i => by
          simp only [List.getD_eq_getElem?_getD, List.getElem?_set]
          split
          · subst_vars; exact .inr rfl
          · exact .inl rfl
        refine ⟨⟨by simp; omega, fun i => ?_, fun i => ?_⟩, i2⟩
        · rcases hg i with h | h <;> rw [h]
          · exact i1.raw i
          · exact i1.raw j
        · rcases hg i with h | h <;> rw [h]
          · exact i1.val i
          · exact (⟨by decide, by decide⟩ : I64 1000000000001))
      have hPX := Lib.hid (show (P.set j ⟨(P.getD j default).raw, 1000000000001⟩).length ≤ 13 by simp; omega)
      clear x1 x1b f1 c6 hHeld
      go_wp2_with (first
        | (refine wpList_load_row rfl 26 (.tmp 3) rfl gc (by rfl) _ _ _ _ HB.out.bl.G Try.underlying26 rfl Try.infoC ?_)
        | (refine wpList_store_row (cs := Conv.cells C) rfl 26 (.tmp 2) (.tmp 53) rfl HB.out.bl.R (by rfl) (by rfl) (by rfl) Try.infoC (Conv.one _ HB.out.own.rd.one) ?_; intro w39 R39 M39))
      have HF := HB.out.bl.fin R39 M39
      have HO : OwnPts w39 w.heap.size (Conv.pts C) (P.set j ⟨(P.getD j default).raw,1000000000001⟩) := M39.owns HB.out.own (fun q hq => by simpa using (HB.out.far q hq).2.1)
      refine bodyPost_ret (results_cell_row rfl _ _ gr _ _ _ _ rfl HF.R Try.underlying26 rfl Try.infoC) rfl ?_
      have ⟨i1, i2, i3, i4, i5, i6⟩ := HIN.out
      exact ⟨C, (P.set j ⟨(P.getD j default).raw,1000000000001⟩), _, rfl, ⟨HO.rd, i1, i2, i3, i4, i5, i6⟩, HO, hPX.out, HF.D, HF.M⟩
  all_goals
    have HIN := HIC
    go_wp2_with (first
      | (refine wpList_load_row rfl 26 (.tmp 3) rfl gc (by rfl) _ _ _ _ HB.out.bl.G Try.underlying26 rfl Try.infoC ?_)
      | (refine wpList_store_row (cs := Conv.cells C) rfl 26 (.tmp 2) (.tmp 53) rfl HB.out.bl.R (by rfl) (by rfl) (by rfl) Try.infoC (Conv.one _ HB.out.own.rd.one) ?_; intro w39 R39 M39))
    have HF := HB.out.bl.fin R39 M39
    have HO : OwnPts w39 w.heap.size (Conv.pts C) P := M39.owns HB.out.own (fun q hq => by simpa using (HB.out.far q hq).2.1)
    refine bodyPost_ret (results_cell_row rfl _ _ gr _ _ _ _ rfl HF.R Try.underlying26 rfl Try.infoC) rfl ?_
    have ⟨i1, i2, i3, i4, i5, i6⟩ := HIN.out
    exact ⟨C, P, _, rfl, ⟨HO.rd, i1, i2, i3, i4, i5, i6⟩, HO, hPL.out, HF.D, HF.M⟩
end Go.Proofs.Ytijjkonephjodaa
