/- The dice's Conversion: contract. -/
import Derived.Test.YtijjkonephjodaaBld
import Derived.Deep.RegionLaw
namespace Go.Proofs.Ytijjkonephjodaa
open Go.RowKit

theorem Try.infoC : (Try.prog.info? 26).map (·.size) = some 7 := by kernel_rfl
def cvC (form : Int) (sgn : Bool) (m b k1 k2 : Int) (v : Value) : Array Value := #[.int .i64 form, .bool sgn, .int .i64 m, .int .i64 b, .int .i64 k1, .int .i64 k2, v]
theorem i64_small {x : Int} (h : -1000000 ≤ x ∧ x ≤ 1000000) : I64 x := ⟨by omega, by omega⟩
theorem cvC_one (form : Int) (sgn : Bool) (m b k1 k2 : Int) (ad : Option Addr) (l c : Nat) : (cvC form sgn m b k1 k2 (.slice ad l c)).all (·.oneCell') = true := by
  simp [cvC, Value.oneCell']
set_option maxRecDepth 100000 in
set_option maxHeartbeats 4000000 in
theorem conversion_ok (w : World) (b : Nat) (v : Value) (L : List Int) (n : Nat) (h : IsDice w b v L n) :
    Calls Try.prog 46 #[.pointer (some ⟨b, 0, none⟩)] w fun e w' => MadeConv w b v L e w' := by
  have hbl := h.lt
  have H := Lib.hid h
  have hv := Lib.hid h.vlt
  clear h
  go_enter Try.func46, Try.ntmps46
  go_wp2_with fail
  have M1 := (Mods.refl (S := []) (w := w)).alloc (.cells #[.int .i64 0, .bool false, .int .i64 0, .int .i64 0, .int .i64 0, .int .i64 0, .slice none 0 0] 26)
  have R1 : (w.alloc (.cells #[.int .i64 0, .bool false, .int .i64 0, .int .i64 0, .int .i64 0, .int .i64 0, .slice none 0 0] 26)).heap[w.heap.size]? = some (.cells (cvC 0 false 0 0 0 0 (.slice none 0 0)) 26 (0, 0)) := heap_alloc_new _ _
  have Z1 : (w.alloc (.cells #[.int .i64 0, .bool false, .int .i64 0, .int .i64 0, .int .i64 0, .int .i64 0, .slice none 0 0] 26)).heap.size = w.heap.size + 1 := by simp
  generalize w.alloc (.cells #[.int .i64 0, .bool false, .int .i64 0, .int .i64 0, .int .i64 0, .int .i64 0, .slice none 0 0] 26) = w1 at M1 R1 Z1 ⊢
  generalize hgr : w.heap.size = gr at R1 Z1 hbl ⊢
  have HGR := Lib.hid hgr
  clear hgr
  have D1 := H.out.mods0 M1
  refine (next_ok w1 b v L n D1 5 (by omega) (by omega)).mono ?_
  rintro e w2 ⟨f, n2, rfl, f0, f1, D2, M2⟩
  go_wp2_with fail
  refine (bool_ok w2 b v L n2 D2 2 (by omega) (by omega)).mono ?_
  rintro e w3 ⟨sgn, n3, rfl, D3, M3⟩
  have R3 := M3.heap (M2.heap R1 (by simp; omega)) (by simp; omega)
  have MM := (M1.nil (S := [b])).trans (M2.trans M3)
  have Z3 := M2.size
  have Z3b := M3.size
  clear D1 D2 M1 M2 M3 R1
  have hne5 : ((1 + f != 5) = true ∧ f ≤ 3) ∨ ((1 + f != 5) = false ∧ f = 4) := by
    by_cases hf : f = 4
    · exact .inr ⟨by simp [hf], hf⟩
    · exact .inl ⟨by simp; omega, by omega⟩
  rcases hne5 with ⟨e5, hf⟩ | ⟨e5, hf⟩
  · have G3 : (w3.alloc (.cells (cvC (1 + f) sgn 0 0 0 0 (.slice none 0 0)) 26)).heap[w3.heap.size]? = some (.cells (cvC (1 + f) sgn 0 0 0 0 (.slice none 0 0)) 26 (0, 0)) := heap_alloc_new _ _
    have MA := (Mods.refl (S := []) (w := w3)).alloc (.cells (cvC (1 + f) sgn 0 0 0 0 (.slice none 0 0)) 26)
    have B4 : Bld w (w3.alloc (.cells (cvC (1 + f) sgn 0 0 0 0 (.slice none 0 0)) 26)) b v L n3 26 gr w3.heap.size (cvC 0 false 0 0 0 0 (.slice none 0 0)) (cvC (1 + f) sgn 0 0 0 0 (.slice none 0 0)) :=
      ⟨D3.mods0 MA, MM.trans MA.nil, heap_alloc R3, G3, by have := HGR.out; omega, by have := HGR.out; omega, by have := HGR.out; omega, by omega, hv.out⟩
    clear MM R3 G3 MA D3
    have HB := Lib.hid B4
    have c0 : (w3.alloc (.cells (cvC (1 + f) sgn 0 0 0 0 (.slice none 0 0)) 26)).cell? ⟨w3.heap.size, 0, none⟩ = some (.int .i64 (1 + f)) := B4.c 0
    clear B4
    go_wp2_with fail
    have e : w3.alloc (.cells (cvC (1 + f) sgn 0 0 0 0 (.slice none 0 0)) 26) = w3.alloc (.cells #[.int .i64 (1 + f), .bool sgn, .int .i64 0, .int .i64 0, .int .i64 0, .int .i64 0, .slice none 0 0] 26) := rfl
    rw [e] at HB c0
    clear e
    generalize w3.alloc (.cells #[.int .i64 (1 + f), .bool sgn, .int .i64 0, .int .i64 0, .int .i64 0, .int .i64 0, .slice none 0 0] 26) = w4 at HB c0 ⊢
    generalize w3.heap.size = gc at HB c0 ⊢
    clear c0
    refine (next_ok w4 b v L _ HB.out.D 1024 (by omega) (by omega)).mono ?_
    rintro e w5 ⟨rm, n5, rfl, rm0, rm1, Dx, Mx⟩
    have HB := Lib.hid (HB.out.dice Dx Mx)
    have cx : w5.cell? ⟨gc, 2, none⟩ = some (.int .i64 0) := HB.out.c 2
    have fx : w5.frozen? ⟨gc, 2, none⟩ = false := HB.out.f 2
    clear Dx Mx
    go_wp2_with fail
    have HB := Lib.hid (HB.out.set 2 (.int .i64 (rm - 512)))
    clear cx fx
    generalize w5.setCell ⟨gc, 2, none⟩ (.int .i64 (rm - 512)) = w6 at HB ⊢
    refine (next_ok w6 b v L _ HB.out.D 1024 (by omega) (by omega)).mono ?_
    rintro e w7 ⟨rb, n7, rfl, rb0, rb1, Dx, Mx⟩
    have HB := Lib.hid (HB.out.dice Dx Mx)
    have cx : w7.cell? ⟨gc, 3, none⟩ = some (.int .i64 0) := HB.out.c 3
    have fx : w7.frozen? ⟨gc, 3, none⟩ = false := HB.out.f 3
    clear Dx Mx
    go_wp2_with fail
    have HB := Lib.hid (HB.out.set 3 (.int .i64 (rb - 512)))
    clear cx fx
    generalize w7.setCell ⟨gc, 3, none⟩ (.int .i64 (rb - 512)) = w8 at HB ⊢
    refine (bool_ok w8 b v L _ HB.out.D 2 (by omega) (by omega)).mono ?_
    rintro e w9 ⟨q, n9, rfl, D9, M9⟩
    have HB := Lib.hid (HB.out.dice D9 M9)
    clear D9 M9
    cases q with
    | false =>
      go_wp2_with fail
      refine (next_ok w9 b v L _ HB.out.D 7 (by omega) (by omega)).mono ?_
      rintro e w15 ⟨rk, n15, rfl, rk0, rk1, Dx, Mx⟩
      have HB := Lib.hid (HB.out.dice Dx Mx)
      have cx : w15.cell? ⟨gc, 4, none⟩ = some (.int .i64 0) := HB.out.c 4
      have fx : w15.frozen? ⟨gc, 4, none⟩ = false := HB.out.f 4
      clear Dx Mx
      go_wp2_with fail
      have HB := Lib.hid (HB.out.set 4 (.int .i64 (rk - 3)))
      clear cx fx
      generalize w15.setCell ⟨gc, 4, none⟩ (.int .i64 (rk - 3)) = w16 at HB ⊢
      refine (next_ok w16 b v L _ HB.out.D 7 (by omega) (by omega)).mono ?_
      rintro e w17 ⟨rl, n17, rfl, rl0, rl1, D17, M17⟩
      have HB := Lib.hid (HB.out.dice D17 M17)
      have cx : w17.cell? ⟨gc, 5, none⟩ = some (.int .i64 0) := HB.out.c 5
      have fx : w17.frozen? ⟨gc, 5, none⟩ = false := HB.out.f 5
      clear D17 M17
      have HB : Hid (Bld w (w17.setCell ⟨gc, 5, none⟩ (.int .i64 (rl - 3))) b v L n17 26 gr gc (cvC 0 false 0 0 0 0 (.slice none 0 0)) (cvC (1 + f) sgn (rm-512) (rb-512) (rk - 3) (rl - 3) (.slice none 0 0))) := Lib.hid (HB.out.set 5 (.int .i64 (rl - 3)))
      go_wp2_with (first
        | (refine wpList_load_row rfl 26 (.tmp 3) rfl gc (by rfl) _ _ _ _ HB.out.G Try.underlying26 rfl Try.infoC ?_)
        | (refine wpList_store_row (cs := cvC (1 + f) sgn (rm-512) (rb-512) (rk - 3) (rl - 3) (.slice none 0 0)) rfl 26 (.tmp 2) (.tmp 42) rfl HB.out.R (by rfl) (by rfl) rfl Try.infoC (cvC_one _ _ _ _ _ _ _ _ _) ?_; intro w19 R19 M19))
      have HB := Lib.hid (HB.out.fin R19 M19)
      clear R19 M19
      refine bodyPost_ret (results_cell_row rfl _ _ gr _ _ _ _ rfl HB.out.R Try.underlying26 rfl Try.infoC) rfl ?_
      refine ⟨⟨1 + f, sgn, (rm-512), (rb-512), rk - 3, rl - 3, .slice none 0 0⟩, [], n17, rfl, ⟨RdPts.nil _, PtsOk.nil, ?_, ?_, ?_, ?_, ?_⟩, ?_, OwnPts.nil _ _, by simp, HB.out.D, HB.out.M⟩
      · exact i64_small (x := 1 + f) ⟨by omega, by omega⟩
      · exact i64_small (x := (rm-512)) ⟨by omega, by omega⟩
      · exact i64_small (x := (rb-512)) ⟨by omega, by omega⟩
      · exact i64_small (x := rk - 3) ⟨by omega, by omega⟩
      · exact i64_small (x := rl - 3) ⟨by omega, by omega⟩
      · rw [convB, if_pos (show 1 ≤ 1 + f ∧ 1 + f ≤ 4 by omega)]
        simp [facB, powB]
        omega
    | true =>
      go_wp2_with fail
      refine (next_ok w9 b v L _ HB.out.D 21 (by omega) (by omega)).mono ?_
      rintro e w10 ⟨rc, n10, rfl, rc0, rc1, Dx, Mx⟩
      have HB := Lib.hid (HB.out.dice Dx Mx)
      have cx : w10.cell? ⟨gc, 2, none⟩ = some (.int .i64 (rm-512)) := HB.out.c 2
      have fx : w10.frozen? ⟨gc, 2, none⟩ = false := HB.out.f 2
      clear Dx Mx
      go_wp2_with fail
      have HB := Lib.hid (HB.out.set 2 (.int .i64 (rc - 10)))
      clear cx fx
      generalize w10.setCell ⟨gc, 2, none⟩ (.int .i64 (rc - 10)) = w11 at HB ⊢
      refine (next_ok w11 b v L _ HB.out.D 41 (by omega) (by omega)).mono ?_
      rintro e w12 ⟨rd, n12, rfl, rd0, rd1, Dx, Mx⟩
      have HB := Lib.hid (HB.out.dice Dx Mx)
      have cx : w12.cell? ⟨gc, 3, none⟩ = some (.int .i64 (rb-512)) := HB.out.c 3
      have fx : w12.frozen? ⟨gc, 3, none⟩ = false := HB.out.f 3
      clear Dx Mx
      go_wp2_with fail
      have HB := Lib.hid (HB.out.set 3 (.int .i64 (rd - 20)))
      clear cx fx
      generalize w12.setCell ⟨gc, 3, none⟩ (.int .i64 (rd - 20)) = w13 at HB ⊢
      refine (next_ok w13 b v L _ HB.out.D 7 (by omega) (by omega)).mono ?_
      rintro e w15 ⟨rk, n15, rfl, rk0, rk1, Dx, Mx⟩
      have HB := Lib.hid (HB.out.dice Dx Mx)
      have cx : w15.cell? ⟨gc, 4, none⟩ = some (.int .i64 0) := HB.out.c 4
      have fx : w15.frozen? ⟨gc, 4, none⟩ = false := HB.out.f 4
      clear Dx Mx
      go_wp2_with fail
      have HB := Lib.hid (HB.out.set 4 (.int .i64 (rk - 3)))
      clear cx fx
      generalize w15.setCell ⟨gc, 4, none⟩ (.int .i64 (rk - 3)) = w16 at HB ⊢
      refine (next_ok w16 b v L _ HB.out.D 7 (by omega) (by omega)).mono ?_
      rintro e w17 ⟨rl, n17, rfl, rl0, rl1, D17, M17⟩
      have HB := Lib.hid (HB.out.dice D17 M17)
      have cx : w17.cell? ⟨gc, 5, none⟩ = some (.int .i64 0) := HB.out.c 5
      have fx : w17.frozen? ⟨gc, 5, none⟩ = false := HB.out.f 5
      clear D17 M17
      have HB : Hid (Bld w (w17.setCell ⟨gc, 5, none⟩ (.int .i64 (rl - 3))) b v L n17 26 gr gc (cvC 0 false 0 0 0 0 (.slice none 0 0)) (cvC (1 + f) sgn (rc-10) (rd-20) (rk - 3) (rl - 3) (.slice none 0 0))) := Lib.hid (HB.out.set 5 (.int .i64 (rl - 3)))
      go_wp2_with (first
        | (refine wpList_load_row rfl 26 (.tmp 3) rfl gc (by rfl) _ _ _ _ HB.out.G Try.underlying26 rfl Try.infoC ?_)
        | (refine wpList_store_row (cs := cvC (1 + f) sgn (rc-10) (rd-20) (rk - 3) (rl - 3) (.slice none 0 0)) rfl 26 (.tmp 2) (.tmp 42) rfl HB.out.R (by rfl) (by rfl) rfl Try.infoC (cvC_one _ _ _ _ _ _ _ _ _) ?_; intro w19 R19 M19))
      have HB := Lib.hid (HB.out.fin R19 M19)
      clear R19 M19
      refine bodyPost_ret (results_cell_row rfl _ _ gr _ _ _ _ rfl HB.out.R Try.underlying26 rfl Try.infoC) rfl ?_
      refine ⟨⟨1 + f, sgn, (rc-10), (rd-20), rk - 3, rl - 3, .slice none 0 0⟩, [], n17, rfl, ⟨RdPts.nil _, PtsOk.nil, ?_, ?_, ?_, ?_, ?_⟩, ?_, OwnPts.nil _ _, by simp, HB.out.D, HB.out.M⟩
      · exact i64_small (x := 1 + f) ⟨by omega, by omega⟩
      · exact i64_small (x := (rc-10)) ⟨by omega, by omega⟩
      · exact i64_small (x := (rd-20)) ⟨by omega, by omega⟩
      · exact i64_small (x := rk - 3) ⟨by omega, by omega⟩
      · exact i64_small (x := rl - 3) ⟨by omega, by omega⟩
      · rw [convB, if_pos (show 1 ≤ 1 + f ∧ 1 + f ≤ 4 by omega)]
        simp [facB, powB]
        omega
  · subst hf
    have G3 : (w3.alloc (.cells (cvC 5 sgn 0 0 0 0 (.slice none 0 0)) 26)).heap[w3.heap.size]? = some (.cells (cvC 5 sgn 0 0 0 0 (.slice none 0 0)) 26 (0, 0)) := heap_alloc_new _ _
    have MA := (Mods.refl (S := []) (w := w3)).alloc (.cells (cvC 5 sgn 0 0 0 0 (.slice none 0 0)) 26)
    have B4 : Bld w (w3.alloc (.cells (cvC 5 sgn 0 0 0 0 (.slice none 0 0)) 26)) b v L n3 26 gr w3.heap.size (cvC 0 false 0 0 0 0 (.slice none 0 0)) (cvC 5 sgn 0 0 0 0 (.slice none 0 0)) :=
      ⟨D3.mods0 MA, MM.trans MA.nil, heap_alloc R3, G3, by have := HGR.out; omega, by have := HGR.out; omega, by have := HGR.out; omega, by omega, hv.out⟩
    clear MM R3 G3 MA D3
    have HB := Lib.hid B4
    have c0 : (w3.alloc (.cells (cvC 5 sgn 0 0 0 0 (.slice none 0 0)) 26)).cell? ⟨w3.heap.size, 0, none⟩ = some (.int .i64 5) := B4.c 0
    clear B4
    go_wp2_with fail
    have e : w3.alloc (.cells (cvC 5 sgn 0 0 0 0 (.slice none 0 0)) 26) = w3.alloc (.cells #[.int .i64 5, .bool sgn, .int .i64 0, .int .i64 0, .int .i64 0, .int .i64 0, .slice none 0 0] 26) := rfl
    rw [e] at HB c0
    clear e
    generalize w3.alloc (.cells #[.int .i64 5, .bool sgn, .int .i64 0, .int .i64 0, .int .i64 0, .int .i64 0, .slice none 0 0] 26) = w4 at HB c0 ⊢
    generalize w3.heap.size = gc at HB c0 ⊢
    clear c0
    refine (next_ok w4 b v L _ HB.out.D 11 (by omega) (by omega)).mono ?_
    rintro e w5 ⟨rn, n5, rfl, rn0, rn1, D5, M5⟩
    have HB := Lib.hid (HB.out.dice D5 M5)
    have cx : w5.cell? ⟨gc, 1, none⟩ = some (.bool sgn) := HB.out.c 1
    clear D5 M5
    obtain ⟨N, rfl⟩ := Int.eq_ofNat_of_zero_le rn0
    have hN2 : N ≤ 10 := by omega
    clear rn0 rn1
    go_wp2_with fail
    refine (least_ok sgn _).mono ?_
    rintro e w5' ⟨rfl, rfl⟩
    go_wp2_with fail
    refine (next_ok w5 b v L _ HB.out.D 40 (by omega) (by omega)).mono ?_
    rintro e w6 ⟨x, n6, rfl, x0, x1, D6, M6⟩
    have HB := Lib.hid (HB.out.dice D6 M6)
    clear D6 M6 cx
    have hlo : -128 ≤ leastI sgn ∧ leastI sgn ≤ 0 := by unfold leastI; cases sgn <;> decide
    go_wp2_with fail
    obtain ⟨B0, hB0⟩ : ∃ B0, B0 = w6.heap.size := ⟨_, rfl⟩
    have hgc : gc < B0 := by rw [hB0]; exact lt_of_block HB.out.G
    have hgr : gr < B0 := by rw [hB0]; exact lt_of_block HB.out.R
    have hBle : B0 ≤ w6.heap.size := by omega
    have HWB := Lib.hid (show w.heap.size ≤ B0 by have := HB.out.hr; omega)
    clear hB0
    have hneg := Lib.hid HB.out.ne
    go_loopw [5, 6] (fun y i wr => ∃ (k n7 : Nat) (x : Int) (P : List Pt) (pv : Value), k ≤ 2 + N ∧ i = .int .i64 k ∧ y = .int .i64 x ∧ Hid (P.length = k) ∧ Hid (TabIn sgn P x) ∧ OwnPts wr B0 pv P ∧ B0 ≤ wr.heap.size ∧ Hid (Bld w wr b v L n7 26 gr gc (cvC 0 false 0 0 0 0 (.slice none 0 0)) (cvC 5 sgn 0 0 0 0 pv))) (fun _ i _ => 2 + N - (intOf i).toNat)
    case atStart => exact ⟨0, n6, _, [], _, by omega, rfl, rfl, rfl, TabIn.start (by omega) (by omega), OwnPts.nil _ _, hBle, HB.out⟩
    case round =>
      obtain ⟨k, n7, y, P, pv, hk, rfl, rfl, HL, HT, O, hz, HB⟩ := hrel
      clear hBle x0 x1
      by_cases hlt : k < 2 + N
      · have hx0 := HT.out.x0
        have hx1 := HT.out.x1
        rw [HL.out] at hx1
        have c6 : wr.cell? ⟨gc, 6, none⟩ = some pv := HB.out.c 6
        have f6 : wr.frozen? ⟨gc, 6, none⟩ = false := HB.out.f 6
        have HO := Lib.hid O
        clear O
        have r1 : -256 ≤ y := by omega
        have r2 : y ≤ 1000 := by omega
        have RAW := Lib.hid (fun W => raw_ok y r1 r2 W)
        have MIC := Lib.hid (fun W (D : IsDice W b v L n7) => micro_ok W b v L n7 D)
        have DD := Lib.hid (HB.out.D.drewN 1)
        go_wp2_with fail
        go_region_law (first
          | (go_simp; go_at_call 79; refine (RAW.out _).mono ?_; rintro e w' ⟨rfl, rfl⟩)
          | (go_simp; go_at_call 80; refine (MIC.out _ DD.out).mono ?_; rintro e w20 ⟨u, n20, rfl, u0, u1, D20, M20⟩; have HB20 := Lib.hid ((HB.out.mods0 (Mods.refl.drewN 1)).dice D20 M20); have c6b : w20.cell? ⟨gc, 6, none⟩ = some pv := HB20.out.c 6; have c6d : (w20.alloc (.cells #[.int .u8 (rawI y : Int), .int .i64 u] 115)).cell? ⟨gc, 6, none⟩ = some pv := (Mods.refl (S := [])).alloc _ |>.cell c6b (by simp); have O20 := Lib.hid ((HO.out.mods (S := []) (Mods.refl.drewN 1) (by simp)).mods M20 (by simp; omega)); have z20 := Lib.hid M20.size; clear D20 M20)
          | (refine step_pushP (by rfl) _ _ (by rfl) B0 pv P (by rfl) (O20.out.mods (S := []) (by first | exact (Mods.refl.alloc _).drew | exact Mods.refl.alloc _ | exact (Mods.refl.drew).alloc _) (by simp)) w20.heap.size ⟨rawI y, u⟩ _ _ (heap_alloc_new w20 _) (by rfl) (by have := HL.out; omega) (by have := z20.out; simp at this ⊢; omega) ?_; intro v' w21 O21 M21; obtain ⟨g', cap', rfl⟩ := O21.form (by simp); have eL : (P ++ [(⟨rawI y, u⟩ : Pt)]).length = P.length + 1 := (by simp); rw [eL] at O21; clear eL; have HB21 := Lib.hid ((HB20.out.mods0 (by first | exact (Mods.refl.alloc _).drew | exact Mods.refl.alloc _ | exact (Mods.refl.drew).alloc _)).mods M21 (fun k hk => by have := mem_from hk; have := HWB.out; omega)); have c6c : w21.cell? ⟨gc, 6, none⟩ = some pv := HB21.out.c 6; have f6c : w21.frozen? ⟨gc, 6, none⟩ = false := HB21.out.f 6; have O21 := Lib.hid O21; have ZZ := Lib.hid M21.size; clear M21))
        all_goals
          have HB22 := Lib.hid (HB21.out.set 6 (.slice (some ⟨g', 0, none⟩) (P.length + 1) cap'))
          have O22 := Lib.hid (O21.out.mods (S := [gc]) (Mods.refl.setCell (p := ⟨gc, 6, none⟩) (.inl (by simp)) (.slice (some ⟨g', 0, none⟩) (P.length + 1) cap')) (by simp; exact hgc))
          have z22 := Lib.hid (show B0 ≤ (w21.setCell ⟨gc, 6, none⟩ (.slice (some ⟨g', 0, none⟩) (P.length + 1) cap')).heap.size by
            have h1 : w20.heap.size ≤ w21.heap.size := by have := ZZ.out; simp at this ⊢; omega
            have := z20.out; simp at this ⊢; omega)
          clear c6b c6c c6d f6c c6 f6
          go_wp2_with fail
          generalize w21.setCell ⟨gc, 6, none⟩ (.slice (some ⟨g', 0, none⟩) (P.length + 1) cap') = w22 at HB22 O22 z22 ⊢
          refine (next_ok w22 b v L _ HB22.out.D 18 (by omega) (by omega)).mono ?_
          rintro e w23 ⟨d, n23, rfl, d0, d1, D23, M23⟩
          have HB23 := Lib.hid (HB22.out.dice D23 M23)
          have O23 := Lib.hid (O22.out.mods M23 (by simp; omega))
          have z23 := Lib.hid M23.size
          have HT23 := Lib.hid (HT.out.push (val := u) (d := 1 + d) (by have := HL.out; omega) ⟨u0, u1⟩ (by omega) (by omega))
          have HL23 := Lib.hid (show (P ++ [(⟨rawI y, u⟩ : Pt)]).length = k + 1 by rw [List.length_append, HL.out]; rfl)
          clear D23 M23
          go_wp2
          exact ⟨⟨k + 1, n23, y + (1 + d), P ++ [⟨rawI y, u⟩], _, by omega, by go_num, rfl, HL23, HT23, O23.out, by have := z22.out; have := z23.out; omega, HB23⟩, by simp only [intOf]; omega⟩
      · have hkN : k = 2 + N := by omega
        have hlen : P.length = 2 + N := by rw [HL.out, hkN]
        obtain ⟨ad, cap, hpv⟩ := O.rd.len
        subst hpv
        have HTAB := Lib.hid (HT.out.tab (by omega) (by omega))
        have HOK := Lib.hid (HT.out.ok (by omega))
        have HLEN := Lib.hid hlen
        clear hlen
        go_wp2_with (first
          | (refine wpList_load_row rfl 26 (.tmp 3) rfl gc (by rfl) _ _ _ _ HB.out.G Try.underlying26 rfl Try.infoC ?_)
          | (refine wpList_store_row (cs := cvC 5 sgn 0 0 0 0 (.slice ad P.length cap)) rfl 26 (.tmp 2) (.tmp 72) rfl HB.out.R (by rfl) (by rfl) rfl Try.infoC (cvC_one _ _ _ _ _ _ _ _ _) ?_; intro w19 R19 M19))
        have HB9 := Lib.hid (HB.out.fin R19 M19)
        have O9 := O.mods M19 (by simp; exact hgr)
        have HW := HWB.out
        clear R19 M19
        refine bodyPost_ret (results_cell_row rfl _ _ gr _ _ _ _ rfl HB9.out.R Try.underlying26 rfl Try.infoC) rfl ?_
        refine ⟨⟨5, sgn, 0, 0, 0, 0, .slice ad P.length cap⟩, P, n7, rfl, ⟨O9.rd, HOK.out, ?_, ?_, ?_, ?_, ?_⟩, ?_, ?_, ?_, HB9.out.D, HB9.out.M⟩
        · exact i64_small (x := 5) ⟨by omega, by omega⟩
        · exact i64_small (x := 0) ⟨by omega, by omega⟩
        · exact i64_small (x := 0) ⟨by omega, by omega⟩
        · exact i64_small (x := 0) ⟨by omega, by omega⟩
        · exact i64_small (x := 0) ⟨by omega, by omega⟩
        · rw [convB, if_neg (show ¬ (1 ≤ (5 : Int) ∧ (5 : Int) ≤ 4) by omega), HTAB.out]; rfl
        · exact O9.down HW
        · have := HLEN.out; omega
end Go.Proofs.Ytijjkonephjodaa
