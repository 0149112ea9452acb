/- DiscreteApplies: the walk. -/
import Derived.Test.YtokokojmeepoeaaRefD
import Derived.Test.YtokokojmeepoeaaAwakeD
import Derived.Test.YtokokojmeepoeaaChgApp
import Derived.Test.YtokokojmeepoeaaThresholdNested
import Derived.Test.YtokokojmeepoeaaText
namespace Go.Proofs.Ytokokojmeepoeaa
open Go.RowKit

theorem alloc_at {w : World} {n : Nat} (h : w.heap.size = n) (o : Obj) : (w.alloc o).heap[n]? = some o := h ▸ heap_alloc_new w o
set_option maxRecDepth 100000 in
set_option maxHeartbeats 4000000 in
theorem discreteApplies_walk (w : World) (a : Int) (ha : 0 ≤ a ∧ a ≤ 65535) (vl : Value) (l : List Chg) (hcl : RdChg w vl l) (hok : ChgOk l) (v : Value) (L : List Int) (hv : Rd w v (i64s L)) (hb : ∀ i, -9223372036854775808 ≤ L.getD i 0 ∧ L.getD i 0 ≤ 9223372036854775807) :
    Calls Try.prog 4 #[.int .u16 a, vl, v] w fun e w' => e = .returned (.bool true) ∧ Mods [] w w' := by
  obtain ⟨a0, a1⟩ := ha
  obtain ⟨st, rfl⟩ := Int.eq_ofNat_of_zero_le a0
  have hst : st < 65536 := by omega
  have HCL := Lib.hid hcl
  have HOK := Lib.hid hok
  obtain ⟨adl, capl, rfl, hk1, hk2, _⟩ := hcl
  have hk3 : capl ≤ 9223372036854775807 := hk2
  clear a0 a1 hk2 hok
  by_cases hl2 : l.length ≤ 100
  · have HGT : decide ((100 : Int) < (l.length : Int)) = false := decide_eq_false (by omega)
    have HL := Lib.hid (light_ok w v L hv)
    have HV := Lib.hid hv
    have HB := Lib.hid hb
    clear hv hb
    by_cases hl : L.length ≤ 600
    · skip
      have HLL := Lib.hid (decide_eq_true hl)
      go_enter Try.func4, Try.ntmps4
      go_wp2_with fail
      refine HL.out.mono ?_
      rw [HLL.out]
      rintro e w' ⟨rfl, rfl⟩
      go_wp2_with fail
      refine (roll_ok w v L HV.out (by omega) HB.out).mono ?_
      rintro e w1 ⟨rfl, D1, M1, z1⟩
      go_wp2_with fail
      refine (next_ok w1 w.heap.size v L 0 D1 20 (by omega) (by omega)).mono ?_
      rintro e w2 ⟨k0, n2, rfl, kk0, kk1, D2, M2⟩
      obtain ⟨k, rfl⟩ := Int.eq_ofNat_of_zero_le kk0
      have M2 : Mods [] w w2 := M1.comp M2 (fun q hq => by simp at hq; subst hq; exact .inr (Nat.le_refl _))
      have hbw := D2.lt
      have HVB := Lib.hid (fun (hl : L ≠ []) q hq => HV.out.block_lt (by simpa [i64s] using hl) q hq)
      generalize hbb : w.heap.size = b at D1 D2 hbw ⊢
      have HBB := Lib.hid hbb
      clear hbb
      go_wp2_with fail
      go_loopw [8, 9, 10] (fun m s i wr => ∃ (k now n : Nat) (l2 : List Chg), k ≤ 19 ∧ i = .int .i64 k ∧ s = .int .u16 now ∧ now < 65536 ∧ OwnChg wr w2.heap.size m l2 ∧ Hid (∀ c ∈ l2, I64 c.idx) ∧ l2.length + k ≤ 19 ∧ IsDice wr b v L n ∧ Mods [] w wr ∧ w2.heap.size ≤ wr.heap.size) (fun _ _ i _ => (intOf i).toNat)
      case atStart => exact ⟨k, st, n2, [], by omega, rfl, rfl, hst, OwnChg.nil _ _, Lib.hid (by simp), by simp; omega, D2, M2, Nat.le_refl _⟩
      case round =>
        obtain ⟨k, now, n, l2, hk, rfl, rfl, hnow, O, HI, hlen, D, M, hz⟩ := hrel
        clear D1 D2 M1 M2
        by_cases hk0 : 0 < k
        · have d0 : decide ((0 : Int) < (k : Int)) = true := decide_eq_true (by omega)
          go_wp2_with fail
          refine (next_ok wr b v L n D 15 (by omega) (by omega)).mono ?_
          rintro e w3 ⟨j0, n3, rfl, j1, j2, D3, M3⟩
          obtain ⟨j, rfl⟩ := Int.eq_ofNat_of_zero_le j1
          have t1 := tbI0 now j
          have hpow : IntKind.u16.wrap ((2 : Int) ^ j) = ((2 ^ j : Nat) : Int) := by
            rw [IntKind.wrap_u16]
            have h1 : 2 ^ j < 65536 := Nat.pow_lt_pow_right (a := 2) (n := 16) (by omega) (by omega)
            have h2 : ((2 ^ j : Nat) : Int) = (2 : Int) ^ j := by simp
            rw [← h2]; exact Int.emod_eq_of_lt (Int.natCast_nonneg _) (Int.ofNat_lt.2 h1)
          have hp1 : 2 ^ j < 65536 := Nat.pow_lt_pow_right (a := 2) (n := 16) (by omega) (by omega)
          have hxo : bits .xor .u16 (now : Int) ((2 ^ j : Nat) : Int) = ((now ^^^ 2 ^ j : Nat) : Int) := u16_xor_nat _ _ hnow hp1
          have hxl : now ^^^ 2 ^ j < 65536 := Nat.xor_lt_two_pow (n := 16) hnow hp1
          have HMM := Lib.hid (M.comp M3 (fun q hq => by simp at hq; subst hq; exact .inr (Nat.le_of_eq HBB.out)))
          have HO := Lib.hid (O.mods M3 (by simp; omega))
          have hz3 := M3.size
          have HOW := Lib.hid (fun q hq => (O.own q hq).2)
          generalize now ^^^ 2 ^ j = now2 at hxo hxl
          generalize 2 ^ j = p at hpow hxo hp1
          generalize (!now.testBit j) = tb1 at t1
          clear M3 D O M
          go_wp2_with fail
          have R4 := heap_alloc_new w3 (.cells #[.int .i64 (j : Int), .bool tb1] 51)
          have M4 := (Mods.refl (S := []) (w := w3)).alloc (.cells #[.int .i64 (j : Int), .bool tb1] 51)
          generalize w3.alloc (.cells #[.int .i64 (j : Int), .bool tb1] 51) = w4 at R4 M4 ⊢
          have D4 := D3.mods0 M4
          have HMM := Lib.hid (HMM.out.trans M4)
          have HO := Lib.hid (HO.out.mods0 M4)
          have hz4 := M4.size
          have hbl := D3.lt
          have hvl := Lib.hid D3.vlt
          generalize hgc : w3.heap.size = gc at R4 hz3 hz4 hbl hvl ⊢
          have hgn : gc ≠ b := by omega
          have hw2 : w2.heap.size ≤ gc := by omega
          have HGC := Lib.hid (show w.heap.size ≤ gc by have := HBB.out; omega)
          clear hgc M4 D3 t1 hpow hp1 hxo
          refine (bool_ok w4 b v L n3 D4 60 (by omega) (by omega)).mono ?_
          rintro e w5 ⟨q1, n5, rfl, D5, M5⟩
          have R5 := M5.heap R4 (by simpa using hgn)
          have HMM := Lib.hid (HMM.out.comp M5 (fun q hq => by simp at hq; subst hq; exact .inr (Nat.le_of_eq HBB.out)))
          have HO := Lib.hid (HO.out.mods M5 (by simp; omega))
          have hz5 := M5.size
          clear M5 R4 D4
          cases q1 with
          | false =>
            have HMX := HMM
            have HOX := HO
            go_wp2_with fail
            have HRR := Lib.hid R5
            clear R5
            refine (bool_ok _ b v L n5 D5 60 (by omega) (by omega)).mono ?_
            rintro e w7 ⟨q2, n7, rfl, D7, M7⟩
            have R7 := M7.heap HRR.out (by simpa using hgn)
            have HMM := Lib.hid (HMX.out.comp M7 (fun q hq => by simp at hq; subst hq; exact .inr (Nat.le_of_eq HBB.out)))
            have HO := Lib.hid (HOX.out.mods M7 (by simp; omega))
            have hz7 := M7.size
            clear M7
            cases q2 with
            | false =>
              have c0 : w7.cell? ⟨gc, 0, none⟩ = some (.int .i64 (j:Int)) := cell_blk R7 0
              have c1 : w7.cell? ⟨gc, 1, none⟩ = some (.bool tb1) := cell_blk R7 1
              have HDF := Lib.hid D7
              clear D7 R7
              go_wp2_with (at_builtin; refine wpList_pushC rfl (.tmp 65) (.tmp 67) rfl w2.heap.size _ l2 (by rfl) (HO.out.mods0 (Mods.refl.alloc _)) w7.heap.size ⟨(j:Int), tb1⟩ _ _ (heap_alloc_new w7 _) (by rfl) (by omega) (by simp; omega) ?_)
              intro v' w9 O9 M9
              have D9 := (HDF.out.mods0 (Mods.refl.alloc _)).mods M9 (not_from (by omega)) (fun hl q hq => not_from (by have := HVB.out hl q hq; have := HBB.out; omega))
              have hz9 := M9.size
              have M9 := Lib.hid ((HMM.out.alloc _).then_from M9 (by have := HBB.out; omega))
              have O9 := Lib.hid O9
              have hz9 := Lib.hid (show w2.heap.size ≤ w9.heap.size by simp at hz9; omega)
              clear c0 c1
              go_wp2
              exact ⟨⟨k - 1, now2, _, l2 ++ [⟨(j:Int), tb1⟩], by omega, by rw [show ((k - 1 : Nat) : Int) = (k : Int) - 1 by omega], rfl, hxl, O9.out, Lib.hid (fun c hc => by
                rcases List.mem_append.1 hc with h | h
                · exact HI.out c h
                · simp at h; subst h; exact ⟨by simp only []; omega, by simp only []; omega⟩), by simp; omega, D9, M9.out, hz9.out⟩, by simp only [intOf]; omega⟩
            | true =>
              go_wp2_with fail
              refine (next_ok w7 b v L n7 D7 2 (by omega) (by omega)).mono ?_
              rintro e w8 ⟨x, n8, rfl, xx0, xx1, D8, M8⟩
              have R8 := M8.heap R7 (by simpa using hgn)
              have HMM := Lib.hid (HMM.out.comp M8 (fun q hq => by simp at hq; subst hq; exact .inr (Nat.le_of_eq HBB.out)))
              have HO := Lib.hid (HO.out.mods M8 (by simp; omega))
              have hz8 := M8.size
              have cc : w8.cell? ⟨gc, 0, none⟩ = some (.int .i64 (j : Int)) := cell_blk R8 0
              have cc1 : w8.cell? ⟨gc, 1, none⟩ = some (.bool tb1) := cell_blk R8 1
              have ff : w8.frozen? ⟨gc, 0, none⟩ = false := froz_blk R8 0
              have R10 := heap_setCell (i := 0) (v := .int .i64 (15 - 16 * x)) R8
              have HMM := Lib.hid (HMM.out.setCell (p := ⟨gc, 0, none⟩) (.inr HGC.out) (.int .i64 (15 - 16 * x)))
              have HO : Hid (OwnChg (w8.setCell ⟨gc, 0, none⟩ (.int .i64 (15 - 16 * x))) w2.heap.size u8 l2) := Lib.hid (((Mods.refl (S := [gc])).setCell (p := ⟨gc, 0, none⟩) (.inl (by simp)) (.int .i64 (15 - 16 * x))).owns HO.out (fun q hq => by have := HOW.out q hq; simp; omega))
              have hzy := ((Mods.refl (S := [gc]) (w := w8)).setCell (p := ⟨gc, 0, none⟩) (.inl (by simp)) (.int .i64 (15 - 16 * x))).size
              have D10 := D8.set (p := ⟨gc, 0, none⟩) (by simpa using hgn) (fun hl k hk => by have := hvl.out hl k hk; simp; omega) (.int .i64 (15 - 16 * x))
              clear M8 R8 R7 D7 D8
              have hsz : (w8.setCell ⟨gc, 0, none⟩ (.int .i64 (15 - 16 * x))).heap.size = w8.heap.size := by simp
              have hxr : -1 ≤ 15 - 16 * x ∧ 15 - 16 * x ≤ 15 := by omega
              have c0 : (w8.setCell ⟨gc,0,none⟩ (.int .i64 (15-16*x))).cell? ⟨gc, 0, none⟩ = some (.int .i64 (15-16*x)) := cell_blk R10 0
              have c1 : (w8.setCell ⟨gc,0,none⟩ (.int .i64 (15-16*x))).cell? ⟨gc, 1, none⟩ = some (.bool tb1) := cell_blk R10 1
              have HDF := Lib.hid D10
              clear D10 R10
              go_wp2_with (at_builtin; refine wpList_pushC rfl (.tmp 65) (.tmp 67) rfl w2.heap.size _ l2 (by rfl) (HO.out.mods0 (Mods.refl.alloc _)) w8.heap.size ⟨(15-16*x), tb1⟩ _ _ (alloc_at hsz _) (by rfl) (by omega) (by simp; omega) ?_)
              intro v' w9 O9 M9
              have D9 := (HDF.out.mods0 (Mods.refl.alloc _)).mods M9 (not_from (by omega)) (fun hl q hq => not_from (by have := HVB.out hl q hq; have := HBB.out; omega))
              have hz9 := M9.size
              have M9 := Lib.hid ((HMM.out.alloc _).then_from M9 (by have := HBB.out; omega))
              have O9 := Lib.hid O9
              have hz9 := Lib.hid (show w2.heap.size ≤ w9.heap.size by simp at hz9; omega)
              clear c0 c1
              go_wp2
              exact ⟨⟨k - 1, now2, _, l2 ++ [⟨(15-16*x), tb1⟩], by omega, by rw [show ((k - 1 : Nat) : Int) = (k : Int) - 1 by omega], rfl, hxl, O9.out, Lib.hid (fun c hc => by
                rcases List.mem_append.1 hc with h | h
                · exact HI.out c h
                · simp at h; subst h; exact ⟨by simp only []; omega, by simp only []; omega⟩), by simp; omega, D9, M9.out, hz9.out⟩, by simp only [intOf]; omega⟩
          | true =>
            have c1 : w5.cell? ⟨gc, 1, none⟩ = some (.bool tb1) := cell_blk R5 1
            have f1 : w5.frozen? ⟨gc, 1, none⟩ = false := froz_blk R5 1
            have R6 := heap_setCell (i := 1) (v := .bool (!tb1)) R5
            have HMX := Lib.hid (HMM.out.setCell (p := ⟨gc, 1, none⟩) (.inr HGC.out) (.bool (!tb1)))
            have HOX : Hid (OwnChg (w5.setCell ⟨gc, 1, none⟩ (.bool (!tb1))) w2.heap.size u8 l2) := Lib.hid (((Mods.refl (S := [gc])).setCell (p := ⟨gc, 1, none⟩) (.inl (by simp)) (.bool (!tb1))).owns HO.out (fun q hq => by have := HOW.out q hq; simp; omega))
            have hzx := ((Mods.refl (S := [gc]) (w := w5)).setCell (p := ⟨gc, 1, none⟩) (.inl (by simp)) (.bool (!tb1))).size
            have D6 := D5.set (p := ⟨gc, 1, none⟩) (by simpa using hgn) (fun hl k hk => by have := hvl.out hl k hk; simp; omega) (.bool (!tb1))
            go_wp2_with fail
            clear c1 f1
            generalize (!tb1) = tb2 at R6 HMX HOX D6 hzx ⊢
            generalize w5.setCell ⟨gc, 1, none⟩ (.bool tb2) = w6 at R6 HMX HOX D6 hzx ⊢
            have R6 : w6.heap[gc]? = some (.cells #[.int .i64 (j : Int), .bool tb2] 51 (0, 0)) := R6
            have HRR := Lib.hid R6
            clear R6
            refine (bool_ok _ b v L n5 D6 60 (by omega) (by omega)).mono ?_
            rintro e w7 ⟨q2, n7, rfl, D7, M7⟩
            have R7 := M7.heap HRR.out (by simpa using hgn)
            have HMM := Lib.hid (HMX.out.comp M7 (fun q hq => by simp at hq; subst hq; exact .inr (Nat.le_of_eq HBB.out)))
            have HO := Lib.hid (HOX.out.mods M7 (by simp; omega))
            have hz7 := M7.size
            clear M7
            cases q2 with
            | false =>
              have c0 : w7.cell? ⟨gc, 0, none⟩ = some (.int .i64 (j:Int)) := cell_blk R7 0
              have c1 : w7.cell? ⟨gc, 1, none⟩ = some (.bool tb2) := cell_blk R7 1
              have HDF := Lib.hid D7
              clear D7 R7
              go_wp2_with (at_builtin; refine wpList_pushC rfl (.tmp 65) (.tmp 67) rfl w2.heap.size _ l2 (by rfl) (HO.out.mods0 (Mods.refl.alloc _)) w7.heap.size ⟨(j:Int), tb2⟩ _ _ (heap_alloc_new w7 _) (by rfl) (by omega) (by simp; omega) ?_)
              intro v' w9 O9 M9
              have D9 := (HDF.out.mods0 (Mods.refl.alloc _)).mods M9 (not_from (by omega)) (fun hl q hq => not_from (by have := HVB.out hl q hq; have := HBB.out; omega))
              have hz9 := M9.size
              have M9 := Lib.hid ((HMM.out.alloc _).then_from M9 (by have := HBB.out; omega))
              have O9 := Lib.hid O9
              have hz9 := Lib.hid (show w2.heap.size ≤ w9.heap.size by simp at hz9; omega)
              clear c0 c1
              go_wp2
              exact ⟨⟨k - 1, now2, _, l2 ++ [⟨(j:Int), tb2⟩], by omega, by rw [show ((k - 1 : Nat) : Int) = (k : Int) - 1 by omega], rfl, hxl, O9.out, Lib.hid (fun c hc => by
                rcases List.mem_append.1 hc with h | h
                · exact HI.out c h
                · simp at h; subst h; exact ⟨by simp only []; omega, by simp only []; omega⟩), by simp; omega, D9, M9.out, hz9.out⟩, by simp only [intOf]; omega⟩
            | true =>
              go_wp2_with fail
              refine (next_ok w7 b v L n7 D7 2 (by omega) (by omega)).mono ?_
              rintro e w8 ⟨x, n8, rfl, xx0, xx1, D8, M8⟩
              have R8 := M8.heap R7 (by simpa using hgn)
              have HMM := Lib.hid (HMM.out.comp M8 (fun q hq => by simp at hq; subst hq; exact .inr (Nat.le_of_eq HBB.out)))
              have HO := Lib.hid (HO.out.mods M8 (by simp; omega))
              have hz8 := M8.size
              have cc : w8.cell? ⟨gc, 0, none⟩ = some (.int .i64 (j : Int)) := cell_blk R8 0
              have cc1 : w8.cell? ⟨gc, 1, none⟩ = some (.bool tb2) := cell_blk R8 1
              have ff : w8.frozen? ⟨gc, 0, none⟩ = false := froz_blk R8 0
              have R10 := heap_setCell (i := 0) (v := .int .i64 (15 - 16 * x)) R8
              have HMM := Lib.hid (HMM.out.setCell (p := ⟨gc, 0, none⟩) (.inr HGC.out) (.int .i64 (15 - 16 * x)))
              have HO : Hid (OwnChg (w8.setCell ⟨gc, 0, none⟩ (.int .i64 (15 - 16 * x))) w2.heap.size u8 l2) := Lib.hid (((Mods.refl (S := [gc])).setCell (p := ⟨gc, 0, none⟩) (.inl (by simp)) (.int .i64 (15 - 16 * x))).owns HO.out (fun q hq => by have := HOW.out q hq; simp; omega))
              have hzy := ((Mods.refl (S := [gc]) (w := w8)).setCell (p := ⟨gc, 0, none⟩) (.inl (by simp)) (.int .i64 (15 - 16 * x))).size
              have D10 := D8.set (p := ⟨gc, 0, none⟩) (by simpa using hgn) (fun hl k hk => by have := hvl.out hl k hk; simp; omega) (.int .i64 (15 - 16 * x))
              clear M8 R8 R7 D7 D8
              have hsz : (w8.setCell ⟨gc, 0, none⟩ (.int .i64 (15 - 16 * x))).heap.size = w8.heap.size := by simp
              have hxr : -1 ≤ 15 - 16 * x ∧ 15 - 16 * x ≤ 15 := by omega
              have c0 : (w8.setCell ⟨gc,0,none⟩ (.int .i64 (15-16*x))).cell? ⟨gc, 0, none⟩ = some (.int .i64 (15-16*x)) := cell_blk R10 0
              have c1 : (w8.setCell ⟨gc,0,none⟩ (.int .i64 (15-16*x))).cell? ⟨gc, 1, none⟩ = some (.bool tb2) := cell_blk R10 1
              have HDF := Lib.hid D10
              clear D10 R10
              go_wp2_with (at_builtin; refine wpList_pushC rfl (.tmp 65) (.tmp 67) rfl w2.heap.size _ l2 (by rfl) (HO.out.mods0 (Mods.refl.alloc _)) w8.heap.size ⟨(15-16*x), tb2⟩ _ _ (alloc_at hsz _) (by rfl) (by omega) (by simp; omega) ?_)
              intro v' w9 O9 M9
              have D9 := (HDF.out.mods0 (Mods.refl.alloc _)).mods M9 (not_from (by omega)) (fun hl q hq => not_from (by have := HVB.out hl q hq; have := HBB.out; omega))
              have hz9 := M9.size
              have M9 := Lib.hid ((HMM.out.alloc _).then_from M9 (by have := HBB.out; omega))
              have O9 := Lib.hid O9
              have hz9 := Lib.hid (show w2.heap.size ≤ w9.heap.size by simp at hz9; omega)
              clear c0 c1
              go_wp2
              exact ⟨⟨k - 1, now2, _, l2 ++ [⟨(15-16*x), tb2⟩], by omega, by rw [show ((k - 1 : Nat) : Int) = (k : Int) - 1 by omega], rfl, hxl, O9.out, Lib.hid (fun c hc => by
                rcases List.mem_append.1 hc with h | h
                · exact HI.out c h
                · simp at h; subst h; exact ⟨by simp only []; omega, by simp only []; omega⟩), by simp; omega, D9, M9.out, hz9.out⟩, by simp only [intOf]; omega⟩
        · have d0 : decide ((0 : Int) < (k : Int)) = false := decide_eq_false (by omega)
          have HRL := Lib.hid (HCL.out.mods0 M)
          have HRM := Lib.hid O.rd
          have HIM := Lib.hid (ChgOk.of HI.out)
          have HM := Lib.hid M
          have hl3 : l2.length ≤ 1000000 := by omega
          have hl4 : l.length ≤ 1000000 := by omega
          obtain ⟨adm, capm, rfl, hm1, hm2, _⟩ := O.rd
          have hm3 : capm ≤ 9223372036854775807 := hm2
          clear hm2 O D M HI
          go_wp2_with fail
          have R5 := heap_alloc_new wr (.cells #[.slice adl l.length capl, .slice adm l2.length capm] 42)
          have M5 := (Mods.refl (S := []) (w := wr)).alloc (.cells #[.slice adl l.length capl, .slice adm l2.length capm] 42)
          generalize wr.alloc (.cells #[.slice adl l.length capl, .slice adm l2.length capm] 42) = w5 at R5 M5 ⊢
          generalize wr.heap.size = gx at R5 ⊢
          have HRL := Lib.hid (HRL.out.mods0 M5)
          have HRM := Lib.hid (HRM.out.mods0 M5)
          have HM := Lib.hid (HM.out.trans M5)
          have HR5 := Lib.hid R5
          clear M5 R5
          go_loopw [73] (fun i w6 => ∃ q : Nat, q ≤ 2 ∧ i = .int .i64 q ∧ Mods [] w5 w6) (fun i _ => 2 - (intOf i).toNat)
          case atStart => exact ⟨0, by omega, rfl, Mods.refl⟩
          case round =>
            obtain ⟨q, hq, rfl, M6⟩ := hrel
            have hcase : q = 0 ∨ q = 1 ∨ q = 2 := by omega
            have HR6 := Lib.hid (M6.heap HR5.out (by simp))
            have HM6 := Lib.hid M6
            clear M6
            rcases hcase with hqq | hqq | hqq
            · skip
              have c0 : wr.cell? ⟨gx, q, none⟩ = some (.slice adl l.length capl) := by rw [hqq]; exact cell_blk HR6.out 0
              have i1 : (0 : Int) ≤ (q : Int) := by omega
              have i2 : (q : Int) < 2 := by omega
              clear hqq
              go_wp2_with fail
              refine (apply_ok _ st hst _ l (HRL.out.mods0 HM6.out) HOK.out (by omega)).mono ?_
              rintro e w7 ⟨rfl, M7⟩
              have HM7 := Lib.hid (HM6.out.trans M7)
              clear M7
              go_wp2_with fail
              refine (refApply_ok _ st hst _ l (HRL.out.mods0 HM7.out) HOK.out (by omega)).mono ?_
              rintro e w8 ⟨rfl, M8⟩
              have HM8 := Lib.hid (HM7.out.trans M8)
              clear M8
              go_wp2_with fail
              exact ⟨⟨q + 1, by omega, by go_num, HM8.out⟩, by simp only [intOf]; omega⟩
            · skip
              have c0 : wr.cell? ⟨gx, q, none⟩ = some (.slice adm l2.length capm) := by rw [hqq]; exact cell_blk HR6.out 1
              have i1 : (0 : Int) ≤ (q : Int) := by omega
              have i2 : (q : Int) < 2 := by omega
              clear hqq
              go_wp2_with fail
              refine (apply_ok _ st hst _ l2 (HRM.out.mods0 HM6.out) HIM.out (by omega)).mono ?_
              rintro e w7 ⟨rfl, M7⟩
              have HM7 := Lib.hid (HM6.out.trans M7)
              clear M7
              go_wp2_with fail
              refine (refApply_ok _ st hst _ l2 (HRM.out.mods0 HM7.out) HIM.out (by omega)).mono ?_
              rintro e w8 ⟨rfl, M8⟩
              have HM8 := Lib.hid (HM7.out.trans M8)
              clear M8
              go_wp2_with fail
              exact ⟨⟨q + 1, by omega, by go_num, HM8.out⟩, by simp only [intOf]; omega⟩
            · subst hqq
              have HM9 := Lib.hid (HM.out.trans HM6.out)
              go_wp2_with fail
              refine (awakeD_ok _).mono ?_
              rintro e w14 ⟨rfl, M14⟩
              go_wp2
              go_ret
              exact ⟨rfl, HM9.out.trans M14⟩
    · skip
      have HLL := Lib.hid (decide_eq_false hl)
      go_enter Try.func4, Try.ntmps4
      go_wp2_with fail
      refine HL.out.mono ?_
      rw [HLL.out]
      rintro e w' ⟨rfl, rfl⟩
      go_wp2_with fail
      refine (awakeD_ok _).mono ?_
      rintro e w1 ⟨rfl, M1⟩
      go_wp2
      go_ret
      exact ⟨rfl, M1⟩
  · have HGT : decide ((100 : Int) < (l.length : Int)) = true := decide_eq_true (by omega)
    go_enter Try.func4, Try.ntmps4
    go_wp2_with fail
    refine (awakeD_ok _).mono ?_
    rintro e w1 ⟨rfl, M1⟩
    go_wp2
    go_ret
    exact ⟨rfl, M1⟩
end Go.Proofs.Ytokokojmeepoeaa
