/- SensorKinds: the walk. -/
import Derived.Test.YtokokojmeepoeaaKinds
import Derived.Test.YtokokojmeepoeaaAwakeS
import Derived.Test.YtokokojmeepoeaaReady
import Derived.Test.YtokokojmeepoeaaMadeDig
namespace Go.Proofs.Ytokokojmeepoeaa
open Go.RowKit

set_option maxRecDepth 100000 in
set_option maxHeartbeats 4000000 in
theorem sensorKinds_walk (w : World) (v : Value) (L : List Int) (hv : Rd w v (i64s L)) (hb : ∀ i, -9223372036854775808 ≤ L.getD i 0 ∧ L.getD i 0 ≤ 9223372036854775807)
    (bit : Int) (hbit : I64 bit) (name : ByteArray) (hnm : name.size ≤ maxLen) :
    Calls Try.prog 16 #[v, .int .i64 bit, .string name] w fun e w' => e = .returned (.bool true) ∧ Mods [] w w' := by
  have hnm2 : name.size ≤ 9223372036854775807 := hnm
  have HBIT := Lib.hid hbit
  clear hnm hbit
  have HL := Lib.hid (light_ok w v L hv)
  have HV := Lib.hid hv
  have HB := Lib.hid hb
  clear hv hb
  by_cases hl : L.length ≤ 600
  · have HLL := Lib.hid (decide_eq_true hl)
    by_cases hn : name.size ≤ 40
    · have dn : decide ((name.size : Int) > 40) = false := decide_eq_false (by omega)
      have HLL := Lib.hid (decide_eq_true hl)
      go_enter Try.func16, Try.ntmps16
      go_wp2_with fail
      refine HL.out.mono ?_
      rw [HLL.out]
      rintro e w' ⟨rfl, rfl⟩
      go_wp2_with fail
      refine (roll_ok w v L HV.out (by omega) HB.out).mono ?_
      rintro e w1 ⟨rfl, D1, M1, z1⟩
      go_wp2_with fail
      refine (analogM_ok w1 w.heap.size v L 0 D1 1 (by omega)).mono ?_
      rintro e w2 ⟨S, P, n2, rfl, IS, VS, DS, OP, PL, SN, D2, M2⟩
      have hlt1 := D1.lt
      have M2 : Mods [] w w2 := M1.comp M2 (fun q hq => by simp at hq; subst hq; exact .inr (Nat.le_refl _))
      clear dn D1 M1
      go_wp2_with fail
      refine (digital_ok w2 w.heap.size v L n2 D2 2 (by omega)).mono ?_
      rintro e w3 ⟨U, n3, rfl, IU, VU, DU, HSL, OU, UN, D3, M3⟩
      have IS := IS.mods M3 (fun _ q hq => by have := OP.own q hq; simp; omega)
      have M3 : Mods [] w w3 := M2.comp M3 (fun q hq => by simp at hq; subst hq; exact .inr (Nat.le_refl _))
      have HIS := Lib.hid IS
      have HIU := Lib.hid IU
      have HVS := Lib.hid VS
      have HVU := Lib.hid VU
      have HDS := Lib.hid DS
      have HDU := Lib.hid DU
      have HM := Lib.hid M3
      have oneS := Lib.hid (Sen.one S IS.conv.rd.one)
      have oneU := Lib.hid (Sen.one U IU.conv.rd.one)
      have H8 := Lib.hid (show ∀ o o', ((w3.alloc o).alloc o').heap[w3.heap.size]? = some o from fun o o' => heap_alloc (heap_alloc_new w3 o))
      have Z1 : ∀ o, (w3.alloc o).heap.size = w3.heap.size + 1 := fun o => by simp
      have H9 := Lib.hid (show ∀ o o', ((w3.alloc o).alloc o').heap[w3.heap.size + 1]? = some o' from fun o o' => by have := heap_alloc_new (w3.alloc o) o'; rwa [Z1] at this)
      have HT := Lib.hid (((TB.start (T := 32) w3).allocA zS.cells).swap.allocA zS.cells)
      rw [Z1] at HT
      clear IS IU VS VU DS DU OP PL SN OU UN D2 D3 M2 M3 Z1 hlt1
      go_wp2_with (first
        | (refine wpList_store_row (cs := S.cells) rfl 32 (.tmp 8) (.tmp 31) rfl (H8.out _ _) (by rfl) (by rfl) (by rfl) S.infoS oneS.out ?_; intro w4 R4 M4; have HT4 := Lib.hid (HT.out.swap.storeA R4 M4); have H94 := Lib.hid (HT4.out.B _ rfl).1; clear R4 M4)
        | (refine wpList_store_row (cs := U.cells) rfl 32 (.tmp 9) (.tmp 33) rfl H94.out (by rfl) (by rfl) (by rfl) U.infoS oneU.out ?_; intro w5 R5 M5; have HB5 := Lib.hid ((Blks.nil w3).two (HT4.out.swap.storeA R5 M5).swap); clear R5 M5)
        | (refine wpList_load_sen rfl (.tmp 8) rfl ⟨(HB5.out.all _ (.head _)).1⟩ (by rfl) ?_))
      generalize w3.heap.size + 1 = gb at HB5 ⊢
      generalize w3.heap.size = ga at HB5 ⊢
      clear H8 H9 HT HT4 H94
      refine (valid_ok w5 S P (HIS.out.mods0 HB5.out.M)).mono ?_
      rw [HVS.out]
      rintro e w6 ⟨rfl, M6⟩
      have HB6 := Lib.hid (HB5.out.mods0 M6)
      clear M6 HB5
      go_wp2_with (refine wpList_load_senG (by rfl) (.tmp 9) rfl ⟨(HB6.out.all _ (.tail _ (.head _))).1⟩ (by rfl) ?_)
      refine (valid_ok w6 U [] (HIU.out.mods0 HB6.out.M)).mono ?_
      rw [HVU.out]
      rintro e w7 ⟨rfl, M7⟩
      have HB7 := Lib.hid (HB6.out.mods0 M7)
      clear M7 HB6
      go_wp2_with fail
      try dsimp only [Act.put]
      refine heldStart (S := fun W => Blks 32 w3 W [(ga, S.cells), (gb, U.cells)]) 6 rfl (by kernel_rfl) (HB7.out.mods0 (Mods.refl.drewN 1)) (fun hHeld => ?_)
      refine takeD (i := 0) (d := 42) (v := .agg S.cells) rfl rfl (by kernel_rfl) (by kernel_rfl) (by kernel_rfl) (fun _ _ _ h => h) (yieldsIf_load_row rfl 32 (.tmp 8) rfl ga rfl 32 S.cells (0, 0) _ (fun w h=>(h.all _ (.head _)).1) Try.underlying32 rfl S.infoS) hHeld ?_
      simp only [List.setIfInBounds_toArray, List.set_cons_zero, List.set_cons_succ]
      refine takeD (i := 1) (d := 43) (v := .agg U.cells) rfl rfl (by kernel_rfl) (by kernel_rfl) (by kernel_rfl) (fun _ _ _ h => h) (yieldsIf_load_row rfl 32 (.tmp 9) rfl gb rfl 32 U.cells (0, 0) _ (fun w h=>(h.all _ (.tail _ (.head _))).1) Try.underlying32 rfl U.infoS) hHeld ?_
      simp only [List.setIfInBounds_toArray, List.set_cons_zero, List.set_cons_succ]
      refine twoBoxes (fuel := 0) (T := 32) (z := zS.cells) (csA := S.cells) (csB := U.cells) rfl rfl rfl rfl rfl rfl rfl rfl rfl rfl rfl rfl ?r2 ?r3 rfl rfl rfl rfl S.infoS U.infoS oneS.out oneU.out (by simp) (by simp) (by decide) (by decide) (by decide) (by decide) (by decide) rfl rfl (by kernel_rfl) (fun w' M => hHeld.mods0 M) ?_
      case r2 => intro a w; rfl
      case r3 => intro a w; rfl
      intro gx gy w8 HT
      have HB8 := Lib.hid (hHeld.two HT)
      clear hHeld HT HB7
      simp only [List.setIfInBounds_toArray, List.set_cons_zero, List.set_cons_succ]
      have cx : w8.cell? ⟨gx, 6, none⟩ = some (.bool S.disc) := (cell_blk (HB8.out.all _ (.head _)).1 6).trans rfl
      have fx : w8.frozen? ⟨gx, 6, none⟩ = false := froz_blk (HB8.out.all _ (.head _)).1 6
      have HB9 : Hid (Blks _ w3 _ [(gx, S.kX.cells), (gy, U.cells), (ga, S.cells), (gb, U.cells)]) := Lib.hid (HB8.out.set 6 (.bool true))
      have cy : (w8.setCell ⟨gx, 6, none⟩ (.bool true)).cell? ⟨gy, 6, none⟩ = some (.bool U.disc) := (cell_blk (HB9.out.all _ (.tail _ (.head _))).1 6).trans rfl
      have fy : (w8.setCell ⟨gx, 6, none⟩ (.bool true)).frozen? ⟨gy, 6, none⟩ = false := froz_blk (HB9.out.all _ (.tail _ (.head _))).1 6
      have HB10 : Hid (Blks _ w3 _ [(gx, S.kX.cells), (gy, U.kY.cells), (ga, S.cells), (gb, U.cells)]) := Lib.hid (HB9.out.set2 6 (.bool false))
      go_wp2_with fail
      generalize (w8.setCell ⟨gx, 6, none⟩ (.bool true)).setCell ⟨gy, 6, none⟩ (.bool false) = w10 at HB10 ⊢
      clear cx fx cy fy HB8 HB9
      try dsimp only [Act.put]
      refine heldStart (S := fun W => Blks 32 w3 W [(gx, S.kX.cells), (gy, U.kY.cells), (ga, S.cells), (gb, U.cells)]) 6 rfl (by kernel_rfl) (HB10.out.mods0 (Mods.refl.drewN 1)) (fun hHeld => ?_)
      refine takeD (i := 0) (d := 46) (v := .agg S.cells) rfl rfl (by kernel_rfl) (by kernel_rfl) (by kernel_rfl) (fun _ _ _ h => h) (yieldsIf_load_row rfl 32 (.tmp 8) rfl ga rfl 32 S.cells (0, 0) _ (fun w h=>(h.all _ (.tail _ (.tail _ (.head _)))).1) Try.underlying32 rfl S.infoS) hHeld ?_
      simp only [List.setIfInBounds_toArray, List.set_cons_zero, List.set_cons_succ]
      refine takeD (i := 1) (d := 47) (v := .agg U.cells) rfl rfl (by kernel_rfl) (by kernel_rfl) (by kernel_rfl) (fun _ _ _ h => h) (yieldsIf_load_row rfl 32 (.tmp 9) rfl gb rfl 32 U.cells (0, 0) _ (fun w h=>(h.all _ (.tail _ (.tail _ (.tail _ (.head _))))).1) Try.underlying32 rfl U.infoS) hHeld ?_
      simp only [List.setIfInBounds_toArray, List.set_cons_zero, List.set_cons_succ]
      refine twoBoxes (fuel := 0) (T := 32) (z := zS.cells) (csA := S.cells) (csB := U.cells) rfl rfl rfl rfl rfl rfl rfl rfl rfl rfl rfl rfl ?r2 ?r3 rfl rfl rfl rfl S.infoS U.infoS oneS.out oneU.out (by simp) (by simp) (by decide) (by decide) (by decide) (by decide) (by decide) rfl rfl (by kernel_rfl) (fun w' M => hHeld.mods0 M) ?_
      case r2 => intro a w; rfl
      case r3 => intro a w; rfl
      intro gp gq w11 HT
      have HB11 := Lib.hid (hHeld.two HT)
      clear hHeld HT HB10
      simp only [List.setIfInBounds_toArray, List.set_cons_zero, List.set_cons_succ]
      have cx : w11.cell? ⟨gp, 24, none⟩ = some (.int .u16 S.asrt) := (cell_blk (HB11.out.all _ (.head _)).1 24).trans rfl
      have fx : w11.frozen? ⟨gp, 24, none⟩ = false := froz_blk (HB11.out.all _ (.head _)).1 24
      have ex : bits .or .u16 (S.asrt : Int) 64 = ((S.asrt ||| 64 : Nat) : Int) := u16_or_nat _ 64 HIS.out.asrt (by decide)
      have HB12 : Hid (Blks _ w3 _ [(gp, S.kP.cells), (gq, U.cells), (gx, S.kX.cells), (gy, U.kY.cells), (ga, S.cells), (gb, U.cells)]) := Lib.hid (HB11.out.set 24 (.int .u16 ((S.asrt ||| 64 : Nat) : Int)))
      have cy : (w11.setCell ⟨gp, 24, none⟩ (.int .u16 ((S.asrt ||| 64 : Nat) : Int))).cell? ⟨gq, 25, none⟩ = some (.int .u16 U.deas) := (cell_blk (HB12.out.all _ (.tail _ (.head _))).1 25).trans rfl
      have fy : (w11.setCell ⟨gp, 24, none⟩ (.int .u16 ((S.asrt ||| 64 : Nat) : Int))).frozen? ⟨gq, 25, none⟩ = false := froz_blk (HB12.out.all _ (.tail _ (.head _))).1 25
      have ey : bits .or .u16 (U.deas : Int) 32768 = ((U.deas ||| 32768 : Nat) : Int) := u16_or_nat _ 32768 HIU.out.deas (by decide)
      have HB13 : Hid (Blks _ w3 _ [(gp, S.kP.cells), (gq, U.kQ.cells), (gx, S.kX.cells), (gy, U.kY.cells), (ga, S.cells), (gb, U.cells)]) := Lib.hid (HB12.out.set2 25 (.int .u16 ((U.deas ||| 32768 : Nat) : Int)))
      go_wp2_with (first
        | (refine wpList_load_sen (S := U) rfl (.tmp 9) rfl ⟨(HB13.out.all (gb, _) (.tail _ (.tail _ (.tail _ (.tail _ (.tail _ (.head _))))))).1⟩ (by rfl) ?_; generalize (w11.setCell ⟨gp, 24, none⟩ (.int .u16 ((S.asrt ||| 64 : Nat) : Int))).setCell ⟨gq, 25, none⟩ (.int .u16 ((U.deas ||| 32768 : Nat) : Int)) = w13 at HB13 ⊢)
        | (show wpList _ _ _ (⟨none, .store 32 _ _, _, _, _, _⟩ :: _) _ _; go_must (refine wpList_store_row (cs := U.cells) rfl 32 (.tmp 14) (.tmp 56) rfl (heap_alloc_new w13 _) (by rfl) (by rfl) (by rfl) U.infoS oneU.out ?_; intro w14 R4 M4; have HB14 := Lib.hid (HB13.out.push (Nat.le_refl _) R4 (fresh M4)); clear R4 M4)))
      generalize w13.heap.size = gu at HB14 ⊢
      clear cx fx cy fy ex ey HB11 HB12 HB13
      refine (mod_ok bit 15 w14 HBIT.out (by omega) (by omega)).mono ?_
      rintro e w15 ⟨rfl, rfl⟩
      obtain ⟨k, hk⟩ := Int.eq_ofNat_of_zero_le (Int.emod_nonneg bit (show (15 : Int) ≠ 0 by omega))
      have hk15 : k < 15 := by have := Int.emod_lt_of_pos bit (show (0 : Int) < 15 by omega); omega
      rw [hk]
      clear hk
      obtain ⟨K, hK⟩ : ∃ K : Nat, K = 2 ^ k := ⟨_, rfl⟩
      have hKlt : K < 32768 := by rw [hK]; exact Nat.lt_of_lt_of_eq (Nat.pow_lt_pow_right (a := 2) (n := 15) (by decide) hk15) rfl
      have e2k : IntKind.u16.wrap (2 ^ k) = (K : Int) := by rw [hK, IntKind.wrap_u16]; have : ((2 : Int) ^ k) = ((2 ^ k : Nat) : Int) := by push_cast; rfl
                                                            rw [this, ← hK]; omega
      have HK := Lib.hid hK
      have cx : w14.cell? ⟨gu, 24, none⟩ = some (.int .u16 U.asrt) := (cell_blk (HB14.out.all _ (.head _)).1 24).trans rfl
      have fx : w14.frozen? ⟨gu, 24, none⟩ = false := froz_blk (HB14.out.all _ (.head _)).1 24
      have ex : bits .or .u16 (U.asrt : Int) (K : Int) = ((U.asrt ||| K : Nat) : Int) := u16_or_nat _ K HIU.out.asrt (by omega)
      have HB15 : Hid (Blks _ w3 (w14.setCell ⟨gu, 24, none⟩ (.int .u16 ((U.asrt ||| K : Nat) : Int))) ((gu, (U.kU k).cells) :: _)) := Lib.hid (by have := HB14.out.set 24 (.int .u16 ((U.asrt ||| K : Nat) : Int)); have e : U.cells.setIfInBounds 24 (.int .u16 ((U.asrt ||| K : Nat) : Int)) = (U.kU k).cells := (by rw [hK]; rfl); rw [e] at this; exact this)
      clear hK
      go_wp2_with (first
        | (refine wpList_load_sen (S := S) rfl (.tmp 8) rfl ⟨(HB15.out.all (ga, _) (.tail _ (.tail _ (.tail _ (.tail _ (.tail _ (.head _))))))).1⟩ (by rfl) ?_; generalize w14.setCell ⟨gu, 24, none⟩ (.int .u16 ((U.asrt ||| K : Nat) : Int)) = w15 at HB15 ⊢; clear cx fx ex e2k HB14)
        | (refine wpList_store_row (cs := S.cells) rfl 32 (.tmp 16) (.tmp 66) rfl (heap_alloc_new w15 _) (by rfl) (by rfl) (by rfl) S.infoS oneS.out ?_; intro w16 R4 M4; have HB16 := Lib.hid (HB15.out.push (Nat.le_refl _) R4 (fresh M4)); clear R4 M4; generalize w15.heap.size = gz at HB16 ⊢; have c3 : w16.cell? ⟨gz, 3, none⟩ = some (.string S.name) := ((cell_blk (HB16.out.all _ (.head _)).1 3).trans rfl); have f3 : w16.frozen? ⟨gz, 3, none⟩ = false := froz_blk (HB16.out.all _ (.head _)).1 3))
      all_goals
        have HB17 : Hid (Blks _ w3 _ ((gz, (S.kZ name).cells) :: _)) := Lib.hid (HB16.out.set 3 (.string name))
        generalize w16.setCell ⟨gz, 3, none⟩ (.string name) = w17 at HB17 ⊢
        clear c3 f3 HB15 HB16
        go_loopw [17, 18] (fun g i wr => ∃ (q : Nat) (gd : Bool), q ≤ name.size ∧ i = .int .i64 q ∧ g = .bool gd ∧ wr = w17 ∧ Hid (gd = true ↔ ((1 ≤ name.size ∧ name.size ≤ 16) ∧ ∀ j (hj : j < name.size), j < q → charB name[j] = true))) (fun _ i _ => name.size - (intOf i).toNat)
        case atStart => exact ⟨0, _, Nat.zero_le _, rfl, rfl, rfl, Lib.hid ⟨fun h => ⟨by simp at h <;> omega, fun j _ h0 => by omega⟩, fun h => by simp; omega⟩⟩
        case round =>
          obtain ⟨q, gd, hq, rfl, rfl, rfl, HG⟩ := hrel
          by_cases hlt : q < name.size
          · have i1 : (0 : Int) ≤ (q : Int) := by omega
            have i2 : (q : Int) < (name.size : Int) := by omega
            cases gd with
            | false =>
              have HG2 : Hid (false = true ↔ ((1 ≤ name.size ∧ name.size ≤ 16) ∧ ∀ j (hj : j < name.size), j < q + 1 → charB name[j] = true)) := Lib.hid ⟨fun h => (by cases h), fun h => HG.out.2 ⟨h.1, fun j hj h1 => h.2 j hj (by omega)⟩⟩
              go_wp2
              exact ⟨⟨q + 1, _, by omega, by go_num, rfl, (by first | rfl | trivial), HG2⟩, by simp only [intOf]; omega⟩
            | true =>
              have hA := HG.out.1 rfl
              have HG2 : ∀ b : Bool, b = charB name[q] → Hid (b = true ↔ ((1 ≤ name.size ∧ name.size ≤ 16) ∧ ∀ j (hj : j < name.size), j < q + 1 → charB name[j] = true)) := fun b hb => Lib.hid ⟨fun h => ⟨hA.1, fun j hj h1 => by
                rcases Nat.lt_or_ge j q with h2 | h2
                · exact hA.2 j hj h2
                · obtain rfl : j = q := by omega
                  rw [← hb]; exact h⟩, fun h => by rw [hb]; exact h.2 q hlt (by omega)⟩
              have HG2 := Lib.hid HG2
              clear hA
              by_cases h1 : 32 ≤ (name[q].toNat : Int)
              · have e1 : decide (32 ≤ (name[q].toNat : Int)) = true := decide_eq_true h1
                have HG3 := Lib.hid (HG2.out (decide ((name[q].toNat : Int) ≤ 126)) (by rw [Bool.eq_iff_iff]; simp only [charB, decide_eq_true_eq]; omega))
                clear h1
                go_wp2
                exact ⟨⟨q + 1, _, by omega, by go_num, rfl, (by first | rfl | trivial), HG3⟩, by simp only [intOf]; omega⟩
              · have e1 : decide (32 ≤ (name[q].toNat : Int)) = false := decide_eq_false h1
                have HG3 := Lib.hid (HG2.out false (by rw [Bool.eq_iff_iff]; simp only [charB, decide_eq_true_eq, Bool.false_eq_true, false_iff]; omega))
                clear h1
                go_wp2
                exact ⟨⟨q + 1, _, by omega, by go_num, rfl, (by first | rfl | trivial), HG3⟩, by simp only [intOf]; omega⟩
          · have HG2 := Lib.hid (show gd = nameB name by rw [Bool.eq_iff_iff, HG.out, nameB_iff]; exact ⟨fun h => ⟨h.1, fun j hj => h.2 j hj (by omega)⟩, fun h => ⟨h.1, fun j hj _ => h.2 j hj⟩⟩)
            have HVX := Lib.hid (show validB S.kX P = false from kind_x HVS.out HDS.out)
            have HVY := Lib.hid (show validB U.kY [] = false from kind_y HVU.out HDU.out)
            have HVP := Lib.hid (show validB S.kP P = false from kind_p HDS.out)
            have HVQ := Lib.hid (show validB U.kQ [] = false from kind_q HDU.out)
            obtain ⟨vb, hvb⟩ : ∃ vb, vb = decide (U.states &&& 2 ^ k ≠ 0) := ⟨_, rfl⟩
            have HVK := Lib.hid (show validB (U.kU k) [] = vb by rw [hvb]; exact kind_u HVU.out HDU.out k hk15)
            have HVZ := Lib.hid (show validB (S.kZ name) P = gd by rw [HG2.out]; exact kind_z HVS.out name)
            have eK : bits .and .u16 (U.states : Int) (K : Int) = ((U.states &&& K : Nat) : Int) := u16_and_nat _ K (by omega) (by omega)
            have eN : (((U.states &&& K : Nat) : Int) != 0) = vb := by rw [hvb, HK.out, Bool.eq_iff_iff]; simp
            have eV : (vb == vb) = true := by cases vb <;> rfl
            have eG : (gd == gd) = true := by cases gd <;> rfl
            clear hvb
            go_wp2_with fail
            try dsimp only [Act.put]
            refine heldStart (S := fun W => Blks 32 w3 W [(gz, (S.kZ name).cells), (gu, (U.kU k).cells), (gp, S.kP.cells), (gq, U.kQ.cells), (gx, S.kX.cells), (gy, U.kY.cells), (ga, S.cells), (gb, U.cells)]) 38 rfl (by kernel_rfl) (HB17.out.mods0 (Mods.refl.drewN 1)) (fun hHeld => ?_)
            refine takeD (i := 0) (d := 96) (v := .agg S.kX.cells) rfl rfl (by kernel_rfl) (by kernel_rfl) (by kernel_rfl) (fun _ _ _ h => h) (yieldsIf_load_rowG (by rfl) 32 (.tmp 10) rfl gx rfl 32 S.kX.cells (0, 0) _ (fun w h=>(h.all _ (.tail _ (.tail _ (.tail _ (.tail _ (.head _)))))).1) Try.underlying32 rfl S.kX.infoS) hHeld ?_
            simp only [List.setIfInBounds_toArray, List.set_cons_zero, List.set_cons_succ]
            refine wpAnyH_ready (rs := [1]) (by kernel_rfl) (by simp) ?_
            refine AllReadyH.cons rfl (fun K hK => ?_) AllReadyH.nil
            go_simp
            go_wp2_with (go_at_call 46; refine (valid_ok _ S.kX P (HIS.out.kX.mods0 hHeld.M)).mono ?_; rw [HVX.out]; rintro e w21 ⟨rfl, M21⟩)
            refine hK.out _ _ ?_ (fun hHeld => ?_)
            · exact hHeld.mods0 M21
            clear hK K
            refine takeD (i := 2) (d := 98) (v := ?_) rfl rfl (by kernel_rfl) (by kernel_rfl) (by kernel_rfl) (fun _ _ _ h => h) (Or.inl ⟨by rfl, ?_⟩) hHeld ?_
            rotate_left 1
            · (intro w hSw; (try dsimp only at hSw); go_simp; (try with_reducible rfl))
            simp only [List.setIfInBounds_toArray, List.set_cons_zero, List.set_cons_succ]
            refine takeD (i := 3) (d := 99) (v := ?_) rfl rfl (by kernel_rfl) (by kernel_rfl) (by kernel_rfl) (fun _ _ _ h => h) (Or.inl ⟨by rfl, ?_⟩) hHeld ?_
            rotate_left 1
            · (intro w hSw; (try dsimp only at hSw); go_simp; (try with_reducible rfl))
            simp only [List.setIfInBounds_toArray, List.set_cons_zero, List.set_cons_succ]
            refine takeD (i := 4) (d := 100) (v := .agg U.kY.cells) rfl rfl (by kernel_rfl) (by kernel_rfl) (by kernel_rfl) (fun _ _ _ h => h) (yieldsIf_load_rowG (by rfl) 32 (.tmp 11) rfl gy rfl 32 U.kY.cells (0, 0) _ (fun w h=>(h.all _ (.tail _ (.tail _ (.tail _ (.tail _ (.tail _ (.head _))))))).1) Try.underlying32 rfl U.kY.infoS) hHeld ?_
            simp only [List.setIfInBounds_toArray, List.set_cons_zero, List.set_cons_succ]
            refine wpAnyH_ready (rs := [5]) (by kernel_rfl) (by simp) ?_
            refine AllReadyH.cons rfl (fun K hK => ?_) AllReadyH.nil
            go_simp
            go_wp2_with (go_at_call 46; refine (valid_ok _ U.kY [] (HIU.out.kY.mods0 hHeld.M)).mono ?_; rw [HVY.out]; rintro e w22 ⟨rfl, M22⟩)
            refine hK.out _ _ ?_ (fun hHeld => ?_)
            · exact hHeld.mods0 M22
            clear hK K
            refine takeD (i := 6) (d := 102) (v := ?_) rfl rfl (by kernel_rfl) (by kernel_rfl) (by kernel_rfl) (fun _ _ _ h => h) (Or.inl ⟨by rfl, ?_⟩) hHeld ?_
            rotate_left 1
            · (intro w hSw; (try dsimp only at hSw); go_simp; (try with_reducible rfl))
            simp only [List.setIfInBounds_toArray, List.set_cons_zero, List.set_cons_succ]
            refine takeD (i := 7) (d := 103) (v := ?_) rfl rfl (by kernel_rfl) (by kernel_rfl) (by kernel_rfl) (fun _ _ _ h => h) (Or.inl ⟨by rfl, ?_⟩) hHeld ?_
            rotate_left 1
            · (intro w hSw; (try dsimp only at hSw); go_simp; (try with_reducible rfl))
            simp only [List.setIfInBounds_toArray, List.set_cons_zero, List.set_cons_succ]
            refine takeD (i := 8) (d := 104) (v := ?_) rfl rfl (by kernel_rfl) (by kernel_rfl) (by kernel_rfl) (fun _ _ _ h => h) (Or.inl ⟨by rfl, ?_⟩) hHeld ?_
            rotate_left 1
            · (intro w hSw; (try dsimp only at hSw); go_simp; (try with_reducible rfl))
            simp only [List.setIfInBounds_toArray, List.set_cons_zero, List.set_cons_succ]
            refine takeD (i := 9) (d := 105) (v := .agg S.kP.cells) rfl rfl (by kernel_rfl) (by kernel_rfl) (by kernel_rfl) (fun _ _ _ h => h) (yieldsIf_load_rowG (by rfl) 32 (.tmp 12) rfl gp rfl 32 S.kP.cells (0, 0) _ (fun w h=>(h.all _ (.tail _ (.tail _ (.head _)))).1) Try.underlying32 rfl S.kP.infoS) hHeld ?_
            simp only [List.setIfInBounds_toArray, List.set_cons_zero, List.set_cons_succ]
            refine wpAnyH_ready (rs := [10]) (by kernel_rfl) (by simp) ?_
            refine AllReadyH.cons rfl (fun K hK => ?_) AllReadyH.nil
            go_simp
            go_wp2_with (go_at_call 46; refine (valid_ok _ S.kP P (HIS.out.kP.mods0 hHeld.M)).mono ?_; rw [HVP.out]; rintro e w23 ⟨rfl, M23⟩)
            refine hK.out _ _ ?_ (fun hHeld => ?_)
            · exact hHeld.mods0 M23
            clear hK K
            refine takeD (i := 11) (d := 107) (v := ?_) rfl rfl (by kernel_rfl) (by kernel_rfl) (by kernel_rfl) (fun _ _ _ h => h) (Or.inl ⟨by rfl, ?_⟩) hHeld ?_
            rotate_left 1
            · (intro w hSw; (try dsimp only at hSw); go_simp; (try with_reducible rfl))
            simp only [List.setIfInBounds_toArray, List.set_cons_zero, List.set_cons_succ]
            refine takeD (i := 12) (d := 108) (v := ?_) rfl rfl (by kernel_rfl) (by kernel_rfl) (by kernel_rfl) (fun _ _ _ h => h) (Or.inl ⟨by rfl, ?_⟩) hHeld ?_
            rotate_left 1
            · (intro w hSw; (try dsimp only at hSw); go_simp; (try with_reducible rfl))
            simp only [List.setIfInBounds_toArray, List.set_cons_zero, List.set_cons_succ]
            refine takeD (i := 13) (d := 109) (v := ?_) rfl rfl (by kernel_rfl) (by kernel_rfl) (by kernel_rfl) (fun _ _ _ h => h) (Or.inl ⟨by rfl, ?_⟩) hHeld ?_
            rotate_left 1
            · (intro w hSw; (try dsimp only at hSw); go_simp; (try with_reducible rfl))
            simp only [List.setIfInBounds_toArray, List.set_cons_zero, List.set_cons_succ]
            refine takeD (i := 14) (d := 110) (v := .agg U.kQ.cells) rfl rfl (by kernel_rfl) (by kernel_rfl) (by kernel_rfl) (fun _ _ _ h => h) (yieldsIf_load_rowG (by rfl) 32 (.tmp 13) rfl gq rfl 32 U.kQ.cells (0, 0) _ (fun w h=>(h.all _ (.tail _ (.tail _ (.tail _ (.head _))))).1) Try.underlying32 rfl U.kQ.infoS) hHeld ?_
            simp only [List.setIfInBounds_toArray, List.set_cons_zero, List.set_cons_succ]
            refine wpAnyH_ready (rs := [15]) (by kernel_rfl) (by simp) ?_
            refine AllReadyH.cons rfl (fun K hK => ?_) AllReadyH.nil
            go_simp
            go_wp2_with (go_at_call 46; refine (valid_ok _ U.kQ [] (HIU.out.kQ.mods0 hHeld.M)).mono ?_; rw [HVQ.out]; rintro e w24 ⟨rfl, M24⟩)
            refine hK.out _ _ ?_ (fun hHeld => ?_)
            · exact hHeld.mods0 M24
            clear hK K
            refine takeD (i := 16) (d := 112) (v := ?_) rfl rfl (by kernel_rfl) (by kernel_rfl) (by kernel_rfl) (fun _ _ _ h => h) (Or.inl ⟨by rfl, ?_⟩) hHeld ?_
            rotate_left 1
            · (intro w hSw; (try dsimp only at hSw); go_simp; (try with_reducible rfl))
            simp only [List.setIfInBounds_toArray, List.set_cons_zero, List.set_cons_succ]
            refine takeD (i := 17) (d := 113) (v := ?_) rfl rfl (by kernel_rfl) (by kernel_rfl) (by kernel_rfl) (fun _ _ _ h => h) (Or.inl ⟨by rfl, ?_⟩) hHeld ?_
            rotate_left 1
            · (intro w hSw; (try dsimp only at hSw); go_simp; (try with_reducible rfl))
            simp only [List.setIfInBounds_toArray, List.set_cons_zero, List.set_cons_succ]
            refine takeD (i := 18) (d := 114) (v := ?_) rfl rfl (by kernel_rfl) (by kernel_rfl) (by kernel_rfl) (fun _ _ _ h => h) (Or.inl ⟨by rfl, ?_⟩) hHeld ?_
            rotate_left 1
            · (intro w hSw; (try dsimp only at hSw); go_simp; (try with_reducible rfl))
            simp only [List.setIfInBounds_toArray, List.set_cons_zero, List.set_cons_succ]
            refine takeD (i := 19) (d := 115) (v := .agg (U.kU k).cells) rfl rfl (by kernel_rfl) (by kernel_rfl) (by kernel_rfl) (fun _ _ _ h => h) (yieldsIf_load_rowG (by rfl) 32 (.tmp 14) rfl gu rfl 32 (U.kU k).cells (0, 0) _ (fun w h=>(h.all _ (.tail _ (.head _))).1) Try.underlying32 rfl (U.kU k).infoS) hHeld ?_
            simp only [List.setIfInBounds_toArray, List.set_cons_zero, List.set_cons_succ]
            refine takeD (i := 21) (d := 117) (v := ?_) rfl rfl (by kernel_rfl) (by kernel_rfl) (by kernel_rfl) (fun _ _ _ h => h) (Or.inl ⟨by rfl, ?_⟩) hHeld ?_
            rotate_left 1
            · (intro w hSw; (try dsimp only at hSw); go_simp; (try with_reducible rfl))
            simp only [List.setIfInBounds_toArray, List.set_cons_zero, List.set_cons_succ]
            refine takeD (i := 22) (d := 118) (v := .int .u16 U.states) rfl rfl (by kernel_rfl) (by kernel_rfl) (by kernel_rfl) (fun _ _ _ h => h) (Or.inl ⟨by rfl, fun w hSw => ?_⟩) hHeld ?_
            · have cst : w.cell? ⟨gb, 23, none⟩ = some (.int .u16 U.states) := (cell_blk (hSw.all (gb, _) (.tail _ (.tail _ (.tail _ (.tail _ (.tail _ (.tail _ (.tail _ (.head _))))))))).1 23).trans rfl
              go_simp
            simp only [List.setIfInBounds_toArray, List.set_cons_zero, List.set_cons_succ]
            refine takeD (i := 23) (d := 119) (v := ?_) rfl rfl (by kernel_rfl) (by kernel_rfl) (by kernel_rfl) (fun _ _ _ h => h) (Or.inl ⟨by rfl, ?_⟩) hHeld ?_
            rotate_left 1
            · (intro w hSw; (try dsimp only at hSw); go_simp; (try with_reducible rfl))
            simp only [List.setIfInBounds_toArray, List.set_cons_zero, List.set_cons_succ]
            refine takeD (i := 24) (d := 120) (v := ?_) rfl rfl (by kernel_rfl) (by kernel_rfl) (by kernel_rfl) (fun _ _ _ h => h) (Or.inl ⟨by rfl, ?_⟩) hHeld ?_
            rotate_left 1
            · (intro w hSw; (try dsimp only at hSw); go_simp; (try with_reducible rfl))
            simp only [List.setIfInBounds_toArray, List.set_cons_zero, List.set_cons_succ]
            refine takeD (i := 25) (d := 121) (v := ?_) rfl rfl (by kernel_rfl) (by kernel_rfl) (by kernel_rfl) (fun _ _ _ h => h) (Or.inl ⟨by rfl, ?_⟩) hHeld ?_
            rotate_left 1
            · (intro w hSw; (try dsimp only at hSw); go_simp; (try with_reducible rfl))
            simp only [List.setIfInBounds_toArray, List.set_cons_zero, List.set_cons_succ]
            refine wpAnyH_ready (rs := [20]) (by kernel_rfl) (by simp) ?_
            refine AllReadyH.cons rfl (fun K hK => ?_) AllReadyH.nil
            go_simp
            go_wp2_with (go_at_call 46; refine (valid_ok _ (U.kU k) [] ((HIU.out.kU hk15).mods0 hHeld.M)).mono ?_; rw [HVK.out]; rintro e w25 ⟨rfl, M25⟩)
            refine hK.out _ _ ?_ (fun hHeld => ?_)
            · exact hHeld.mods0 M25
            clear hK K
            refine takeD (i := 26) (d := 122) (v := ?_) rfl rfl (by kernel_rfl) (by kernel_rfl) (by kernel_rfl) (fun _ _ _ h => h) (Or.inl ⟨by rfl, ?_⟩) hHeld ?_
            rotate_left 1
            · (intro w hSw; (try dsimp only at hSw); go_simp; (try with_reducible rfl))
            simp only [List.setIfInBounds_toArray, List.set_cons_zero, List.set_cons_succ]
            refine takeD (i := 27) (d := 123) (v := ?_) rfl rfl (by kernel_rfl) (by kernel_rfl) (by kernel_rfl) (fun _ _ _ h => h) (Or.inl ⟨by rfl, ?_⟩) hHeld ?_
            rotate_left 1
            · (intro w hSw; (try dsimp only at hSw); go_simp; (try with_reducible rfl))
            simp only [List.setIfInBounds_toArray, List.set_cons_zero, List.set_cons_succ]
            refine takeD (i := 28) (d := 124) (v := ?_) rfl rfl (by kernel_rfl) (by kernel_rfl) (by kernel_rfl) (fun _ _ _ h => h) (Or.inl ⟨by rfl, ?_⟩) hHeld ?_
            rotate_left 1
            · (intro w hSw; (try dsimp only at hSw); go_simp; (try with_reducible rfl))
            simp only [List.setIfInBounds_toArray, List.set_cons_zero, List.set_cons_succ]
            refine takeD (i := 29) (d := 125) (v := .agg (S.kZ name).cells) rfl rfl (by kernel_rfl) (by kernel_rfl) (by kernel_rfl) (fun _ _ _ h => h) (yieldsIf_load_rowG (by rfl) 32 (.tmp 16) rfl gz rfl 32 (S.kZ name).cells (0, 0) _ (fun w h=>(h.all _ (.head _)).1) Try.underlying32 rfl (S.kZ name).infoS) hHeld ?_
            simp only [List.setIfInBounds_toArray, List.set_cons_zero, List.set_cons_succ]
            refine takeD (i := 31) (d := 127) (v := ?_) rfl rfl (by kernel_rfl) (by kernel_rfl) (by kernel_rfl) (fun _ _ _ h => h) (Or.inl ⟨by rfl, ?_⟩) hHeld ?_
            rotate_left 1
            · (intro w hSw; (try dsimp only at hSw); go_simp; (try with_reducible rfl))
            simp only [List.setIfInBounds_toArray, List.set_cons_zero, List.set_cons_succ]
            refine wpAnyH_ready (rs := [30]) (by kernel_rfl) (by simp) ?_
            refine AllReadyH.cons rfl (fun K hK => ?_) AllReadyH.nil
            go_simp
            go_wp2_with (go_at_call 46; refine (valid_ok _ (S.kZ name) P ((HIS.out.kZ (by omega)).mods0 hHeld.M)).mono ?_; rw [HVZ.out]; rintro e w26 ⟨rfl, M26⟩)
            refine hK.out _ _ ?_ (fun hHeld => ?_)
            · exact hHeld.mods0 M26
            clear hK K
            refine takeD (i := 32) (d := 128) (v := ?_) rfl rfl (by kernel_rfl) (by kernel_rfl) (by kernel_rfl) (fun _ _ _ h => h) (Or.inl ⟨by rfl, ?_⟩) hHeld ?_
            rotate_left 1
            · (intro w hSw; (try dsimp only at hSw); go_simp; (try with_reducible rfl))
            simp only [List.setIfInBounds_toArray, List.set_cons_zero, List.set_cons_succ]
            refine takeD (i := 33) (d := 129) (v := ?_) rfl rfl (by kernel_rfl) (by kernel_rfl) (by kernel_rfl) (fun _ _ _ h => h) (Or.inl ⟨by rfl, ?_⟩) hHeld ?_
            rotate_left 1
            · (intro w hSw; (try dsimp only at hSw); go_simp; (try with_reducible rfl))
            simp only [List.setIfInBounds_toArray, List.set_cons_zero, List.set_cons_succ]
            refine takeD (i := 34) (d := 130) (v := ?_) rfl rfl (by kernel_rfl) (by kernel_rfl) (by kernel_rfl) (fun _ _ _ h => h) (Or.inl ⟨by rfl, ?_⟩) hHeld ?_
            rotate_left 1
            · (intro w hSw; (try dsimp only at hSw); go_simp; (try with_reducible rfl))
            simp only [List.setIfInBounds_toArray, List.set_cons_zero, List.set_cons_succ]
            refine wpAnyH_ready (rs := [35]) (by kernel_rfl) (by simp) ?_
            refine AllReadyH.cons rfl (fun K hK => ?_) AllReadyH.nil
            go_simp
            go_wp2_with (go_at_call 44; refine (awakeS_ok _).mono ?_; rintro e w27 ⟨rfl, M27⟩)
            refine hK.out _ _ ?_ (fun hHeld => ?_)
            · exact hHeld.mods0 M27
            clear hK K
            refine takeD (i := 36) (d := 132) (v := ?_) rfl rfl (by kernel_rfl) (by kernel_rfl) (by kernel_rfl) (fun _ _ _ h => h) (Or.inl ⟨by rfl, ?_⟩) hHeld ?_
            rotate_left 1
            · (intro w hSw; (try dsimp only at hSw); go_simp; (try with_reducible rfl))
            simp only [List.setIfInBounds_toArray, List.set_cons_zero, List.set_cons_succ]
            refine takeD (i := 37) (d := 6) (v := ?_) rfl rfl (by kernel_rfl) (by kernel_rfl) (by kernel_rfl) (fun _ _ _ h => h) (Or.inl ⟨by rfl, ?_⟩) hHeld ?_
            rotate_left 1
            · (intro w hSw; (try dsimp only at hSw); go_simp; (try with_reducible rfl))
            simp only [List.setIfInBounds_toArray, List.set_cons_zero, List.set_cons_succ]
            refine wpAnyH_done (by kernel_rfl) ?_ _
            go_wp2
            go_ret
            exact ⟨rfl, HM.out.trans hHeld.M⟩
    · have dn : decide ((name.size : Int) > 40) = true := decide_eq_true (by omega)
      go_enter Try.func16, Try.ntmps16
      go_wp2_with fail
      refine HL.out.mono ?_
      rw [HLL.out]
      rintro e w' ⟨rfl, rfl⟩
      go_wp2_with fail
      refine (awakeS_ok _).mono ?_
      rintro e w1 ⟨rfl, M1⟩
      go_wp2
      go_ret
      exact ⟨rfl, M1⟩
  · skip
    have HLL := Lib.hid (decide_eq_false hl)
    go_enter Try.func16, Try.ntmps16
    go_wp2_with fail
    refine HL.out.mono ?_
    rw [HLL.out]
    rintro e w' ⟨rfl, rfl⟩
    go_wp2_with fail
    refine (awakeS_ok _).mono ?_
    rintro e w1 ⟨rfl, M1⟩
    go_wp2
    go_ret
    exact ⟨rfl, M1⟩
end Go.Proofs.Ytokokojmeepoeaa
