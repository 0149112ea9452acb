/- Joined texts. The reference's open: contract. | The reference's Encode of a valid event: contract. | The reference's Add: contract. -/
import Derived.Test.YtkdadnlleepkfaaRfX
import Derived.Test.YtkdadnlleepkfaaLgXY
namespace Go.Proofs.Ytkdadnlleepkfaa
open Go.RowKit
set_option linter.unusedVariables false
set_option linter.unusedSimpArgs false
set_option maxRecDepth 100000
def rTail (S : LogS) (t : Nat) : Nat := if t = 0 then S.newest + 1 else t
set_option maxHeartbeats 8000000 in
theorem rLopen_ok (w : World) (rb : Nat) (p : DevAt) (G : Geo) (D : Dev) (R : RLog) (h : RefAt w rb p G D R) (hdn : D.down = false) (hfew : Few D 4611686018426000000) (t : Nat) (ht : t ≤ 2147483649) :
    Calls Try.prog 71 #[.pointer (some ⟨rb, 0, none⟩), .int .i64 (t : Nat)] w fun e w' => e = .returned (.int .i64 (openL G D (openS (byt D) G) (rTail (openS (byt D) G) t)).1) ∧ IsDev w' p (openL G D (openS (byt D) G) (rTail (openS (byt D) G) t)).2.1 ∧ Mods p.foot w w' := by
  obtain ⟨g1, g2, g3, g4, g5⟩ := h.geo
  obtain ⟨k1, k2⟩ := h.cap
  have H := Lib.hid h
  have HFW := Lib.hid hfew
  have HNW := Lib.hid (rNewest_ok w rb p G D R h)
  have HNI := Lib.hid (fun W (h : RefAt W rb p G D R) => rNext_ok W rb p G D R h)
  have HF := Lib.hid (openS_facts (byt D) G)
  have HNR := Lib.hid (next_rng (byt D) G)
  generalize hS : openS (byt D) G = S at HF HNR HNI ⊢
  have HSS := Lib.hid hS
  obtain ⟨q, hq⟩ : ∃ q, q = (newS (byt D) G).1 := ⟨_, rfl⟩
  have HQ := Lib.hid (show S.newest = q ∧ q ≤ 2147483648 from by obtain ⟨f1, _, f3, _⟩ := HF.out; rw [← hq] at f1; omega)
  rw [← hq] at HNW
  have q31 := HQ.out.2
  obtain ⟨Q, hQ⟩ : ∃ Q, Q = q + 1 := ⟨_, rfl⟩
  have HQI := Lib.hid (show ((q : Nat) : Int) + 1 = ((Q : Nat) : Int) from by omega)
  have q0 : (0 : Int) ≤ ((q : Nat) : Int) := by omega
  have q32 : ((q : Nat) : Int) < 4294967296 := by omega
  have Q32 : ((Q : Nat) : Int) < 4294967296 := by omega
  have Q0' : (0 : Int) ≤ ((Q : Nat) : Int) := by omega
  have hT := Lib.hid (show rTail S t = if t = 0 then Q else t from by unfold rTail; rw [HQ.out.1, hQ])
  generalize rTail S t = T at hT ⊢
  have HDN := Lib.hid hdn
  have HT9 := Lib.hid (And.intro ht q31)
  clear h hS hq HF hfew hdn ht q31
  by_cases hlim : q = 2147483648
  · have HO := Lib.hid (show openL G D S T = (3, D, S) from if_pos (by rw [HQ.out.1]; have := HT9.out; omega))
    have l1 : decide ((2147483648 : Int) < ((Q : Nat) : Int)) = true := decide_eq_true (by omega)
    rw [HO.out]
    clear hlim hT hQ
    go_enter Try.func71, Try.ntmps71
    go_wp2_with fail
    refine HNW.out.mono ?_
    rintro e w1 ⟨rfl, m, rfl⟩
    go_upto_region 3 with (fail)
    rw [HQI.out]
    go_wp2_with fail
    go_ret
    exact ⟨rfl, H.out.dev.mods0 (Mods.refl.drewN m), Mods.refl.drewN m⟩
  · have h9 := HT9.out
    have l1 : decide ((2147483648 : Int) < ((Q : Nat) : Int)) = false := decide_eq_false (by omega)
    have hn0 : 0 < G.n := by omega
    obtain ⟨j, hj⟩ : ∃ j, j = q % G.n := ⟨_, rfl⟩
    have hjn : j < G.n := by rw [hj]; exact Nat.mod_lt _ hn0
    have HOL := Lib.hid (show openL G D S T = ((openD G D j Q T S.next).1, (openD G D j Q T S.next).2, if (openD G D j Q T S.next).1 = 0 then grownS S T else S) from by
      have e := HQ.out.1
      unfold openL
      rw [if_neg (by omega), e, ← hj, ← hQ])
    have HQ31 := Lib.hid (show Q ≤ 2147483648 from by have := HT9.out; omega)
    have Q0 : (1 : Int) ≤ ((Q : Nat) : Int) := by omega
    have hT1 : (((Q : Nat) : Int) - 1) % ((G.n : Nat) : Int) = ((j : Nat) : Int) := by rw [hj, Int.natCast_emod]; congr 1; omega
    have hT2 : (((Q : Nat) : Int) - 1).tmod ((G.n : Nat) : Int) = ((j : Nat) : Int) := by rw [Int.tmod_eq_emod_of_nonneg (by omega)]; exact hT1
    have hn1 : ¬ ((G.n : Nat) : Int) = 0 := by omega
    have hn2 : (0 : Int) ≤ ((G.n : Nat) : Int) := by omega
    have hse := H.out.fit.sect hjn
    have HBS := Lib.hid (fun W (h : RefAt W rb p G D R) => rBase_ok W rb p G D R h j hjn)
    obtain ⟨a, ha⟩ : ∃ a, a = G.at j := ⟨_, rfl⟩
    rw [← ha] at hse HBS
    have HAA := Lib.hid ha
    have HJN := Lib.hid hjn
    have HQn := Lib.hid (show T ≤ 2147483649 from by rw [hT.out]; have := HT9.out; have := HQ31.out; split <;> omega)
    clear hlim hj hjn ha hQ h9
    have HTN := Lib.hid (And.intro hT1 hT2)
    clear hT1 hT2
    go_enter Try.func71, Try.ntmps71
    go_wp2_with fail
    refine HNW.out.mono ?_
    rintro e w1 ⟨rfl, m, rfl⟩
    have HM1 := Lib.hid ((Mods.refl (S := []) (w := w)).drewN m)
    have HR1 := Lib.hid (H.out.drewN m)
    generalize w.drewN m = w1 at HM1 HR1 ⊢
    go_upto_region 3 with (fail)
    rw [HQI.out]
    clear HNW
    go_upto_if 23 with (fail)
    go_cut [1] (fun u wx => u = .int .i64 (T : Nat) ∧ w1 = wx)
    case first =>
      clear l1 q0 q32 Q32 Q0' Q0
      by_cases ht0 : t = 0
      · have d1 : (((t : Nat) : Int) == 0) = true := by simp [ht0]
        have HTT := Lib.hid (show T = Q from by rw [hT.out, if_pos ht0])
        clear ht0 hT
        go_wp2_with fail
        go_meet
        exact ⟨by rw [HTT.out], rfl⟩
      · have d1 : (((t : Nat) : Int) == 0) = false := by simp; omega
        have HTT := Lib.hid (show T = t from by rw [hT.out, if_neg ht0])
        clear ht0 hT
        go_wp2_with fail
        go_meet
        exact ⟨by rw [HTT.out], rfl⟩
    case rest =>
      obtain ⟨rfl, rfl⟩ := hcut
      have HNI1 := Lib.hid (HNI.out w1 HR1.out)
      have n1 := HNR.out.1
      have n2 := HNR.out.2
      obtain ⟨nx, hnx⟩ : ∃ nx, nx = S.next := ⟨_, rfl⟩
      rw [← hnx] at HNI1 n1 n2 HOL
      clear hnx HNR HNI hT
      go_wp2_with fail
      refine HNI1.out.mono ?_
      rintro e w2 ⟨rfl, hm2⟩
      have HM2 := Lib.hid (HM1.out.trans hm2)
      have HR2 := Lib.hid (HR1.out.mods0 hm2)
      have c2 := HR2.out.c2
      obtain ⟨hT1, hT2⟩ := HTN.out
      have HBS2 := Lib.hid (HBS.out w2 HR2.out)
      clear hm2 HNI1 HM1 HR1
      go_wp2_with fail
      refine HBS2.out.mono ?_
      rintro e w3 ⟨rfl, m3, rfl⟩
      have HM3 := Lib.hid (HM2.out.drewN m3)
      have HR3 := Lib.hid (HR2.out.drewN m3)
      generalize w2.drewN m3 = w3 at HM3 HR3 ⊢
      clear c2 hT1 hT2 HBS2 HBS HM2 HR2
      have c0 := HR3.out.c0
      have d0 := HR3.out.d0
      have d1 := HR3.out.d1
      obtain ⟨z, hz⟩ : ∃ z, z = G.size := ⟨_, rfl⟩
      rw [← hz] at d0 hse g2 g3
      obtain ⟨b, hb⟩ : ∃ b, b = a + z := ⟨_, rfl⟩
      obtain ⟨pcb, hpc⟩ : ∃ pcb, pcb = p.cb := ⟨_, rfl⟩
      rw [← hpc] at d1 k1 k2
      have HBK := Lib.hid (fun W (M : Mods [] w3 W) => show Calls Try.prog 91 #[.slice (some ⟨p.g, a, none⟩) (b - a) (pcb - a)] W fun e w' => e = .returned (.bool (blankS (byt D) G j)) ∧ W = w' from by
        have h1 := rBlank_ok W _ _ ((HR3.out.mods0 M).sub (a := a) (m := z) (cap := pcb - a) (by omega) (by omega) (by omega)) (subA_bytes H.out.fit.ok.byt)
        rw [hb, Nat.add_sub_cancel_left]
        have h2 := blank_sec H.out.fit HJN.out
        unfold secA at h2
        rw [← HAA.out, ← hz] at h2
        rw [h2] at h1
        exact h1)
      have HSZ := Lib.hid hz
      have HWB := Lib.hid (show IntKind.i64.wrap (((a : Nat) : Int) + ((z : Nat) : Int)) = ((b : Nat) : Int) from by
        rw [hb]
        exact (IntWalk.i64_in _ (by omega)).trans (by omega))
      have HBB := Lib.hid (show a ≤ b ∧ b ≤ pcb ∧ ¬ pcb = a from by omega)
      have HA16 := Lib.hid (show a ≤ 16384 from by omega)
      clear hz hpc hb hse k1 k2 g2 g3 q0 q32 Q32 Q0' l1 hn0 Q0 hn1 hn2 g1 g4 g5
      generalize p.g = pg at d1 HBK
      go_upto_region 10 with (fail)
      have HC := Lib.hid (And.intro c0 (And.intro d0 d1))
      clear c0 d0 d1
      go_cut [56] (fun u wx => u = .bool (!blankS (byt D) G j) ∧ Mods [] w3 wx)
      case first =>
        refine heldStart (S := fun W => Mods [] w3 W) 20 rfl (by kernel_rfl) Mods.refl.drew (fun hHeld => ?_)
        refine takeD (i := 0) (d := 37) (v := ?_) rfl rfl (by kernel_rfl) (by kernel_rfl) (by kernel_rfl) (fun _ _ _ h => h) (Or.inl ⟨by rfl, ?_⟩) hHeld ?_
        rotate_left 1
        · (intro w hSw; (try dsimp only at hSw); go_simp; (try with_reducible rfl))
        simp only [List.setIfInBounds_toArray, List.set_cons_zero, List.set_cons_succ]
        refine takeD (i := 1) (d := 38) (v := ?_) rfl rfl (by kernel_rfl) (by kernel_rfl) (by kernel_rfl) (fun _ _ _ h => h) (Or.inl ⟨by rfl, ?_⟩) hHeld ?_
        rotate_left 1
        · (intro w hSw; (try dsimp only at hSw); go_simp; (try with_reducible rfl))
        simp only [List.setIfInBounds_toArray, List.set_cons_zero, List.set_cons_succ]
        refine takeD (i := 2) (d := 39) (v := ?_) rfl rfl (by kernel_rfl) (by kernel_rfl) (by kernel_rfl) (fun _ _ _ h => h) (Or.inl ⟨by rfl, ?_⟩) hHeld ?_
        rotate_left 1
        · (intro w hSw; (try dsimp only at hSw); go_simp; (try with_reducible rfl))
        simp only [List.setIfInBounds_toArray, List.set_cons_zero, List.set_cons_succ]
        refine takeD (i := 3) (d := 40) (v := (.pointer (some ⟨p.b,0,none⟩))) rfl rfl (by kernel_rfl) (by kernel_rfl) (by kernel_rfl) (fun _ _ _ h => h) (Or.inl ⟨by rfl, fun w hSw => ?_⟩) hHeld ?_
        · have cst := hSw.cell HC.out.1 (by simp)
          go_simp
        simp only [List.setIfInBounds_toArray, List.set_cons_zero, List.set_cons_succ]
        refine takeD (i := 4) (d := 41) (v := ?_) rfl rfl (by kernel_rfl) (by kernel_rfl) (by kernel_rfl) (fun _ _ _ h => h) (Or.inl ⟨by rfl, ?_⟩) hHeld ?_
        rotate_left 1
        · (intro w hSw; (try dsimp only at hSw); go_simp; (try with_reducible rfl))
        simp only [List.setIfInBounds_toArray, List.set_cons_zero, List.set_cons_succ]
        refine takeD (i := 5) (d := 42) (v := ?_) rfl rfl (by kernel_rfl) (by kernel_rfl) (by kernel_rfl) (fun _ _ _ h => h) (Or.inl ⟨by rfl, ?_⟩) hHeld ?_
        rotate_left 1
        · (intro w hSw; (try dsimp only at hSw); go_simp; (try with_reducible rfl))
        simp only [List.setIfInBounds_toArray, List.set_cons_zero, List.set_cons_succ]
        refine takeD (i := 6) (d := 43) (v := (.slice (some ⟨pg,0,none⟩) D.data.length pcb)) rfl rfl (by kernel_rfl) (by kernel_rfl) (by kernel_rfl) (fun _ _ _ h => h) (Or.inl ⟨by rfl, fun w hSw => ?_⟩) hHeld ?_
        · have cst := hSw.cell HC.out.2.2 (by simp)
          go_simp
        simp only [List.setIfInBounds_toArray, List.set_cons_zero, List.set_cons_succ]
        refine takeD (i := 7) (d := 44) (v := ?_) rfl rfl (by kernel_rfl) (by kernel_rfl) (by kernel_rfl) (fun _ _ _ h => h) (Or.inl ⟨by rfl, ?_⟩) hHeld ?_
        rotate_left 1
        · (intro w hSw; (try dsimp only at hSw); go_simp; (try with_reducible rfl))
        simp only [List.setIfInBounds_toArray, List.set_cons_zero, List.set_cons_succ]
        refine takeD (i := 8) (d := 45) (v := ?_) rfl rfl (by kernel_rfl) (by kernel_rfl) (by kernel_rfl) (fun _ _ _ h => h) (Or.inl ⟨by rfl, ?_⟩) hHeld ?_
        rotate_left 1
        · (intro w hSw; (try dsimp only at hSw); go_simp; (try with_reducible rfl))
        simp only [List.setIfInBounds_toArray, List.set_cons_zero, List.set_cons_succ]
        refine takeD (i := 9) (d := 46) (v := ?_) rfl rfl (by kernel_rfl) (by kernel_rfl) (by kernel_rfl) (fun _ _ _ h => h) (Or.inl ⟨by rfl, ?_⟩) hHeld ?_
        rotate_left 1
        · (intro w hSw; (try dsimp only at hSw); go_simp; (try with_reducible rfl))
        simp only [List.setIfInBounds_toArray, List.set_cons_zero, List.set_cons_succ]
        refine takeD (i := 10) (d := 47) (v := ?_) rfl rfl (by kernel_rfl) (by kernel_rfl) (by kernel_rfl) (fun _ _ _ h => h) (Or.inl ⟨by rfl, ?_⟩) hHeld ?_
        rotate_left 1
        · (intro w hSw; (try dsimp only at hSw); go_simp; (try with_reducible rfl))
        simp only [List.setIfInBounds_toArray, List.set_cons_zero, List.set_cons_succ]
        refine takeD (i := 11) (d := 48) (v := ?_) rfl rfl (by kernel_rfl) (by kernel_rfl) (by kernel_rfl) (fun _ _ _ h => h) (Or.inl ⟨by rfl, ?_⟩) hHeld ?_
        rotate_left 1
        · (intro w hSw; (try dsimp only at hSw); go_simp; (try with_reducible rfl))
        simp only [List.setIfInBounds_toArray, List.set_cons_zero, List.set_cons_succ]
        refine takeD (i := 12) (d := 49) (v := (.pointer (some ⟨p.b,0,none⟩))) rfl rfl (by kernel_rfl) (by kernel_rfl) (by kernel_rfl) (fun _ _ _ h => h) (Or.inl ⟨by rfl, fun w hSw => ?_⟩) hHeld ?_
        · have cst := hSw.cell HC.out.1 (by simp)
          go_simp
        simp only [List.setIfInBounds_toArray, List.set_cons_zero, List.set_cons_succ]
        refine takeD (i := 13) (d := 50) (v := ?_) rfl rfl (by kernel_rfl) (by kernel_rfl) (by kernel_rfl) (fun _ _ _ h => h) (Or.inl ⟨by rfl, ?_⟩) hHeld ?_
        rotate_left 1
        · (intro w hSw; (try dsimp only at hSw); go_simp; (try with_reducible rfl))
        simp only [List.setIfInBounds_toArray, List.set_cons_zero, List.set_cons_succ]
        refine takeD (i := 14) (d := 51) (v := ?_) rfl rfl (by kernel_rfl) (by kernel_rfl) (by kernel_rfl) (fun _ _ _ h => h) (Or.inl ⟨by rfl, ?_⟩) hHeld ?_
        rotate_left 1
        · (intro w hSw; (try dsimp only at hSw); go_simp; (try with_reducible rfl))
        simp only [List.setIfInBounds_toArray, List.set_cons_zero, List.set_cons_succ]
        refine takeD (i := 15) (d := 52) (v := (.int .i64 (z:Nat))) rfl rfl (by kernel_rfl) (by kernel_rfl) (by kernel_rfl) (fun _ _ _ h => h) (Or.inl ⟨by rfl, fun w hSw => ?_⟩) hHeld ?_
        · have cst := hSw.cell HC.out.2.1 (by simp)
          go_simp
        simp only [List.setIfInBounds_toArray, List.set_cons_zero, List.set_cons_succ]
        refine takeD (i := 16) (d := 53) (v := .int .i64 (b : Nat)) rfl rfl (by kernel_rfl) (by kernel_rfl) (by kernel_rfl) (fun _ _ _ h => h) (Or.inl ⟨by rfl, fun w hSw => ?_⟩) hHeld ?_
        · have hw := HWB.out
          go_simp
          try rw [hw]
        simp only [List.setIfInBounds_toArray, List.set_cons_zero, List.set_cons_succ]
        refine takeD (i := 17) (d := 54) (v := .slice (some ⟨pg, a, none⟩) (b - a) (pcb - a)) rfl rfl (by kernel_rfl) (by kernel_rfl) (by kernel_rfl) (fun _ _ _ h => h) (Or.inl ⟨by rfl, fun w hSw => ?_⟩) hHeld ?_
        · obtain ⟨s1, s2, s3⟩ := HBB.out
          have s4 : ((a : Nat) : Int) ≤ ((b : Nat) : Int) := by omega
          have s5 : ((b : Nat) : Int) ≤ ((pcb : Nat) : Int) := by omega
          go_simp
        simp only [List.setIfInBounds_toArray, List.set_cons_zero, List.set_cons_succ]
        refine wpAnyH_ready (rs := [18]) (by kernel_rfl) (by simp) ?_
        refine AllReadyH.cons rfl (fun K hK => ?_) AllReadyH.nil
        go_simp
        go_wp2_with (refine (HBK.out _ hHeld).mono ?_; rintro e w' ⟨rfl, rfl⟩)
        refine hK.out _ _ ?_ (fun hHeld => ?_)
        · exact hHeld
        clear hK K
        refine takeD (i := 19) (d := 56) (v := ?_) rfl rfl (by kernel_rfl) (by kernel_rfl) (by kernel_rfl) (fun _ _ _ h => h) (Or.inl ⟨by rfl, ?_⟩) hHeld ?_
        rotate_left 1
        · (intro w hSw; (try dsimp only at hSw); go_simp; (try with_reducible rfl))
        simp only [List.setIfInBounds_toArray, List.set_cons_zero, List.set_cons_succ]
        refine wpAnyH_done (by kernel_rfl) ?_ _
        go_wp2_with fail
        go_meet
        exact ⟨rfl, hHeld⟩
      case rest =>
        obtain ⟨rfl, MC⟩ := hcut
        have HM4 := Lib.hid (HM3.out.trans MC)
        have HR4 := Lib.hid (HR3.out.mods0 MC)
        clear MC HM3 HR3 HC HBK HWB HBB HSZ
        generalize wc = w4 at HM4 HR4 ⊢
        have HSE := Lib.hid (openE_spec H.out.fit HDN.out HJN.out HFW.out)
        have HAP := Lib.hid (show rb ∉ p.foot from HR4.out.apart)
        have HFT := Lib.hid (show ∀ y ∈ p.foot, y < w.heap.size from H.out.dev.lt)
        cases hbk : blankS (byt D) G j with
        | true =>
          have HE := Lib.hid (show openE G D j = (0, D) from by unfold openE; rw [if_pos hbk])
          have HE1 := Lib.hid (show (openE G D j).1 = 0 from by rw [HE.out])
          have HD5 := Lib.hid (show IsDev w4 p (openE G D j).2 from by rw [HE.out]; exact HR4.out.dev)
          have HB5 := Lib.hid HR4.out.blk
          have HM5 := Lib.hid (show Mods p.foot w w4 from HM4.out.nil)
          clear hbk HR4 HM4
          generalize w4 = w5 at HD5 HB5 HM5 ⊢
          have HOH := Lib.hid (show openH G D j Q T nx = (openE G D j).2.program ((G.at j : Nat) : Int) (hdrL Q T nx) from if_pos HE1.out)
          have HSH := Lib.hid (openH_spec H.out.fit HDN.out HJN.out HFW.out Q T nx)
          have HOK := Lib.hid HSE.out.1.ok
          have HFE := Lib.hid (show (openE G D j).2.steps ≤ 4611686018427000000 from Int.le_trans HSE.out.2.1.st (by decide))
          have c0 := (cell_blk HB5.out 0).trans (show _ = some (Value.pointer (some ⟨p.b, 0, none⟩)) from rfl)
          have HLQ := Lib.hid (fun W => little_ok W ((Q : Nat) : Int) 4 (by have := HQ31.out; omega) (by omega))
          have HLT := Lib.hid (fun W => little_ok W ((T : Nat) : Int) 4 (by have := HQn.out; omega) (by omega))
          have HLN := Lib.hid (fun W => little_ok W ((nx : Nat) : Int) 2 (by omega) (by omega))
          have HWQ := Lib.hid (show IntKind.u64.wrap ((Q : Nat) : Int) = ((Q : Nat) : Int) ∧ IntKind.u64.wrap ((T : Nat) : Int) = ((T : Nat) : Int) ∧ IntKind.u64.wrap ((nx : Nat) : Int) = ((nx : Nat) : Int) from by
            have h1 := HQ31.out
            have h2 := HQn.out
            refine ⟨?_, ?_, ?_⟩ <;> (rw [IntKind.wrap_u64]; omega))
          obtain ⟨wq, wt, wn⟩ := HWQ.out
          have HHL := Lib.hid (show hdrL Q T nx = leL ((Q : Nat) : Int) 4 ++ leL ((T : Nat) : Int) 4 ++ leL ((nx : Nat) : Int) 2 from rfl)
          generalize ((Q : Nat) : Int) = Qi at HLQ wq HHL ⊢
          generalize ((T : Nat) : Int) = Ti at HLT wt HHL ⊢
          generalize ((nx : Nat) : Int) = Ni at HLN wn HHL ⊢
          go_wp2_with fail
          refine (HLQ.out _).mono ?_
          rintro e w6 ⟨v6, rfl, o6, m6⟩
          have HO6 := Lib.hid (show OwnB w6 w5.heap.size v6 (leL Qi 4) from o6)
          have HM6 := Lib.hid m6
          clear o6 m6 HLQ
          go_wp2_with fail
          refine (HLT.out _).mono ?_
          rintro e w7 ⟨v7, rfl, o7, m7⟩
          have HX7 := Lib.hid (show Rd w7 v7 (u8s (leL Ti 4)) from Rd.own o7)
          have HO7 := Lib.hid (HO6.out.mods0 m7)
          have HM7 := Lib.hid (HM6.out.trans m7)
          clear o7 m7 HLT HO6 HM6
          go_upto_region 15 with (at_builtin; refine wpList_appB (by rfl) (.tmp 73) (.tmp 76) rfl (v := v6) (by rfl) HO7.out (by rfl) HX7.out (by simp [leL_length]) (HM7.out.size) ?_; intro V8 w8 O8 M8; have HO8 := Lib.hid O8; have HM8 := Lib.hid (HM7.out.comp M8 (fun y hy => .inr (HO7.out.back hy))); clear O8 M8)
          clear HO7 HM7 HX7
          go_wp2_with fail
          refine (HLN.out _).mono ?_
          rintro e w9 ⟨v9, rfl, o9, m9⟩
          have HX9 := Lib.hid (show Rd w9 v9 (u8s (leL Ni 2)) from Rd.own o9)
          have HO9 := Lib.hid (HO8.out.mods0 m9)
          have HM9 := Lib.hid (HM8.out.trans m9)
          clear o9 m9 HLN HO8 HM8
          go_upto_region 16 with (at_builtin; refine wpList_appB (by rfl) (.tmp 78) (.tmp 81) rfl (v := V8) (by rfl) HO9.out (by rfl) HX9.out (by simp [leL_length]) (HM9.out.size) ?_; intro VA wA OA MA; have HOA := Lib.hid (show OwnB wA w5.heap.size VA (hdrL Q T nx) from by rw [HHL.out]; exact OA); have HMA := Lib.hid (HM9.out.comp MA (fun y hy => .inr (HO9.out.back hy))); clear OA MA)
          clear HO9 HM9 HX9 HHL wq wt wn HWQ
          have HDA := Lib.hid (HD5.out.mods0 HMA.out)
          have HBA := Lib.hid (HMA.out.heap HB5.out (by simp))
          have c0 := (cell_blk HBA.out 0).trans (show _ = some (Value.pointer (some ⟨p.b, 0, none⟩)) from rfl)
          have HF5 := Lib.hid (show ∀ y ∈ p.foot, y < w5.heap.size from HD5.out.lt)
          have HPG := Lib.hid (refProgram_ok wA p _ HDA.out HOK.out ((G.at j : Nat) : Int) VA _ HOA.out.rd (hdrL_bytes _ _ _) (fun _ k hk hm => by
            have h1 := (HOA.out.lt k hk).1
            have h2 := HF5.out k (by simp [DevAt.foot] at hm ⊢; rcases hm with h | h <;> simp [h])
            omega) HFE.out)
          rw [← HOH.out, ← HAA.out] at HPG
          go_wp2_with fail
          refine HPG.out.mono ?_
          rintro e wB ⟨rfl, dB, mB⟩
          have HDB := Lib.hid dB
          have mB2 : Mods p.foot wA wB := mB.mono (fun y hy => .inl (by simp [DevAt.foot] at hy ⊢; rcases hy with h | h <;> simp [h]))
          have HBB := Lib.hid (mB2.heap HBA.out HAP.out)
          have HMB := Lib.hid (HM5.out.trans (HMA.out.nil.trans mB2))
          clear dB mB mB2 HPG HBA HDA HOA c0
          by_cases hH : (openH G D j Q T nx).1 = 0
          · have HOD := Lib.hid (show openD G D j Q T nx = (openH G D j Q T nx).2.program ((G.at j + 10 : Nat) : Int) [0] from if_pos hH)
            have c0 := (cell_blk HBB.out 0).trans (show _ = some (Value.pointer (some ⟨p.b, 0, none⟩)) from rfl)
            have M1 := (Mods.refl (S := []) (w := wB)).alloc (.cells (u8s [0]).toArray 5)
            have hO1 := OwnB.lit wB (Nat.le_refl _) [0] (by decide)
            have HC1 := Lib.hid (refProgram_ok _ p _ (HDB.out.mods0 M1) HSH.out.1.ok ((G.at j + 10 : Nat) : Int) _ [0] hO1.rd (bytes_of (by simp)) (fun _ k hk hm => by
              have h1 := (hO1.lt k hk).1
              have h2 := HDB.out.lt k (by simp [DevAt.foot] at hm ⊢; rcases hm with h | h <;> simp [h])
              omega) (Int.le_trans HSH.out.2.1.st (by decide)))
            have HM1 := Lib.hid M1
            have HA10 := Lib.hid (show ((a : Nat) : Int) + 10 = ((G.at j + 10 : Nat) : Int) from by rw [HAA.out]; rfl)
            have a0 : (0 : Int) ≤ ((a : Nat) : Int) := by omega
            have a1 : ((a : Nat) : Int) ≤ 16384 := by have := HA16.out; omega
            clear M1 hO1
            rw [hH]
            clear hH
            go_wp2_with (go_at_call 33; rw [HA10.out]; refine HC1.out.mono ?_; rintro e wC ⟨rfl, dC, mC⟩; rw [← HOD.out] at dC ⊢; have HDC := Lib.hid dC; have HMC := Lib.hid (show Mods p.foot w wC from HMB.out.trans (HM1.out.nil.trans (mC.mono (fun y hy => .inl (by simp [DevAt.foot] at hy ⊢; rcases hy with h | h <;> simp [h]))))); clear dC mC)
            go_ret
            rw [HOL.out]
            exact ⟨rfl, HDC.out, HMC.out⟩
          · have HOD := Lib.hid (show openD G D j Q T nx = openH G D j Q T nx from if_neg hH)
            have hne : ((openH G D j Q T nx).1 != 0) = true := by simpa using hH
            have HOL2 := Lib.hid (show openL G D S T = ((openH G D j Q T nx).1, (openH G D j Q T nx).2, S) from by rw [HOL.out, HOD.out, if_neg hH])
            clear hH
            generalize (openH G D j Q T nx).1 = er at hne HOL2 ⊢
            go_wp2_with fail
            go_ret
            rw [HOL2.out]
            exact ⟨rfl, HDB.out, HMB.out⟩
        | false =>
          have HE := Lib.hid (show openE G D j = D.erase ((G.first + j : Nat) : Int) from by unfold openE; rw [if_neg (by rw [hbk]; decide)])
          have HER := Lib.hid (fun W (M : Mods [] w4 W) => refErase_ok W p D (HR4.out.dev.mods0 M) H.out.fit.ok ((G.first + j : Nat) : Int) (Int.le_trans HFW.out.st (by decide)) (fun i => Int.le_trans (HFW.out.wr i) (by decide)))
          rw [← HE.out] at HER
          have HC := Lib.hid (And.intro HR4.out.c0 HR4.out.c1)
          have HWJ := Lib.hid (show IntKind.i64.wrap (((G.first : Nat) : Int) + ((j : Nat) : Int)) = ((G.first + j : Nat) : Int) from by
            obtain ⟨x1, _⟩ := H.out.geo
            have x2 := HJN.out
            exact (IntWalk.i64_in _ (by omega)).trans (by omega))
          have HB4 := Lib.hid HR4.out.blk
          clear hbk
          go_upto_region 11 with (fail)
          go_cut [10] (fun u wx => u = .int .i64 (openE G D j).1 ∧ IsDev wx p (openE G D j).2 ∧ Mods p.foot w4 wx)
          case first =>
            refine heldStart (S := fun W => Mods [] w4 W ∨ Mods p.foot w4 W) 12 rfl (by kernel_rfl) (.inl Mods.refl.drew) (fun hHeld => ?_)
            have hHeld0 := (Mods.refl (S := []) (w := w4)).drew
            refine takeD (i := 0) (d := 57) (v := ?_) rfl rfl (by kernel_rfl) (by kernel_rfl) (by kernel_rfl) (fun _ _ _ h => h) (Or.inl ⟨by rfl, ?_⟩) hHeld ?_
            rotate_left 1
            · (intro w hSw; (try dsimp only at hSw); go_simp; (try with_reducible rfl))
            simp only [List.setIfInBounds_toArray, List.set_cons_zero, List.set_cons_succ]
            refine takeD (i := 1) (d := 58) (v := ?_) rfl rfl (by kernel_rfl) (by kernel_rfl) (by kernel_rfl) (fun _ _ _ h => h) (Or.inl ⟨by rfl, ?_⟩) hHeld ?_
            rotate_left 1
            · (intro w hSw; (try dsimp only at hSw); go_simp; (try with_reducible rfl))
            simp only [List.setIfInBounds_toArray, List.set_cons_zero, List.set_cons_succ]
            refine takeD (i := 2) (d := 59) (v := ?_) rfl rfl (by kernel_rfl) (by kernel_rfl) (by kernel_rfl) (fun _ _ _ h => h) (Or.inl ⟨by rfl, ?_⟩) hHeld ?_
            rotate_left 1
            · (intro w hSw; (try dsimp only at hSw); go_simp; (try with_reducible rfl))
            simp only [List.setIfInBounds_toArray, List.set_cons_zero, List.set_cons_succ]
            refine takeD (i := 3) (d := 60) (v := (.pointer (some ⟨p.b,0,none⟩))) rfl rfl (by kernel_rfl) (by kernel_rfl) (by kernel_rfl) (fun _ _ _ h => h) (Or.inl ⟨by rfl, fun w hSw => ?_⟩) hHeld ?_
            · have cst := (show Mods p.foot w4 w from by rcases hSw with h | h; exact h.nil; exact h).cell HC.out.1 HAP.out
              clear hSw
              go_simp
            simp only [List.setIfInBounds_toArray, List.set_cons_zero, List.set_cons_succ]
            refine takeD (i := 4) (d := 61) (v := ?_) rfl rfl (by kernel_rfl) (by kernel_rfl) (by kernel_rfl) (fun _ _ _ h => h) (Or.inl ⟨by rfl, ?_⟩) hHeld ?_
            rotate_left 1
            · (intro w hSw; (try dsimp only at hSw); go_simp; (try with_reducible rfl))
            simp only [List.setIfInBounds_toArray, List.set_cons_zero, List.set_cons_succ]
            refine takeD (i := 5) (d := 62) (v := ?_) rfl rfl (by kernel_rfl) (by kernel_rfl) (by kernel_rfl) (fun _ _ _ h => h) (Or.inl ⟨by rfl, ?_⟩) hHeld ?_
            rotate_left 1
            · (intro w hSw; (try dsimp only at hSw); go_simp; (try with_reducible rfl))
            simp only [List.setIfInBounds_toArray, List.set_cons_zero, List.set_cons_succ]
            refine takeD (i := 6) (d := 63) (v := ?_) rfl rfl (by kernel_rfl) (by kernel_rfl) (by kernel_rfl) (fun _ _ _ h => h) (Or.inl ⟨by rfl, ?_⟩) hHeld ?_
            rotate_left 1
            · (intro w hSw; (try dsimp only at hSw); go_simp; (try with_reducible rfl))
            simp only [List.setIfInBounds_toArray, List.set_cons_zero, List.set_cons_succ]
            refine takeD (i := 7) (d := 64) (v := (.int .i64 (G.first:Nat))) rfl rfl (by kernel_rfl) (by kernel_rfl) (by kernel_rfl) (fun _ _ _ h => h) (Or.inl ⟨by rfl, fun w hSw => ?_⟩) hHeld ?_
            · have cst := (show Mods p.foot w4 w from by rcases hSw with h | h; exact h.nil; exact h).cell HC.out.2 HAP.out
              clear hSw
              go_simp
            simp only [List.setIfInBounds_toArray, List.set_cons_zero, List.set_cons_succ]
            refine takeD (i := 8) (d := 65) (v := ?_) rfl rfl (by kernel_rfl) (by kernel_rfl) (by kernel_rfl) (fun _ _ _ h => h) (Or.inl ⟨by rfl, ?_⟩) hHeld ?_
            rotate_left 1
            · (intro w hSw; (try dsimp only at hSw); go_simp; (try with_reducible rfl))
            simp only [List.setIfInBounds_toArray, List.set_cons_zero, List.set_cons_succ]
            refine takeD (i := 9) (d := 66) (v := .int .i64 (G.first + j : Nat)) rfl rfl (by kernel_rfl) (by kernel_rfl) (by kernel_rfl) (fun _ _ _ h => h) (Or.inl ⟨by rfl, fun w hSw => ?_⟩) hHeld ?_
            · have hw := HWJ.out
              clear hSw
              go_simp
              try rw [hw]
            simp only [List.setIfInBounds_toArray, List.set_cons_zero, List.set_cons_succ]
            refine wpAnyH_ready (rs := [10]) (by kernel_rfl) (by simp) ?_
            refine AllReadyH.cons rfl (fun K hK => ?_) AllReadyH.nil
            go_simp
            go_wp2_with (refine (HER.out _ hHeld0).mono ?_; rintro e w5 ⟨rfl, d5, m5⟩)
            have HX := Lib.hid (And.intro d5 (show Mods p.foot w4 w5 from hHeld0.nil.trans m5))
            refine hK.out _ _ (.inr HX.out.2) (fun hHeld => ?_)
            clear hK K d5 m5
            refine takeD (i := 11) (d := 10) (v := ?_) rfl rfl (by kernel_rfl) (by kernel_rfl) (by kernel_rfl) (fun _ _ _ h => h) (Or.inl ⟨by rfl, ?_⟩) hHeld ?_
            rotate_left 1
            · (intro w hSw; (try dsimp only at hSw); go_simp; (try with_reducible rfl))
            simp only [List.setIfInBounds_toArray, List.set_cons_zero, List.set_cons_succ]
            refine wpAnyH_done (by kernel_rfl) ?_ _
            go_wp2_with fail
            go_meet
            exact ⟨rfl, HX.out.1, HX.out.2⟩
          case rest =>
            obtain ⟨rfl, hd5, hm5⟩ := hcut
            have HD5 := Lib.hid hd5
            have HB5 := Lib.hid (hm5.heap HB4.out HAP.out)
            have HM5 := Lib.hid (show Mods p.foot w wc from HM4.out.nil.trans hm5)
            clear hd5 hm5 HR4 HM4 HB4 HC HER HWJ
            generalize wc = w5 at HD5 HB5 HM5 ⊢
            by_cases hE : (openE G D j).1 = 0
            · have HE1 := Lib.hid hE
              rw [hE]
              clear hE
              have HOH := Lib.hid (show openH G D j Q T nx = (openE G D j).2.program ((G.at j : Nat) : Int) (hdrL Q T nx) from if_pos HE1.out)
              have HSH := Lib.hid (openH_spec H.out.fit HDN.out HJN.out HFW.out Q T nx)
              have HOK := Lib.hid HSE.out.1.ok
              have HFE := Lib.hid (show (openE G D j).2.steps ≤ 4611686018427000000 from Int.le_trans HSE.out.2.1.st (by decide))
              have c0 := (cell_blk HB5.out 0).trans (show _ = some (Value.pointer (some ⟨p.b, 0, none⟩)) from rfl)
              have HLQ := Lib.hid (fun W => little_ok W ((Q : Nat) : Int) 4 (by have := HQ31.out; omega) (by omega))
              have HLT := Lib.hid (fun W => little_ok W ((T : Nat) : Int) 4 (by have := HQn.out; omega) (by omega))
              have HLN := Lib.hid (fun W => little_ok W ((nx : Nat) : Int) 2 (by omega) (by omega))
              have HWQ := Lib.hid (show IntKind.u64.wrap ((Q : Nat) : Int) = ((Q : Nat) : Int) ∧ IntKind.u64.wrap ((T : Nat) : Int) = ((T : Nat) : Int) ∧ IntKind.u64.wrap ((nx : Nat) : Int) = ((nx : Nat) : Int) from by
                have h1 := HQ31.out
                have h2 := HQn.out
                refine ⟨?_, ?_, ?_⟩ <;> (rw [IntKind.wrap_u64]; omega))
              obtain ⟨wq, wt, wn⟩ := HWQ.out
              have HHL := Lib.hid (show hdrL Q T nx = leL ((Q : Nat) : Int) 4 ++ leL ((T : Nat) : Int) 4 ++ leL ((nx : Nat) : Int) 2 from rfl)
              generalize ((Q : Nat) : Int) = Qi at HLQ wq HHL ⊢
              generalize ((T : Nat) : Int) = Ti at HLT wt HHL ⊢
              generalize ((nx : Nat) : Int) = Ni at HLN wn HHL ⊢
              go_wp2_with fail
              refine (HLQ.out _).mono ?_
              rintro e w6 ⟨v6, rfl, o6, m6⟩
              have HO6 := Lib.hid (show OwnB w6 w5.heap.size v6 (leL Qi 4) from o6)
              have HM6 := Lib.hid m6
              clear o6 m6 HLQ
              go_wp2_with fail
              refine (HLT.out _).mono ?_
              rintro e w7 ⟨v7, rfl, o7, m7⟩
              have HX7 := Lib.hid (show Rd w7 v7 (u8s (leL Ti 4)) from Rd.own o7)
              have HO7 := Lib.hid (HO6.out.mods0 m7)
              have HM7 := Lib.hid (HM6.out.trans m7)
              clear o7 m7 HLT HO6 HM6
              go_upto_region 15 with (at_builtin; refine wpList_appB (by rfl) (.tmp 73) (.tmp 76) rfl (v := v6) (by rfl) HO7.out (by rfl) HX7.out (by simp [leL_length]) (HM7.out.size) ?_; intro V8 w8 O8 M8; have HO8 := Lib.hid O8; have HM8 := Lib.hid (HM7.out.comp M8 (fun y hy => .inr (HO7.out.back hy))); clear O8 M8)
              clear HO7 HM7 HX7
              go_wp2_with fail
              refine (HLN.out _).mono ?_
              rintro e w9 ⟨v9, rfl, o9, m9⟩
              have HX9 := Lib.hid (show Rd w9 v9 (u8s (leL Ni 2)) from Rd.own o9)
              have HO9 := Lib.hid (HO8.out.mods0 m9)
              have HM9 := Lib.hid (HM8.out.trans m9)
              clear o9 m9 HLN HO8 HM8
              go_upto_region 16 with (at_builtin; refine wpList_appB (by rfl) (.tmp 78) (.tmp 81) rfl (v := V8) (by rfl) HO9.out (by rfl) HX9.out (by simp [leL_length]) (HM9.out.size) ?_; intro VA wA OA MA; have HOA := Lib.hid (show OwnB wA w5.heap.size VA (hdrL Q T nx) from by rw [HHL.out]; exact OA); have HMA := Lib.hid (HM9.out.comp MA (fun y hy => .inr (HO9.out.back hy))); clear OA MA)
              clear HO9 HM9 HX9 HHL wq wt wn HWQ
              have HDA := Lib.hid (HD5.out.mods0 HMA.out)
              have HBA := Lib.hid (HMA.out.heap HB5.out (by simp))
              have c0 := (cell_blk HBA.out 0).trans (show _ = some (Value.pointer (some ⟨p.b, 0, none⟩)) from rfl)
              have HF5 := Lib.hid (show ∀ y ∈ p.foot, y < w5.heap.size from HD5.out.lt)
              have HPG := Lib.hid (refProgram_ok wA p _ HDA.out HOK.out ((G.at j : Nat) : Int) VA _ HOA.out.rd (hdrL_bytes _ _ _) (fun _ k hk hm => by
                have h1 := (HOA.out.lt k hk).1
                have h2 := HF5.out k (by simp [DevAt.foot] at hm ⊢; rcases hm with h | h <;> simp [h])
                omega) HFE.out)
              rw [← HOH.out, ← HAA.out] at HPG
              go_wp2_with fail
              refine HPG.out.mono ?_
              rintro e wB ⟨rfl, dB, mB⟩
              have HDB := Lib.hid dB
              have mB2 : Mods p.foot wA wB := mB.mono (fun y hy => .inl (by simp [DevAt.foot] at hy ⊢; rcases hy with h | h <;> simp [h]))
              have HBB := Lib.hid (mB2.heap HBA.out HAP.out)
              have HMB := Lib.hid (HM5.out.trans (HMA.out.nil.trans mB2))
              clear dB mB mB2 HPG HBA HDA HOA c0
              by_cases hH : (openH G D j Q T nx).1 = 0
              · have HOD := Lib.hid (show openD G D j Q T nx = (openH G D j Q T nx).2.program ((G.at j + 10 : Nat) : Int) [0] from if_pos hH)
                have c0 := (cell_blk HBB.out 0).trans (show _ = some (Value.pointer (some ⟨p.b, 0, none⟩)) from rfl)
                have M1 := (Mods.refl (S := []) (w := wB)).alloc (.cells (u8s [0]).toArray 5)
                have hO1 := OwnB.lit wB (Nat.le_refl _) [0] (by decide)
                have HC1 := Lib.hid (refProgram_ok _ p _ (HDB.out.mods0 M1) HSH.out.1.ok ((G.at j + 10 : Nat) : Int) _ [0] hO1.rd (bytes_of (by simp)) (fun _ k hk hm => by
                  have h1 := (hO1.lt k hk).1
                  have h2 := HDB.out.lt k (by simp [DevAt.foot] at hm ⊢; rcases hm with h | h <;> simp [h])
                  omega) (Int.le_trans HSH.out.2.1.st (by decide)))
                have HM1 := Lib.hid M1
                have HA10 := Lib.hid (show ((a : Nat) : Int) + 10 = ((G.at j + 10 : Nat) : Int) from by rw [HAA.out]; rfl)
                have a0 : (0 : Int) ≤ ((a : Nat) : Int) := by omega
                have a1 : ((a : Nat) : Int) ≤ 16384 := by have := HA16.out; omega
                clear M1 hO1
                rw [hH]
                clear hH
                go_wp2_with (go_at_call 33; rw [HA10.out]; refine HC1.out.mono ?_; rintro e wC ⟨rfl, dC, mC⟩; rw [← HOD.out] at dC ⊢; have HDC := Lib.hid dC; have HMC := Lib.hid (show Mods p.foot w wC from HMB.out.trans (HM1.out.nil.trans (mC.mono (fun y hy => .inl (by simp [DevAt.foot] at hy ⊢; rcases hy with h | h <;> simp [h]))))); clear dC mC)
                go_ret
                rw [HOL.out]
                exact ⟨rfl, HDC.out, HMC.out⟩
              · have HOD := Lib.hid (show openD G D j Q T nx = openH G D j Q T nx from if_neg hH)
                have hne : ((openH G D j Q T nx).1 != 0) = true := by simpa using hH
                have HOL2 := Lib.hid (show openL G D S T = ((openH G D j Q T nx).1, (openH G D j Q T nx).2, S) from by rw [HOL.out, HOD.out, if_neg hH])
                clear hH
                generalize (openH G D j Q T nx).1 = er at hne HOL2 ⊢
                go_wp2_with fail
                go_ret
                rw [HOL2.out]
                exact ⟨rfl, HDB.out, HMB.out⟩
            · have hH : openH G D j Q T nx = openE G D j := if_neg hE
              have HOD := Lib.hid (show openD G D j Q T nx = openE G D j from by unfold openD; rw [hH, if_neg hE])
              have hne : ((openE G D j).1 != 0) = true := by simpa using hE
              have HOL2 := Lib.hid (show openL G D S T = ((openE G D j).1, (openE G D j).2, S) from by rw [HOL.out, HOD.out, if_neg hE])
              clear hE hH
              generalize (openE G D j).1 = er at hne HOL2 ⊢
              go_wp2_with fail
              go_ret
              rw [HOL2.out]
              exact ⟨rfl, HD5.out, HM5.out⟩
end Go.Proofs.Ytkdadnlleepkfaa

namespace Go.Proofs.Ytkdadnlleepkfaa
open Go.RowKit
set_option linter.unusedVariables false
set_option linter.unusedSimpArgs false
set_option maxRecDepth 100000
set_option maxHeartbeats 4000000 in
theorem rEncode_ok (w : World) (e : Evt) (h : validE e = true) :
    Calls Try.prog 72 #[.agg e.cells.toArray] w fun en w' => EvOut w (encEv e) en w' := by
  have M0 := Lib.hid ((Mods.refl (S := []) (w := w)).alloc (.cells e.cells.toArray 37))
  have B0 := Lib.hid (EvBox.new w e)
  have HB := Lib.hid (heap_alloc_new w (.cells e.cells.toArray 37))
  obtain ⟨h1, h2, h3⟩ := (validE_iff e).1 h
  have HV := Lib.hid (fun W => rValid_ok W e)
  rw [h] at HV
  have k1 := e.id.isLt
  have k2 := e.time.isLt
  have k3 := e.gen.isLt
  obtain ⟨knd, hk⟩ : ∃ k, k = e.typ.val + (if e.de then 128 else 0) := ⟨_, rfl⟩
  have HE := Lib.hid (show encEv e = leL ((e.id.val : Nat) : Int) 2 ++ [2] ++ leL ((e.time.val : Nat) : Int) 4 ++ leL ((e.gen.val : Nat) : Int) 2 ++ [4, ((e.st.val : Nat) : Int), ((e.sen.val : Nat) : Int), ((knd : Nat) : Int), ((e.d0.val : Nat) : Int), ((e.d1.val : Nat) : Int), ((e.d2.val : Nat) : Int)] from by
    unfold encEv leL
    rw [← hk]
    simp only [List.range_succ, List.range_zero, List.nil_append, List.map_append, List.map_cons, List.map_nil, List.cons_append, Int.reducePow]
    simp only [List.cons.injEq, and_true, true_and]
    omega)
  have HK := Lib.hid (show (e.de = true → ((e.typ.val : Nat) : Int) + 128 = ((knd : Nat) : Int)) ∧ (e.de = false → ((e.typ.val : Nat) : Int) = ((knd : Nat) : Int)) ∧ knd ≤ 255 from by
    cases hd : e.de with
    | true =>
      rw [hd] at hk
      simp at hk
      refine ⟨fun _ => ?_, fun h => ?_, ?_⟩
      · omega
      · cases h
      · omega
    | false =>
      rw [hd] at hk
      simp at hk
      refine ⟨fun h => ?_, fun _ => ?_, ?_⟩
      · cases h
      · omega
      · omega)
  clear h hk
  go_enter Try.func72, Try.ntmps72
  go_upto_region 1 with (fail)
  generalize w.alloc (.cells e.cells.toArray 37) = w0 at M0 B0 HB ⊢
  generalize hg1 : w.heap.size = g1 at B0 HB ⊢
  have HG1 := Lib.hid hg1
  clear hg1
  go_wp2_with (refine wpList_load_rowG (by rfl) 37 (.tmp 1) rfl g1 (by rfl) _ _ _ _ HB.out Try.underlying37 rfl Try.sizeEv ?_)
  refine (HV.out _).mono ?_
  rintro en w1 ⟨rfl, hm1⟩
  have HM1 := Lib.hid (M0.out.trans hm1)
  have HX1 := Lib.hid (B0.out.mods0 hm1)
  clear hm1 M0 B0 HB HV
  obtain ⟨c0, c1, c2, c3, c4, c5, c6, c7, c8, c9⟩ := HX1.out.cs
  clear c0 c1 c2 c3 c4 c7 c8 c9
  have t0 : (0 : Int) ≤ ((e.typ.val : Nat) : Int) := by omega
  have t1 : ((e.typ.val : Nat) : Int) ≤ 127 := by omega
  go_upto_if 12 with (fail)
  clear c5 c6
  go_cut [4] (fun u wx => u = .int .u8 (knd : Nat) ∧ w1 = wx)
  case first =>
    cases hd : e.de with
    | true =>
      have HKK := Lib.hid (HK.out.1 hd)
      have hw : IntKind.u8.wrap (((e.typ.val : Nat) : Int) + 128) = ((knd : Nat) : Int) := by
        have h1 := HKK.out
        have h2 := HK.out.2.2
        rw [h1, IntKind.wrap_u8]
        omega
      clear hd
      go_wp2_with fail
      go_meet
      exact ⟨rfl, rfl⟩
    | false =>
      have HKK := Lib.hid (HK.out.2.1 hd)
      clear hd
      go_wp2_with fail
      go_meet
      exact ⟨by rw [HKK.out], rfl⟩
  case rest =>
    obtain ⟨rfl, rfl⟩ := hcut
    obtain ⟨c0, c1, c2, c3, c4, c5, c6, c7, c8, c9⟩ := HX1.out.cs
    have HC := Lib.hid (fun W (M : Mods [] w1 W) => (HX1.out.mods0 M).cs)
    clear c1 c2 c3 c4 c5 c6 c7 c8 c9 t0 t1
    have HL1 := Lib.hid (fun W => little_ok W ((e.id.val : Nat) : Int) 2 (by omega) (by omega))
    have HL2 := Lib.hid (fun W => little_ok W ((e.time.val : Nat) : Int) 4 (by omega) (by omega))
    have HL3 := Lib.hid (fun W => little_ok W ((e.gen.val : Nat) : Int) 2 (by omega) (by omega))
    have w1' : IntKind.u64.wrap ((e.id.val : Nat) : Int) = ((e.id.val : Nat) : Int) := by rw [IntKind.wrap_u64]; omega
    have w2' : IntKind.u64.wrap ((e.time.val : Nat) : Int) = ((e.time.val : Nat) : Int) := by rw [IntKind.wrap_u64]; omega
    have w3' : IntKind.u64.wrap ((e.gen.val : Nat) : Int) = ((e.gen.val : Nat) : Int) := by rw [IntKind.wrap_u64]; omega
    clear k1 k2 k3 h1 h2 h3 HK
    generalize ((e.id.val : Nat) : Int) = I1 at HL1 HE HC c0 w1'
    generalize ((e.time.val : Nat) : Int) = I2 at HL2 HE HC w2'
    generalize ((e.gen.val : Nat) : Int) = I3 at HL3 HE HC w3'
    go_wp2_with fail
    refine (HL1.out _).mono ?_
    rintro en w2 ⟨v2, rfl, o2, m2⟩
    have HO2 := Lib.hid (show OwnB w2 w1.heap.size v2 (leL I1 2) from o2)
    have HM2 := Lib.hid m2
    clear o2 m2 HL1 c0 w1'
    go_upto_region 7 with (at_builtin; refine wpList_appB (by rfl) (.tmp 18) (.tmp 19) rfl (v := v2) (by rfl) (HO2.out.mods0 (Mods.refl.alloc _)) (by rfl) (OwnB.lit w2 (Nat.le_refl _) [2] (by unfold maxLen; simp)).rd (by simp [leL_length]) (by have := HM2.out.size; simp; omega) ?_; intro V3 w3 O3 M3; have HO3 := Lib.hid (show OwnB w3 w1.heap.size V3 (leL I1 2 ++ [2]) from O3); have HM3 := Lib.hid (show Mods [] w1 w3 from (HM2.out.alloc _).comp M3 (fun y hy => .inr (HO2.out.back hy))); clear O3 M3)
    obtain ⟨-, c1, -⟩ := HC.out w3 HM3.out
    clear HO2 HM2
    go_wp2_with fail
    refine (HL2.out _).mono ?_
    rintro en w4 ⟨v4, rfl, o4, m4⟩
    have HX4 := Lib.hid (show Rd w4 v4 (u8s (leL I2 4)) from Rd.own o4)
    have HO4 := Lib.hid (HO3.out.mods0 m4)
    have HM4 := Lib.hid (HM3.out.trans m4)
    clear o4 m4 HL2 c1 w2' HO3 HM3
    go_upto_region 8 with (at_builtin; refine wpList_appB (by rfl) (.tmp 21) (.tmp 25) rfl (v := V3) (by rfl) HO4.out (by rfl) HX4.out (by simp [leL_length]) (HM4.out.size) ?_; intro V5 w5 O5 M5; have HO5 := Lib.hid O5; have HM5 := Lib.hid (HM4.out.comp M5 (fun y hy => .inr (HO4.out.back hy))); clear O5 M5)
    obtain ⟨-, -, c2, -⟩ := HC.out w5 HM5.out
    clear HO4 HM4 HX4
    go_wp2_with fail
    refine (HL3.out _).mono ?_
    rintro en w6 ⟨v6, rfl, o6, m6⟩
    have HX6 := Lib.hid (show Rd w6 v6 (u8s (leL I3 2)) from Rd.own o6)
    have HO6 := Lib.hid (HO5.out.mods0 m6)
    have HM6 := Lib.hid (HM5.out.trans m6)
    clear o6 m6 HL3 c2 w3' HO5 HM5
    go_upto_region 9 with (at_builtin; refine wpList_appB (by rfl) (.tmp 27) (.tmp 31) rfl (v := V5) (by rfl) HO6.out (by rfl) HX6.out (by simp [leL_length]) (HM6.out.size) ?_; intro V7 w7 O7 M7; have HO7 := Lib.hid O7; have HM7 := Lib.hid (HM6.out.comp M7 (fun y hy => .inr (HO6.out.back hy))); clear O7 M7)
    obtain ⟨-, -, -, c3, c4, -, -, c7, c8, c9⟩ := HC.out w7 HM7.out
    clear HO6 HM6 HX6 HC
    generalize ((e.st.val : Nat) : Int) = J3 at c3 HE
    generalize ((e.sen.val : Nat) : Int) = J4 at c4 HE
    generalize ((e.d0.val : Nat) : Int) = J7 at c7 HE
    generalize ((e.d1.val : Nat) : Int) = J8 at c8 HE
    generalize ((e.d2.val : Nat) : Int) = J9 at c9 HE
    generalize ((knd : Nat) : Int) = J5 at HE ⊢
    go_wp2_with (at_builtin; refine wpList_appB (by rfl) (.tmp 33) (.tmp 48) rfl (v := V7) (by rfl) (HO7.out.mods0 (Mods.refl.alloc _)) (by rfl) (OwnB.lit w7 (Nat.le_refl _) [4, J3, J4, J5, J7, J8, J9] (by unfold maxLen; simp)).rd (by simp [leL_length]) (by have := HM7.out.size; simp; omega) ?_; intro V8 w8 O8 M8; have HO8 := Lib.hid (show OwnB w8 w1.heap.size V8 (encEv e) from by rw [HE.out]; exact O8); have HM8 := Lib.hid (show Mods [] w1 w8 from (HM7.out.alloc _).comp M8 (fun y hy => .inr (HO7.out.back hy))); clear O8 M8)
    go_ret2
    exact ⟨V8, rfl, HO8.out.down HM1.out.size, HM1.out.trans HM8.out⟩
end Go.Proofs.Ytkdadnlleepkfaa

namespace Go.Proofs.Ytkdadnlleepkfaa
open Go.RowKit
set_option linter.unusedVariables false
set_option linter.unusedSimpArgs false
set_option maxRecDepth 100000
/-- The reference's log is as the log. -/
structure RelL (L : LogP) (R : RLog) : Prop where
  e : R.ended = L.ended
  full : R.refused = L.full
  over : L.ended = false → R.over = L.over
  held : L.ended = false → R.held = L.held
  num : L.ended = false → R.last = L.num
theorem RelL.end {L : LogP} (R : RLog) : RelL endL (rEnd R) := ⟨rfl, rfl, fun h => Bool.noConfusion h, fun h => Bool.noConfusion h, fun h => Bool.noConfusion h⟩
theorem RelL.s {L : LogP} {R : RLog} (h : RelL L R) (S : LogS) : RelL { L with s := S } R := ⟨h.e, h.full, h.over, h.held, h.num⟩
/-- What Add of the reference leaves. -/
def RAddPost (w : World) (rb : Nat) (p : DevAt) (G : Geo) (D : Dev) (L : LogP) (x : Evt) (e : Ending) (w' : World) : Prop :=
  ∃ R', e = .returned (.tuple #[.int .u16 ((addL G D L x).1.1 : Nat), .int .i64 (addL G D L x).1.2]) ∧ RefAt w' rb p G (addL G D L x).2.1 R' ∧ RelL (addL G D L x).2.2 R' ∧ Mods (rb :: p.foot) w w'
/-- What Add makes of a place that there is. -/
def wrA (G : Geo) (D1 : Dev) (L : LogP) (S1 : LogS) (x : Evt) : (Nat × Int) × Dev × LogP :=
  if (putR G D1 S1 (withId x S1.next)).1 ≠ 0 then ((0, (putR G D1 S1 (withId x S1.next)).1), (putR G D1 S1 (withId x S1.next)).2, orEnd (putR G D1 S1 (withId x S1.next)).2 { L with s := S1 })
  else ((S1.next, 0), (putR G D1 S1 (withId x S1.next)).2, { L with s := moreS S1 x })
theorem withId_cells (x : Evt) {id : Nat} (h : id ≤ 65534) : x.cells.toArray.setIfInBounds 0 (.int .u16 ((id : Nat) : Int)) = (withId x id).cells.toArray := by
  have h1 : (withId x id).id.val = id := withId_id h
  simp only [Evt.cells, h1]
  rfl
theorem RefAt.redev {w w' : World} {rb : Nat} {p : DevAt} {G : Geo} {D D' : Dev} {R : RLog} (h : RefAt w rb p G D R) (hd : IsDev w' p D') (hf : Fits G D') (M : Mods p.foot w w') : RefAt w' rb p G D' R :=
  ⟨M.heap h.blk h.apart, hd, h.apart, hf⟩
set_option maxHeartbeats 8000000 in
theorem rAdd_ok (w : World) (rb : Nat) (p : DevAt) (G : Geo) (D : Dev) (R : RLog) (L : LogP) (h : RefAt w rb p G D R) (hs : Sync G D L) (hr : RelL L R) (hf : Few D 4611686018425000000) (x : Evt) :
    Calls Try.prog 35 #[.pointer (some ⟨rb, 0, none⟩), .agg x.cells.toArray] w fun e w' => RAddPost w rb p G D L x e w' := by
  have H := Lib.hid h
  have HS := Lib.hid hs
  have HRL := Lib.hid hr
  have HFW := Lib.hid hf
  have hsy := addL_sync hs hf x
  have HFN := Lib.hid hsy.1.fit
  have M0 := Lib.hid ((Mods.refl (S := []) (w := w)).alloc (.cells x.cells.toArray 37))
  have B0 := Lib.hid (EvBox.new w x)
  have HRBL := Lib.hid (lt_of_block h.blk)
  obtain ⟨g1, g2, g3, g4, g5⟩ := h.geo
  clear h hs hf hsy
  by_cases hed : L.ended = true
  · have HAD := Lib.hid (addL_end (G := G) (D := D) (.inl hed) x)
    have hre : R.ended = true := hr.e.trans hed
    have HR0 := Lib.hid (H.out.mods0 M0.out)
    have c7 := HR0.out.c7
    rw [hre] at c7
    clear hed hre hr
    have HEN := Lib.hid (rEnd_ok _ rb p G D R HR0.out)
    go_enter Try.func35, Try.ntmps35
    go_upto_region 1 with (fail)
    generalize w.alloc (.cells x.cells.toArray 37) = w0 at M0 B0 HR0 c7 HEN ⊢
    go_wp2_with fail
    refine HEN.out.mono ?_
    rintro e w1 ⟨rfl, hr1, hm1⟩
    have HX := Lib.hid (And.intro hr1 (show Mods (rb :: p.foot) w w1 from M0.out.nil.trans (hm1.mono (fun y hy => .inl (by simp at hy; simp [hy])))))
    clear hr1 hm1
    go_wp2_with fail
    go_ret2
    refine ⟨rEnd R, by rw [HAD.out]; rfl, ?_, ?_, HX.out.2⟩
    · rw [HAD.out]; exact HX.out.1
    · rw [HAD.out]; exact RelL.end (L := L) R
  · have hed' : L.ended = false := by simpa using hed
    have HED := Lib.hid hed'
    have hre : R.ended = false := hr.e.trans hed'
    have hdn : D.down = false := HS.out.up hed'
    have HDN := Lib.hid hdn
    have hLs : L.s = openS (byt D) G := HS.out.s hed'
    have HLS := Lib.hid hLs
    have HR0 := Lib.hid (H.out.mods0 M0.out)
    have c7 := HR0.out.c7
    have c0 := HR0.out.c0
    have d6 := HR0.out.dev.c6
    rw [hre] at c7
    rw [hdn] at d6
    clear hed hed' hre hdn hr hLs
    have HVA := Lib.hid (fun W => rValid_ok W x)
    by_cases hv : (validE x && decide (x.id.val = 0)) = false
    · have HAD := Lib.hid (addL_bad (G := G) HED.out HDN.out hv)
      obtain ⟨vb, hvb⟩ : ∃ vb, vb = validE x := ⟨_, rfl⟩
      rw [← hvb] at HVA hv
      have cid := B0.out.cs.1
      cases vb with
      | true =>
        have hid : ¬ x.id.val = 0 := by simpa using hv
        have d1 : (((x.id.val : Nat) : Int) != 0) = true := by simpa using hid
        clear hid
        clear hvb hv
        go_enter Try.func35, Try.ntmps35
        go_upto_region 1 with (fail)
        generalize w.alloc (.cells x.cells.toArray 37) = w0 at M0 B0 HR0 c7 c0 d6 cid ⊢
        generalize w.heap.size = g3 at B0 cid ⊢
        have HB0 : Hid (w0.heap[g3]? = some (.cells x.cells.toArray 37 (0, 0))) := B0
        go_wp2_with (refine wpList_load_rowG (by rfl) 37 (.tmp 3) rfl g3 (by rfl) _ _ _ _ HB0.out Try.underlying37 rfl Try.sizeEv ?_)
        refine (HVA.out _).mono ?_
        rintro e w1 ⟨rfl, hm1⟩
        have HM1 := Lib.hid (M0.out.trans hm1)
        have cid1 := hm1.cell cid (by simp)
        clear hm1
        go_wp2_with fail
        go_ret2
        refine ⟨R, by rw [HAD.out]; rfl, ?_, ?_, HM1.out.nil⟩
        · rw [HAD.out]; exact H.out.mods0 HM1.out
        · rw [HAD.out]; exact HRL.out
      | false =>
        clear hvb hv
        go_enter Try.func35, Try.ntmps35
        go_upto_region 1 with (fail)
        generalize w.alloc (.cells x.cells.toArray 37) = w0 at M0 B0 HR0 c7 c0 d6 cid ⊢
        generalize w.heap.size = g3 at B0 cid ⊢
        have HB0 : Hid (w0.heap[g3]? = some (.cells x.cells.toArray 37 (0, 0))) := B0
        go_wp2_with (refine wpList_load_rowG (by rfl) 37 (.tmp 3) rfl g3 (by rfl) _ _ _ _ HB0.out Try.underlying37 rfl Try.sizeEv ?_)
        refine (HVA.out _).mono ?_
        rintro e w1 ⟨rfl, hm1⟩
        have HM1 := Lib.hid (M0.out.trans hm1)
        have cid1 := hm1.cell cid (by simp)
        clear hm1
        go_wp2_with fail
        go_ret2
        refine ⟨R, by rw [HAD.out]; rfl, ?_, ?_, HM1.out.nil⟩
        · rw [HAD.out]; exact H.out.mods0 HM1.out
        · rw [HAD.out]; exact HRL.out
    · have hv2 : validE x = true ∧ x.id.val = 0 := by simpa using hv
      have HXV := Lib.hid hv2
      rw [hv2.1] at HVA
      have d1 : (((x.id.val : Nat) : Int) != 0) = false := by simp [hv2.2]
      have cid := B0.out.cs.1
      have HSP := Lib.hid (placeL_spec H.out.fit HDN.out HFW.out HLS.out)
      have HADQ := Lib.hid (show addL G D L x = (if (placeL G D L).1 ≠ 0 then ((0, (placeL G D L).1), (placeL G D L).2.1, orEnd (placeL G D L).2.1 (placeL G D L).2.2)
        else if (putR G (placeL G D L).2.1 (placeL G D L).2.2.s (withId x (placeL G D L).2.2.s.next)).1 ≠ 0 then
          ((0, (putR G (placeL G D L).2.1 (placeL G D L).2.2.s (withId x (placeL G D L).2.2.s.next)).1), (putR G (placeL G D L).2.1 (placeL G D L).2.2.s (withId x (placeL G D L).2.2.s.next)).2, orEnd (putR G (placeL G D L).2.1 (placeL G D L).2.2.s (withId x (placeL G D L).2.2.s.next)).2 (placeL G D L).2.2)
        else (((placeL G D L).2.2.s.next, 0), (putR G (placeL G D L).2.1 (placeL G D L).2.2.s (withId x (placeL G D L).2.2.s.next)).2, { (placeL G D L).2.2 with s := moreS (placeL G D L).2.2.s x })) from by
        unfold addL
        rw [if_neg (by rw [HED.out, HDN.out]; decide), if_neg (by rw [HXV.out.1, HXV.out.2]; decide)])
      have HNI := Lib.hid (fun W (M : Mods [] w W) => rNext_ok W rb p G D R (H.out.mods0 M))
      have HPL := Lib.hid (fun W (M : Mods [] w W) => rPlace_ok W rb p G D R (H.out.mods0 M))
      rw [← HLS.out] at HNI HPL
      have HNR := Lib.hid (show 1 ≤ L.s.next ∧ L.s.next ≤ 65534 from by rw [HLS.out]; exact next_rng _ _)
      obtain ⟨nx, hnx⟩ : ∃ nx, nx = L.s.next := ⟨_, rfl⟩
      rw [← hnx] at HNI HNR
      have HNX := Lib.hid hnx
      clear hv hv2 hnx
      go_enter Try.func35, Try.ntmps35
      go_upto_region 1 with (fail)
      generalize w.alloc (.cells x.cells.toArray 37) = w0 at M0 B0 HR0 c7 c0 d6 cid ⊢
      have HG3 := Lib.hid (show w.heap.size ∉ rb :: p.foot from fun hm => by
        simp only [List.mem_cons] at hm
        rcases hm with hm | hm
        · have := HRBL.out; omega
        · have := H.out.dev.lt _ hm; omega)
      generalize w.heap.size = g3 at B0 cid HG3 ⊢
      have HB0 : Hid (w0.heap[g3]? = some (.cells x.cells.toArray 37 (0, 0))) := B0
      go_wp2_with (refine wpList_load_rowG (by rfl) 37 (.tmp 3) rfl g3 (by rfl) _ _ _ _ HB0.out Try.underlying37 rfl Try.sizeEv ?_)
      refine (HVA.out _).mono ?_
      rintro e w1 ⟨rfl, hm1⟩
      have HM1 := Lib.hid (M0.out.trans hm1)
      have HB1 := Lib.hid (hm1.heap HB0.out (by simp))
      have cid1 := hm1.cell cid (by simp)
      clear hm1 M0 B0 HB0 HR0 c7 c0 d6 cid HVA
      go_wp2_with fail
      refine (HNI.out _ HM1.out).mono ?_
      rintro e w2 ⟨rfl, hm2⟩
      have HM2 := Lib.hid (HM1.out.trans hm2)
      have HB2 := Lib.hid (hm2.heap HB1.out (by simp))
      clear hm2 cid1 HB1 HM1 HNI d1
      go_wp2_with fail
      refine (HPL.out _ HM2.out).mono ?_
      rintro e w3 ⟨rfl, hm3⟩
      have HM3 := Lib.hid (HM2.out.trans hm3)
      have HB3 := Lib.hid (hm3.heap HB2.out (by simp))
      have HR3 := Lib.hid (H.out.mods0 HM3.out)
      clear hm3 HB2 HM2 HPL
      by_cases hng : needG G L.s = true
      · have HPI := Lib.hid (show placeI G L.s = -1 from by unfold placeI; rw [if_pos hng])
        have HPG := Lib.hid (show placeL G D L = growL G D L from by unfold placeL; rw [if_pos hng])
        rw [HPI.out]
        have HNW := Lib.hid (rNewest_ok w3 rb p G D R HR3.out)
        have HFF := Lib.hid (show (newS (byt D) G).1 = L.s.newest ∧ (newS (byt D) G).2 = L.s.tail ∧ L.s.newest ≤ 2147483648 ∧ L.s.tail ≤ L.s.newest from by
          obtain ⟨f1, f2, f3, f4, _⟩ := openS_facts (byt D) G
          rw [← HLS.out] at f1 f2 f3 f4
          exact ⟨f1.symm, f2.symm, f3, f4⟩)
        rw [HFF.out.1, HFF.out.2.1] at HNW
        have HB0 := Lib.hid (show ∀ S0, baseS G L = some S0 → S0.used = 0 from fun S0 hb => by
          unfold baseS at hb
          rw [if_pos hng] at hb
          cases ht : tailL G L with
          | none => rw [ht] at hb; cases hb
          | some t => rw [ht] at hb; injection hb with hb; rw [← hb]; rfl)
        have HBN := Lib.hid (fun S0 (hb : baseS G L = some S0) => base_next hb)
        obtain ⟨q, hq⟩ : ∃ q, q = L.s.newest := ⟨_, rfl⟩
        obtain ⟨t, ht⟩ : ∃ t, t = L.s.tail := ⟨_, rfl⟩
        obtain ⟨m, hm⟩ : ∃ m, m = max t 1 := ⟨_, rfl⟩
        have HTL := Lib.hid (show tailL G L = if G.n - 2 < q + 1 - m then (if L.over then some (m + 1) else none) else some m from by unfold tailL; rw [← hq, ← ht, ← hm])
        rw [← hq, ← ht] at HNW
        have hff := HFF.out
        have HM1' := Lib.hid (show 1 ≤ m ∧ m ≤ q + 1 ∧ q ≤ 2147483648 from by omega)
        have hmx : (if ((t : Nat) : Int) < 1 then (1 : Int) else ((t : Nat) : Int)) = ((m : Nat) : Int) := by split <;> omega
        have HMX := Lib.hid hmx
        clear hff hq ht hm hmx hng HPI
        go_upto_region 8 with (fail)
        go_wp2_with fail
        refine HNW.out.mono ?_
        rintro e w4 ⟨rfl, m4, rfl⟩
        have HM4 := Lib.hid (HM3.out.drewN m4)
        have HB4' := Lib.hid (show (w3.drewN m4).heap[g3]? = some (.cells x.cells.toArray 37 (0, 0)) from HB3.out)
        have HR4 := Lib.hid (HR3.out.drewN m4)
        generalize w3.drewN m4 = w4 at HM4 HB4' HR4 ⊢
        clear HNW HM3 HB3 HR3
        have c2 := HR4.out.c2
        have c3 := HR4.out.c3
        rw [HRL.out.over HED.out] at c3
        have q0 : (0 : Int) ≤ ((q : Nat) : Int) := by omega
        have q32 : ((q : Nat) : Int) < 4294967296 := by have := HM1'.out; omega
        have m0 : (1 : Int) ≤ ((m : Nat) : Int) := by have := HM1'.out; omega
        have m32 : ((m : Nat) : Int) < 4294967296 := by have := HM1'.out; omega
        have s16 : ((G.n : Nat) : Int) ≤ 16 := by omega
        have s2 : (2 : Int) ≤ ((G.n : Nat) : Int) := by omega
        go_upto_region 10 with (fail)
        rw [HMX.out]
        by_cases hc : G.n - 2 < q + 1 - m
        · have e1 : decide (((G.n : Nat) : Int) - 2 < ((q : Nat) : Int) + 1 - ((m : Nat) : Int)) = true := decide_eq_true (by have := HM1'.out; omega)
          have e2 : ((G.n : Nat) : Int) - 2 < ((q : Nat) : Int) + 1 - ((m : Nat) : Int) := by have := HM1'.out; omega
          have htl := HTL.out
          rw [if_pos hc] at htl
          obtain ⟨ovr, hov⟩ : ∃ o, o = L.over := ⟨_, rfl⟩
          rw [← hov] at htl c3
          have HTV := Lib.hid htl
          clear hc htl hov
          cases ovr with
          | false =>
            have HT0 := Lib.hid (show tailL G L = none from HTV.out)
            have HP := Lib.hid (show placeL G D L = (9, D, { L with full := true }) from by rw [HPG.out]; unfold growL; rw [HT0.out])
            have HW := Lib.hid (show addL G D L x = ((0, 9), D, { L with full := true }) from by
              rw [HADQ.out, HP.out, if_pos (by decide : ¬ (9 : Int) = 0)]
              unfold orEnd
              rw [if_neg (by rw [HDN.out]; decide)])
            have c4 := HR4.out.c4
            have f4 := froz_blk HR4.out.blk 4
            clear HTV HTL HADQ HSP HP HPG
            go_wp2_with fail
            go_ret2
            refine ⟨{ R with refused := true }, by rw [HW.out]; rfl, ?_, ?_, HM4.out.nil.setCell (.inl (by simp)) _⟩
            · rw [HW.out]
              exact HR4.out.put 4 (.bool true) (R' := { R with refused := true }) rfl
            · rw [HW.out]
              exact ⟨HRL.out.e, rfl, HRL.out.over, HRL.out.held, HRL.out.num⟩
          | true =>
            obtain ⟨T, hT⟩ : ∃ T, T = m + 1 := ⟨_, rfl⟩
            have HT := Lib.hid (show tailL G L = some T from by rw [hT]; exact HTV.out)
            have HTM2 := Lib.hid (show T ≤ 2147483649 from by
              have h1 := HM1'.out
              omega)
            have HTM := Lib.hid (show 1 ≤ T from by omega)
            have HTI := Lib.hid (show ((m : Nat) : Int) + 1 = ((T : Nat) : Int) from by omega)
            clear hT HTV HTL
            have HLO := Lib.hid (rLopen_ok w4 rb p G D R HR4.out HDN.out (HFW.out.mono (by omega)) T (by have := HTM2.out; omega))
            rw [← HLS.out] at HLO
            have hrt : rTail L.s T = T := if_neg (by have := HTM.out; omega)
            rw [hrt] at HLO
            have HP := Lib.hid (show placeL G D L = ((openL G D L.s T).1, (openL G D L.s T).2.1, { L with s := (openL G D L.s T).2.2 }) from by rw [HPG.out]; unfold growL; rw [HT.out])
            have hspo := HSP.out
            rw [HP.out] at hspo
            have HSQ := Lib.hid hspo
            rw [HP.out] at HADQ
            generalize openL G D L.s T = OP at HLO HSQ HADQ
            obtain ⟨oc, D1, S1⟩ := OP
            simp only at HLO HSQ HADQ
            clear hspo hrt HP HSP HPG
            go_upto_region 15 with (fail)
            try rw [HTI.out]
            go_wp2_with fail
            refine HLO.out.mono ?_
            rintro e w5 ⟨rfl, hd5, hm5⟩
            have HRD := Lib.hid (HR4.out.redev hd5 HSQ.out.fit hm5)
            have HBQ := Lib.hid (hm5.heap HB4'.out (fun h => HG3.out (by simp [h])))
            have HMD := Lib.hid (show Mods (rb :: p.foot) w w5 from HM4.out.nil.trans (hm5.mono (fun y hy => .inl (by simp [hy]))))
            clear hd5 hm5 HLO HR4 HB4' HM4 c2 c3
            have hso := HSQ.out.out
            simp only at hso
            rcases hso with ⟨h1, h2, S0, hb, h3, h4, h5, h6⟩ | ⟨_, _, _, _, h5⟩ | ⟨h1, h2, h3, _⟩ | ⟨h1, h2, _⟩
            · have h7 : S1 = S0 := congrArg LogP.s h3
              subst h7
              subst h1
              have HQ := Lib.hid (show Fits G D1 ∧ Few D1 4611686018425000012 ∧ D1.down = false ∧ S1 = openS (byt D1) G ∧ 0 < S1.newest ∧ S1.used < G.slots from ⟨HSQ.out.fit, HSQ.out.few, h2, h4, h5, h6⟩)
              have HNX1 := Lib.hid (show S1.next = nx from by rw [HBN.out S1 hb]; exact HNX.out.symm)
              obtain ⟨i, hi⟩ : ∃ i, i = S1.used := ⟨_, rfl⟩
              have HI := Lib.hid hi
              have HI0 := Lib.hid (show i = 0 from by rw [hi]; exact HB0.out S1 hb)
              have HADW := Lib.hid (show addL G D L x = wrA G D1 L S1 x from by rw [HADQ.out, if_neg (fun h => h rfl)]; rfl)
              clear h2 hb h3 h4 h5 h6 hi HSQ HADQ q0 q32 m0 m32 s16 s2 e1 e2
              go_upto_region 20 with (fail)
              go_cut [7] (fun u wx => u = .int .i64 (i : Nat) ∧ w5 = wx)
              case first =>
                go_wp2_with fail
                go_meet
                exact ⟨by rw [HI0.out]; rfl, rfl⟩
              case rest =>
                obtain ⟨rfl, rfl⟩ := hcut
                have i0 : (0 : Int) ≤ ((i : Nat) : Int) := by omega
                go_upto_region 21 with (fail)
                have hnr := HNR.out
                have n1 : ((nx : Nat) : Int) ≤ 65534 := by omega
                have n0 : (0 : Int) ≤ ((nx : Nat) : Int) := by omega
                have nw : IntKind.u16.wrap ((nx : Nat) : Int) = ((nx : Nat) : Int) := by rw [IntKind.wrap_u16]; omega
                go_upto_region 22 with (first
                  | (refine wpList_load_rowG (by rfl) 37 (.tmp 3) rfl g3 (by rfl) _ _ _ _ HBQ.out Try.underlying37 rfl Try.sizeEv ?_)
                  | (refine wpList_store_row (cs := x.cells.toArray) rfl 37 (.tmp 12) (.tmp 84) rfl (heap_alloc_new w5 _) (by rfl) (by rfl) (by rfl) Try.sizeEv (Evt.one x) ?_; intro w4 R4 M4; have HF4 := Lib.hid (freshA M4); have HB4 := Lib.hid R4; clear R4 M4))
                have HMS := Lib.hid (show ∀ W, Mods [w5.heap.size] w4 W → Mods [] w5 W from fun W M => HF4.out.comp M (fun q hq => by simp at hq; subst hq; exact .inr (Nat.le_refl _)))
                clear HF4
                generalize w5.heap.size = g12 at HB4 HMS ⊢
                have cid := (cell_blk HB4.out 0).trans (show _ = some (Value.int .u16 ((x.id.val : Nat) : Int)) from rfl)
                have fid := froz_blk HB4.out 0
                go_upto_region 23 with (fail)
                have HM5 := Lib.hid (HMS.out _ ((Mods.refl (S := [g12]) (w := w4)).setCell (p := ⟨g12, 0, none⟩) (.inl (by simp)) (.int .u16 ((nx : Nat) : Int))))
                have HB5 := Lib.hid (show (w4.setCell ⟨g12, 0, none⟩ (.int .u16 ((nx : Nat) : Int))).heap[g12]? = some (.cells (withId x nx).cells.toArray 37 (0, 0)) from by
                  have h := heap_setCell (i := 0) (v := .int .u16 ((nx : Nat) : Int)) HB4.out
                  rw [withId_cells x HNR.out.2] at h
                  exact h)
                clear cid fid HB4 HMS
                generalize w4.setCell ⟨g12, 0, none⟩ (.int .u16 ((nx : Nat) : Int)) = w5 at HM5 HB5 ⊢
                have HYV := Lib.hid (show validE (withId x nx) = true from validE_withId HXV.out.1 HNR.out.2)
                have HEN := Lib.hid (rEncode_ok w5 (withId x nx) HYV.out)
                have HBE := Lib.hid (enc_bytes HYV.out)
                generalize hy : withId x nx = y at HB5 HEN HYV HBE
                have HY := Lib.hid hy
                clear hy
                have HEN : Hid (Calls Try.prog 72 #[.agg y.cells.toArray] w5 _) := HEN
                go_wp2_with (refine wpList_load_rowG (by rfl) 37 (.tmp 12) rfl g12 (by rfl) _ _ _ _ HB5.out Try.underlying37 rfl Try.sizeEv ?_)
                refine HEN.out.mono ?_
                rintro e w6 ⟨v6, rfl, o6, m6⟩
                have HO6 := Lib.hid o6
                have HM6 := Lib.hid (HM5.out.trans m6)
                have HSZ := Lib.hid HM5.out.size
                have HZ6 := Lib.hid m6.size
                have HR6 := Lib.hid (HRD.out.mods0 HM6.out)
                clear o6 m6 HEN HB5 HM5
                have HNW := Lib.hid (rNewest_ok w6 rb p G D1 R HR6.out)
                obtain ⟨q, hq⟩ : ∃ q, q = (newS (byt D1) G).1 := ⟨_, rfl⟩
                have HQ1 := Lib.hid (show S1.newest = q ∧ q ≤ 2147483648 from by
                  obtain ⟨f1, _, f3, _⟩ := openS_facts (byt D1) G
                  rw [← HQ.out.2.2.2.1, ← hq] at f1
                  rw [← HQ.out.2.2.2.1] at f3
                  omega)
                rw [← hq] at HNW
                clear hq
                go_wp2_with fail
                refine HNW.out.mono ?_
                rintro e w7 ⟨rfl, m7, rfl⟩
                have HR7 := Lib.hid (HR6.out.drewN m7)
                have HO7 := Lib.hid (HO6.out.mods0 (Mods.refl.drewN m7))
                have HM7 := Lib.hid (HM6.out.drewN m7)
                have HZ7 := Lib.hid (show w5.heap.size ≤ (w6.drewN m7).heap.size from HZ6.out)
                generalize w6.drewN m7 = w7 at HR7 HO7 HM7 HZ7 ⊢
                clear HNW HR6 HO6 HM6
                have hqq := HQ1.out
                have hq0 : 0 < q := by have h := HQ.out.2.2.2.2.1; omega
                have hn0 : 0 < G.n := by omega
                obtain ⟨j, hj⟩ : ∃ j, j = (q - 1) % G.n := ⟨_, rfl⟩
                have hjn : j < G.n := by rw [hj]; exact Nat.mod_lt _ hn0
                have q0 : (1 : Int) ≤ ((q : Nat) : Int) := by omega
                have q32 : ((q : Nat) : Int) < 4294967296 := by omega
                have hT1 : (((q : Nat) : Int) - 1) % ((G.n : Nat) : Int) = ((j : Nat) : Int) := by rw [hj, Int.natCast_emod]; congr 1; omega
                have hT2 : (((q : Nat) : Int) - 1).tmod ((G.n : Nat) : Int) = ((j : Nat) : Int) := by rw [Int.tmod_eq_emod_of_nonneg (by omega)]; exact hT1
                have hn1 : ¬ ((G.n : Nat) : Int) = 0 := by omega
                have hn2 : (0 : Int) ≤ ((G.n : Nat) : Int) := by omega
                have c2 := HR7.out.c2
                have HBS := Lib.hid (rBase_ok w7 rb p G D1 R HR7.out j hjn)
                have hsl := slot_in HQ.out.1.geo (show i < G.slots from by rw [HI.out]; exact HQ.out.2.2.2.2.2) j
                have hse := HQ.out.1.sect hjn
                have hle := HQ.out.1.ok.len
                obtain ⟨bs, hbs⟩ : ∃ bs, bs = G.at j := ⟨_, rfl⟩
                obtain ⟨a, ha⟩ : ∃ a, a = G.slot j i := ⟨_, rfl⟩
                have HAE := Lib.hid (show ((bs : Nat) : Int) + 11 + 17 * ((i : Nat) : Int) = ((a : Nat) : Int) from by rw [ha, hbs]; unfold Geo.slot; omega)
                rw [← hbs] at HBS hsl hse
                rw [← ha] at hsl
                have HPUT := Lib.hid (show putR G D1 S1 (withId x S1.next) = D1.program ((a : Nat) : Int) (encEv y ++ [0]) from by
                  unfold putR
                  rw [HNX1.out, HY.out, HQ1.out.1, ← hj, ← HI.out, ← ha])
                have b0 : (0 : Int) ≤ ((bs : Nat) : Int) := by omega
                have b1 : ((bs : Nat) : Int) ≤ 16384 := by omega
                have i1 : ((i : Nat) : Int) ≤ 1000 := by
                  have h1 := slots_le (G := G) (by have := HQ.out.1.size; have := HQ.out.1.ok.s1; omega)
                  have h2 := HQ.out.2.2.2.2.2
                  have h3 := HI.out
                  omega
                clear hj hjn hbs ha hqq hq0 hsl hse hle
                go_wp2_with fail
                refine HBS.out.mono ?_
                rintro e w8 ⟨rfl, m8, rfl⟩
                have HR8 := Lib.hid (HR7.out.drewN m8)
                have HO8 := Lib.hid (HO7.out.mods0 (Mods.refl.drewN m8))
                have HM8 := Lib.hid (HM7.out.drewN m8)
                have HZ8 := Lib.hid (show w5.heap.size ≤ (w7.drewN m8).heap.size from HZ7.out)
                generalize w7.drewN m8 = w8 at HR8 HO8 HM8 HZ8 ⊢
                clear HBS HR7 HO7 HM7 c2 hT1 hT2
                go_upto_region 26 with (fail)
                rw [HAE.out]
                clear b0 b1 i1 HAE q0 q32 hn1 hn2 hn0
                have HC0 := Lib.hid HR8.out.c0
                have HSB := Lib.hid (show ∀ y ∈ p.foot, y < w5.heap.size ∧ y < w8.heap.size from fun y hy => by
                  have h1 := HRD.out.dev.lt y hy
                  have h2 := HSZ.out
                  exact ⟨Nat.lt_of_lt_of_le h1 h2, HR8.out.dev.lt y hy⟩)
                have HN6 := Lib.hid (show ∀ y ∈ rb :: p.foot, y ∉ v6.ownBlock.toList from fun y hy hm => by
                  have h1 := HO8.out.back hm
                  have h2 := HSZ.out
                  simp only [List.mem_cons] at hy
                  rcases hy with hy | hy
                  · have h3 := lt_of_block HRD.out.blk; omega
                  · have h3 := (HSB.out y hy).1; omega)
                have HNR6 := Lib.hid (show rb ∉ p.foot ++ v6.ownBlock.toList from fun hm => by
                  rcases List.mem_append.1 hm with hm | hm
                  · exact HR8.out.apart hm
                  · exact HN6.out rb (by simp) hm)
                obtain ⟨PR, hPR⟩ : ∃ PR, PR = putR G D1 S1 (withId x S1.next) := ⟨_, rfl⟩
                have HWA := Lib.hid (show addL G D L x = (if PR.1 ≠ 0 then ((0, PR.1), PR.2, orEnd PR.2 { L with s := S1 }) else ((S1.next, 0), PR.2, { L with s := moreS S1 x })) from by rw [HADW.out]; unfold wrA; rw [← hPR])
                rw [← hPR] at HPUT
                have HPS := Lib.hid (show Fits G PR.2 ∧ (PR.1 = 0 ∨ PR.1 = 10 ∧ PR.2.down = true) from by
                  have h := putR_spec HQ.out.1 HQ.out.2.2.1 HQ.out.2.1 (by rw [← HQ.out.2.2.2.1]; exact HQ.out.2.2.2.2.1) (by rw [← HQ.out.2.2.2.1]; exact HQ.out.2.2.2.2.2) HYV.out (by rw [← HQ.out.2.2.2.1, HNX1.out, ← HY.out]; exact withId_id HNR.out.2)
                  rw [← HQ.out.2.2.2.1, ← HY.out, ← HNX1.out, ← hPR] at h
                  obtain ⟨h1, _, _, h4⟩ := h
                  refine ⟨h1, ?_⟩
                  rcases h4 with ⟨h5, _⟩ | ⟨h5, h6, _⟩
                  · exact .inl h5
                  · exact .inr ⟨h5, h6⟩)
                clear hPR
                go_cut [120] (fun u wx => u = .bool (PR.1 != 0) ∧ IsDev wx p PR.2 ∧ Mods (p.foot ++ v6.ownBlock.toList) w8 wx)
                case first => as_aux_lemma =>
                  refine heldStart (S := fun W => Mods (p.foot ++ v6.ownBlock.toList) w8 W) 10 rfl (by kernel_rfl) Mods.refl.drew (fun hHeld => ?_)
                  refine takeD (i := 0) (d := 111) (v := ?_) rfl rfl (by kernel_rfl) (by kernel_rfl) (by kernel_rfl) (fun _ _ _ h => h) (Or.inl ⟨by rfl, ?_⟩) hHeld ?_
                  rotate_left 1
                  · (intro w hSw; (try dsimp only at hSw); go_simp; (try with_reducible rfl))
                  simp only [List.setIfInBounds_toArray, List.set_cons_zero, List.set_cons_succ]
                  refine takeD (i := 1) (d := 112) (v := ?_) rfl rfl (by kernel_rfl) (by kernel_rfl) (by kernel_rfl) (fun _ _ _ h => h) (Or.inl ⟨by rfl, ?_⟩) hHeld ?_
                  rotate_left 1
                  · (intro w hSw; (try dsimp only at hSw); go_simp; (try with_reducible rfl))
                  simp only [List.setIfInBounds_toArray, List.set_cons_zero, List.set_cons_succ]
                  refine takeD (i := 2) (d := 113) (v := ?_) rfl rfl (by kernel_rfl) (by kernel_rfl) (by kernel_rfl) (fun _ _ _ h => h) (Or.inl ⟨by rfl, ?_⟩) hHeld ?_
                  rotate_left 1
                  · (intro w hSw; (try dsimp only at hSw); go_simp; (try with_reducible rfl))
                  simp only [List.setIfInBounds_toArray, List.set_cons_zero, List.set_cons_succ]
                  refine takeD (i := 3) (d := 114) (v := .pointer (some ⟨p.b, 0, none⟩)) rfl rfl (by kernel_rfl) (by kernel_rfl) (by kernel_rfl) (fun _ _ _ h => h) (Or.inl ⟨by rfl, fun w hSw => ?_⟩) hHeld ?_
                  · have cst := hSw.cell HC0.out HNR6.out
                    clear hSw
                    go_simp
                  simp only [List.setIfInBounds_toArray, List.set_cons_zero, List.set_cons_succ]
                  refine takeD (i := 4) (d := 115) (v := ?_) rfl rfl (by kernel_rfl) (by kernel_rfl) (by kernel_rfl) (fun _ _ _ h => h) (Or.inl ⟨by rfl, ?_⟩) hHeld ?_
                  rotate_left 1
                  · (intro w hSw; (try dsimp only at hSw); go_simp; (try with_reducible rfl))
                  simp only [List.setIfInBounds_toArray, List.set_cons_zero, List.set_cons_succ]
                  refine takeD (i := 5) (d := 116) (v := ?_) rfl rfl (by kernel_rfl) (by kernel_rfl) (by kernel_rfl) (fun _ _ _ h => h) (Or.inl ⟨by rfl, ?_⟩) hHeld ?_
                  rotate_left 1
                  · (intro w hSw; (try dsimp only at hSw); go_simp; (try with_reducible rfl))
                  simp only [List.setIfInBounds_toArray, List.set_cons_zero, List.set_cons_succ]
                  have HMa := Lib.hid ((Mods.refl (S := []) (w := w8)).drew)
                  refine wpAnyH_ready (rs := [6]) (by kernel_rfl) (by simp) ?_
                  refine AllReadyH.cons rfl (fun K hK => ?_) AllReadyH.nil
                  go_simp
                  refine hK.out _ _ ?_ (fun hHeld => ?_)
                  · exact hHeld.alloc _
                  clear hK K
                  have HOa := Lib.hid (show OwnB (w8.drew.alloc (.cells #[.int .u8 0] 5)) w5.heap.size v6 (encEv y) from (HO8.out.mods0 HMa.out).mods0 (Mods.refl.alloc _))
                  have HLa := Lib.hid (show Rd (w8.drew.alloc (.cells #[.int .u8 0] 5)) (.slice (some ⟨w8.heap.size, 0, none⟩) 1 1) (u8s [0]) from (OwnB.lit w8.drew (Nat.le_refl _) [0] (by decide)).rd)
                  have HMb := Lib.hid (show Mods [] w8 (w8.drew.alloc (.cells #[.int .u8 0] 5)) from HMa.out.alloc _)
                  have HBS8 := Lib.hid (show w5.heap.size ≤ (w8.drew.alloc (.cells #[.int .u8 0] 5)).heap.size from by
                    have h1 := HZ8.out
                    have := HMb.out.size
                    omega)
                  clear HMa
                  refine wpAnyH_ready (rs := [7]) (by kernel_rfl) (by simp) ?_
                  refine AllReadyH.cons rfl (fun K hK => ?_) AllReadyH.nil
                  refine step_appD (a := ⟨_, []⟩) (by rfl) 118 rfl (.tmp 116) (.tmp 117) rfl (by rfl) HOa.out (by rfl) HLa.out (by rw [encEv_len]; decide) HBS8.out (fun x4 W5 O5 M5 => ?_)
                  have HM5 := Lib.hid (show Mods v6.ownBlock.toList w8 W5 from HMb.out.nil.trans M5)
                  have HO5 := Lib.hid (show OwnB W5 w5.heap.size x4 (encEv y ++ [0]) from O5)
                  clear hHeld M5 O5
                  refine hK.out _ _ (HM5.out.mono (fun k hk => .inl (List.mem_append.2 (.inr hk)))) (fun hHeld => ?_)
                  clear hK K
                  have HD5 := Lib.hid (HR8.out.dev.mods HM5.out (fun k hk hm => HN6.out k (by simp [hk]) hm))
                  have HPG := Lib.hid (refProgram_ok W5 p D1 HD5.out HQ.out.1.ok ((a : Nat) : Int) x4 _ HO5.out.rd HBE.out (fun _ k hk hm => by
                    have h1 := (HO5.out.lt k hk).1
                    have h2 := (HSB.out k (by simp [DevAt.foot] at hm ⊢; rcases hm with h | h <;> simp [h])).1
                    omega) (Int.le_trans HQ.out.2.1.st (by decide)))
                  rw [← HPUT.out] at HPG
                  refine wpAnyH_ready (rs := [8]) (by kernel_rfl) (by simp) ?_
                  refine AllReadyH.cons rfl (fun K hK => ?_) AllReadyH.nil
                  go_simp
                  go_wp2_with (refine HPG.out.mono ?_; rintro e W6 ⟨rfl, d6, m6⟩)
                  have HX := Lib.hid (And.intro d6 (show Mods (p.foot ++ v6.ownBlock.toList) w8 W6 from (HM5.out.mono (fun k hk => .inl (List.mem_append.2 (.inr hk)))).trans (m6.mono (fun y hy => .inl (List.mem_append.2 (.inl (by simp [DevAt.foot] at hy ⊢; rcases hy with h | h <;> simp [h])))))))
                  clear hHeld d6 m6
                  refine hK.out _ _ HX.out.2 (fun hHeld => ?_)
                  clear hK K
                  refine takeD (i := 9) (d := 120) (v := ?_) rfl rfl (by kernel_rfl) (by kernel_rfl) (by kernel_rfl) (fun _ _ _ h => h) (Or.inl ⟨by rfl, ?_⟩) hHeld ?_
                  rotate_left 1
                  · (intro w hSw; (try dsimp only at hSw); go_simp; (try with_reducible rfl))
                  simp only [List.setIfInBounds_toArray, List.set_cons_zero, List.set_cons_succ]
                  refine wpAnyH_done (by kernel_rfl) ?_ _
                  go_wp2_with fail
                  go_meet
                  exact ⟨rfl, HX.out.1, HX.out.2⟩
                case rest => as_aux_lemma =>
                  obtain ⟨rfl, hdx, hmx⟩ := hcut
                  have HRX := Lib.hid (show RefAt wc rb p G PR.2 R from ⟨hmx.heap HR8.out.blk HNR6.out, hdx, HR8.out.apart, HPS.out.1⟩)
                  have HMX := Lib.hid (show Mods (rb :: p.foot) w wc from (HMD.out.trans HM8.out.nil).comp hmx (fun k hk => by
                    rcases List.mem_append.1 hk with hk | hk
                    · exact .inl (by simp [hk])
                    · have h1 := HO8.out.back hk
                      have h2 := HSZ.out
                      have h3 := HMD.out.size
                      exact .inr (by omega)))
                  clear hdx hmx HC0 HSB HN6 HNR6 HR8 HO8 HM8 HPUT HBE HYV HADW
                  by_cases h0 : PR.1 = 0
                  · have HW2 := Lib.hid (show addL G D L x = ((nx, 0), PR.2, { L with s := moreS S1 x }) from by rw [HWA.out, if_neg (fun h => h h0), HNX1.out])
                    rw [h0]
                    clear h0
                    go_wp2_with fail
                    go_ret2
                    refine ⟨R, by rw [HW2.out]; rfl, ?_, ?_, HMX.out⟩
                    · rw [HW2.out]; exact HRX.out
                    · rw [HW2.out]; exact HRL.out.s _
                  · have hp := HPS.out.2
                    have h10 : PR.1 = 10 ∧ PR.2.down = true := by
                      rcases hp with h | h
                      · exact absurd h h0
                      · exact h
                    have HW2 := Lib.hid (show addL G D L x = ((0, 10), PR.2, endL) from by
                      rw [HWA.out, if_pos h0, h10.1]
                      unfold orEnd
                      rw [if_pos h10.2])
                    have hne : (PR.1 != 0) = true := by simpa using h0
                    rw [hne]
                    have HEND := Lib.hid (rEnd_ok wc rb p G PR.2 R HRX.out)
                    clear hne h10 hp h0
                    go_wp2_with fail
                    refine HEND.out.mono ?_
                    rintro e w9 ⟨rfl, hr9, hm9⟩
                    have HR9 := Lib.hid hr9
                    have HM9 := Lib.hid (show Mods (rb :: p.foot) w w9 from HMX.out.trans (hm9.mono (fun y hy => .inl (by simp at hy; simp [hy]))))
                    clear hr9 hm9
                    go_wp2_with fail
                    go_ret2
                    refine ⟨rEnd R, by rw [HW2.out]; rfl, ?_, ?_, HM9.out⟩
                    · rw [HW2.out]; exact HR9.out
                    · rw [HW2.out]; exact RelL.end (L := L) R
            · have h8 := HT.out
              rw [h5] at h8
              cases h8
            · subst h1
              have HW := Lib.hid (show addL G D L x = ((0, 3), D1, { L with s := S1 }) from by
                rw [HADQ.out, if_pos (by decide : ¬ (3 : Int) = 0)]
                unfold orEnd
                rw [if_neg (by rw [show D1 = D from h2, HDN.out]; decide)])
              clear h2 h3 HSQ HADQ
              go_wp2_with fail
              go_ret2
              refine ⟨R, by rw [HW.out]; rfl, ?_, ?_, HMD.out⟩
              · rw [HW.out]; exact HRD.out
              · rw [HW.out]; exact HRL.out.s _
            · subst h1
              have HW := Lib.hid (show addL G D L x = ((0, 10), D1, endL) from by
                rw [HADQ.out, if_pos (by decide : ¬ (10 : Int) = 0)]
                unfold orEnd
                rw [if_pos h2])
              have HEND := Lib.hid (rEnd_ok w5 rb p G D1 R HRD.out)
              clear h2 HSQ HADQ
              go_wp2_with fail
              refine HEND.out.mono ?_
              rintro e w9 ⟨rfl, hr9, hm9⟩
              have HR9 := Lib.hid hr9
              have HM9 := Lib.hid (show Mods (rb :: p.foot) w w9 from HMD.out.trans (hm9.mono (fun y hy => .inl (by simp at hy; simp [hy]))))
              clear hr9 hm9
              go_wp2_with fail
              go_ret2
              refine ⟨rEnd R, by rw [HW.out]; rfl, ?_, ?_, HM9.out⟩
              · rw [HW.out]; exact HR9.out
              · rw [HW.out]; exact RelL.end (L := L) R
        · have e1 : decide (((G.n : Nat) : Int) - 2 < ((q : Nat) : Int) + 1 - ((m : Nat) : Int)) = false := decide_eq_false (by have := HM1'.out; omega)
          have e2 : ¬ ((G.n : Nat) : Int) - 2 < ((q : Nat) : Int) + 1 - ((m : Nat) : Int) := by have := HM1'.out; omega
          have htl := HTL.out
          rw [if_neg hc] at htl
          have HT := Lib.hid htl
          have HTM := Lib.hid (show 1 ≤ m from HM1'.out.1)
          have HTM2 := Lib.hid (show m ≤ 2147483649 from by have := HM1'.out; omega)
          clear hc htl HTL
          have HLO := Lib.hid (rLopen_ok w4 rb p G D R HR4.out HDN.out (HFW.out.mono (by omega)) m (by have := HTM2.out; omega))
          rw [← HLS.out] at HLO
          have hrt : rTail L.s m = m := if_neg (by have := HTM.out; omega)
          rw [hrt] at HLO
          have HP := Lib.hid (show placeL G D L = ((openL G D L.s m).1, (openL G D L.s m).2.1, { L with s := (openL G D L.s m).2.2 }) from by rw [HPG.out]; unfold growL; rw [HT.out])
          have hspo := HSP.out
          rw [HP.out] at hspo
          have HSQ := Lib.hid hspo
          rw [HP.out] at HADQ
          generalize openL G D L.s m = OP at HLO HSQ HADQ
          obtain ⟨oc, D1, S1⟩ := OP
          simp only at HLO HSQ HADQ
          clear hspo hrt HP HSP HPG
          go_upto_region 15 with (fail)
          try rw [HTI.out]
          go_wp2_with fail
          refine HLO.out.mono ?_
          rintro e w5 ⟨rfl, hd5, hm5⟩
          have HRD := Lib.hid (HR4.out.redev hd5 HSQ.out.fit hm5)
          have HBQ := Lib.hid (hm5.heap HB4'.out (fun h => HG3.out (by simp [h])))
          have HMD := Lib.hid (show Mods (rb :: p.foot) w w5 from HM4.out.nil.trans (hm5.mono (fun y hy => .inl (by simp [hy]))))
          clear hd5 hm5 HLO HR4 HB4' HM4 c2 c3
          have hso := HSQ.out.out
          simp only at hso
          rcases hso with ⟨h1, h2, S0, hb, h3, h4, h5, h6⟩ | ⟨_, _, _, _, h5⟩ | ⟨h1, h2, h3, _⟩ | ⟨h1, h2, _⟩
          · have h7 : S1 = S0 := congrArg LogP.s h3
            subst h7
            subst h1
            have HQ := Lib.hid (show Fits G D1 ∧ Few D1 4611686018425000012 ∧ D1.down = false ∧ S1 = openS (byt D1) G ∧ 0 < S1.newest ∧ S1.used < G.slots from ⟨HSQ.out.fit, HSQ.out.few, h2, h4, h5, h6⟩)
            have HNX1 := Lib.hid (show S1.next = nx from by rw [HBN.out S1 hb]; exact HNX.out.symm)
            obtain ⟨i, hi⟩ : ∃ i, i = S1.used := ⟨_, rfl⟩
            have HI := Lib.hid hi
            have HI0 := Lib.hid (show i = 0 from by rw [hi]; exact HB0.out S1 hb)
            have HADW := Lib.hid (show addL G D L x = wrA G D1 L S1 x from by rw [HADQ.out, if_neg (fun h => h rfl)]; rfl)
            clear h2 hb h3 h4 h5 h6 hi HSQ HADQ q0 q32 m0 m32 s16 s2 e1 e2
            go_upto_region 20 with (fail)
            go_cut [7] (fun u wx => u = .int .i64 (i : Nat) ∧ w5 = wx)
            case first =>
              go_wp2_with fail
              go_meet
              exact ⟨by rw [HI0.out]; rfl, rfl⟩
            case rest =>
              obtain ⟨rfl, rfl⟩ := hcut
              have i0 : (0 : Int) ≤ ((i : Nat) : Int) := by omega
              go_upto_region 21 with (fail)
              have hnr := HNR.out
              have n1 : ((nx : Nat) : Int) ≤ 65534 := by omega
              have n0 : (0 : Int) ≤ ((nx : Nat) : Int) := by omega
              have nw : IntKind.u16.wrap ((nx : Nat) : Int) = ((nx : Nat) : Int) := by rw [IntKind.wrap_u16]; omega
              go_upto_region 22 with (first
                | (refine wpList_load_rowG (by rfl) 37 (.tmp 3) rfl g3 (by rfl) _ _ _ _ HBQ.out Try.underlying37 rfl Try.sizeEv ?_)
                | (refine wpList_store_row (cs := x.cells.toArray) rfl 37 (.tmp 12) (.tmp 84) rfl (heap_alloc_new w5 _) (by rfl) (by rfl) (by rfl) Try.sizeEv (Evt.one x) ?_; intro w4 R4 M4; have HF4 := Lib.hid (freshA M4); have HB4 := Lib.hid R4; clear R4 M4))
              have HMS := Lib.hid (show ∀ W, Mods [w5.heap.size] w4 W → Mods [] w5 W from fun W M => HF4.out.comp M (fun q hq => by simp at hq; subst hq; exact .inr (Nat.le_refl _)))
              clear HF4
              generalize w5.heap.size = g12 at HB4 HMS ⊢
              have cid := (cell_blk HB4.out 0).trans (show _ = some (Value.int .u16 ((x.id.val : Nat) : Int)) from rfl)
              have fid := froz_blk HB4.out 0
              go_upto_region 23 with (fail)
              have HM5 := Lib.hid (HMS.out _ ((Mods.refl (S := [g12]) (w := w4)).setCell (p := ⟨g12, 0, none⟩) (.inl (by simp)) (.int .u16 ((nx : Nat) : Int))))
              have HB5 := Lib.hid (show (w4.setCell ⟨g12, 0, none⟩ (.int .u16 ((nx : Nat) : Int))).heap[g12]? = some (.cells (withId x nx).cells.toArray 37 (0, 0)) from by
                have h := heap_setCell (i := 0) (v := .int .u16 ((nx : Nat) : Int)) HB4.out
                rw [withId_cells x HNR.out.2] at h
                exact h)
              clear cid fid HB4 HMS
              generalize w4.setCell ⟨g12, 0, none⟩ (.int .u16 ((nx : Nat) : Int)) = w5 at HM5 HB5 ⊢
              have HYV := Lib.hid (show validE (withId x nx) = true from validE_withId HXV.out.1 HNR.out.2)
              have HEN := Lib.hid (rEncode_ok w5 (withId x nx) HYV.out)
              have HBE := Lib.hid (enc_bytes HYV.out)
              generalize hy : withId x nx = y at HB5 HEN HYV HBE
              have HY := Lib.hid hy
              clear hy
              have HEN : Hid (Calls Try.prog 72 #[.agg y.cells.toArray] w5 _) := HEN
              go_wp2_with (refine wpList_load_rowG (by rfl) 37 (.tmp 12) rfl g12 (by rfl) _ _ _ _ HB5.out Try.underlying37 rfl Try.sizeEv ?_)
              refine HEN.out.mono ?_
              rintro e w6 ⟨v6, rfl, o6, m6⟩
              have HO6 := Lib.hid o6
              have HM6 := Lib.hid (HM5.out.trans m6)
              have HSZ := Lib.hid HM5.out.size
              have HZ6 := Lib.hid m6.size
              have HR6 := Lib.hid (HRD.out.mods0 HM6.out)
              clear o6 m6 HEN HB5 HM5
              have HNW := Lib.hid (rNewest_ok w6 rb p G D1 R HR6.out)
              obtain ⟨q, hq⟩ : ∃ q, q = (newS (byt D1) G).1 := ⟨_, rfl⟩
              have HQ1 := Lib.hid (show S1.newest = q ∧ q ≤ 2147483648 from by
                obtain ⟨f1, _, f3, _⟩ := openS_facts (byt D1) G
                rw [← HQ.out.2.2.2.1, ← hq] at f1
                rw [← HQ.out.2.2.2.1] at f3
                omega)
              rw [← hq] at HNW
              clear hq
              go_wp2_with fail
              refine HNW.out.mono ?_
              rintro e w7 ⟨rfl, m7, rfl⟩
              have HR7 := Lib.hid (HR6.out.drewN m7)
              have HO7 := Lib.hid (HO6.out.mods0 (Mods.refl.drewN m7))
              have HM7 := Lib.hid (HM6.out.drewN m7)
              have HZ7 := Lib.hid (show w5.heap.size ≤ (w6.drewN m7).heap.size from HZ6.out)
              generalize w6.drewN m7 = w7 at HR7 HO7 HM7 HZ7 ⊢
              clear HNW HR6 HO6 HM6
              have hqq := HQ1.out
              have hq0 : 0 < q := by have h := HQ.out.2.2.2.2.1; omega
              have hn0 : 0 < G.n := by omega
              obtain ⟨j, hj⟩ : ∃ j, j = (q - 1) % G.n := ⟨_, rfl⟩
              have hjn : j < G.n := by rw [hj]; exact Nat.mod_lt _ hn0
              have q0 : (1 : Int) ≤ ((q : Nat) : Int) := by omega
              have q32 : ((q : Nat) : Int) < 4294967296 := by omega
              have hT1 : (((q : Nat) : Int) - 1) % ((G.n : Nat) : Int) = ((j : Nat) : Int) := by rw [hj, Int.natCast_emod]; congr 1; omega
              have hT2 : (((q : Nat) : Int) - 1).tmod ((G.n : Nat) : Int) = ((j : Nat) : Int) := by rw [Int.tmod_eq_emod_of_nonneg (by omega)]; exact hT1
              have hn1 : ¬ ((G.n : Nat) : Int) = 0 := by omega
              have hn2 : (0 : Int) ≤ ((G.n : Nat) : Int) := by omega
              have c2 := HR7.out.c2
              have HBS := Lib.hid (rBase_ok w7 rb p G D1 R HR7.out j hjn)
              have hsl := slot_in HQ.out.1.geo (show i < G.slots from by rw [HI.out]; exact HQ.out.2.2.2.2.2) j
              have hse := HQ.out.1.sect hjn
              have hle := HQ.out.1.ok.len
              obtain ⟨bs, hbs⟩ : ∃ bs, bs = G.at j := ⟨_, rfl⟩
              obtain ⟨a, ha⟩ : ∃ a, a = G.slot j i := ⟨_, rfl⟩
              have HAE := Lib.hid (show ((bs : Nat) : Int) + 11 + 17 * ((i : Nat) : Int) = ((a : Nat) : Int) from by rw [ha, hbs]; unfold Geo.slot; omega)
              rw [← hbs] at HBS hsl hse
              rw [← ha] at hsl
              have HPUT := Lib.hid (show putR G D1 S1 (withId x S1.next) = D1.program ((a : Nat) : Int) (encEv y ++ [0]) from by
                unfold putR
                rw [HNX1.out, HY.out, HQ1.out.1, ← hj, ← HI.out, ← ha])
              have b0 : (0 : Int) ≤ ((bs : Nat) : Int) := by omega
              have b1 : ((bs : Nat) : Int) ≤ 16384 := by omega
              have i1 : ((i : Nat) : Int) ≤ 1000 := by
                have h1 := slots_le (G := G) (by have := HQ.out.1.size; have := HQ.out.1.ok.s1; omega)
                have h2 := HQ.out.2.2.2.2.2
                have h3 := HI.out
                omega
              clear hj hjn hbs ha hqq hq0 hsl hse hle
              go_wp2_with fail
              refine HBS.out.mono ?_
              rintro e w8 ⟨rfl, m8, rfl⟩
              have HR8 := Lib.hid (HR7.out.drewN m8)
              have HO8 := Lib.hid (HO7.out.mods0 (Mods.refl.drewN m8))
              have HM8 := Lib.hid (HM7.out.drewN m8)
              have HZ8 := Lib.hid (show w5.heap.size ≤ (w7.drewN m8).heap.size from HZ7.out)
              generalize w7.drewN m8 = w8 at HR8 HO8 HM8 HZ8 ⊢
              clear HBS HR7 HO7 HM7 c2 hT1 hT2
              go_upto_region 26 with (fail)
              rw [HAE.out]
              clear b0 b1 i1 HAE q0 q32 hn1 hn2 hn0
              have HC0 := Lib.hid HR8.out.c0
              have HSB := Lib.hid (show ∀ y ∈ p.foot, y < w5.heap.size ∧ y < w8.heap.size from fun y hy => by
                have h1 := HRD.out.dev.lt y hy
                have h2 := HSZ.out
                exact ⟨Nat.lt_of_lt_of_le h1 h2, HR8.out.dev.lt y hy⟩)
              have HN6 := Lib.hid (show ∀ y ∈ rb :: p.foot, y ∉ v6.ownBlock.toList from fun y hy hm => by
                have h1 := HO8.out.back hm
                have h2 := HSZ.out
                simp only [List.mem_cons] at hy
                rcases hy with hy | hy
                · have h3 := lt_of_block HRD.out.blk; omega
                · have h3 := (HSB.out y hy).1; omega)
              have HNR6 := Lib.hid (show rb ∉ p.foot ++ v6.ownBlock.toList from fun hm => by
                rcases List.mem_append.1 hm with hm | hm
                · exact HR8.out.apart hm
                · exact HN6.out rb (by simp) hm)
              obtain ⟨PR, hPR⟩ : ∃ PR, PR = putR G D1 S1 (withId x S1.next) := ⟨_, rfl⟩
              have HWA := Lib.hid (show addL G D L x = (if PR.1 ≠ 0 then ((0, PR.1), PR.2, orEnd PR.2 { L with s := S1 }) else ((S1.next, 0), PR.2, { L with s := moreS S1 x })) from by rw [HADW.out]; unfold wrA; rw [← hPR])
              rw [← hPR] at HPUT
              have HPS := Lib.hid (show Fits G PR.2 ∧ (PR.1 = 0 ∨ PR.1 = 10 ∧ PR.2.down = true) from by
                have h := putR_spec HQ.out.1 HQ.out.2.2.1 HQ.out.2.1 (by rw [← HQ.out.2.2.2.1]; exact HQ.out.2.2.2.2.1) (by rw [← HQ.out.2.2.2.1]; exact HQ.out.2.2.2.2.2) HYV.out (by rw [← HQ.out.2.2.2.1, HNX1.out, ← HY.out]; exact withId_id HNR.out.2)
                rw [← HQ.out.2.2.2.1, ← HY.out, ← HNX1.out, ← hPR] at h
                obtain ⟨h1, _, _, h4⟩ := h
                refine ⟨h1, ?_⟩
                rcases h4 with ⟨h5, _⟩ | ⟨h5, h6, _⟩
                · exact .inl h5
                · exact .inr ⟨h5, h6⟩)
              clear hPR
              go_cut [120] (fun u wx => u = .bool (PR.1 != 0) ∧ IsDev wx p PR.2 ∧ Mods (p.foot ++ v6.ownBlock.toList) w8 wx)
              case first => as_aux_lemma =>
                refine heldStart (S := fun W => Mods (p.foot ++ v6.ownBlock.toList) w8 W) 10 rfl (by kernel_rfl) Mods.refl.drew (fun hHeld => ?_)
                refine takeD (i := 0) (d := 111) (v := ?_) rfl rfl (by kernel_rfl) (by kernel_rfl) (by kernel_rfl) (fun _ _ _ h => h) (Or.inl ⟨by rfl, ?_⟩) hHeld ?_
                rotate_left 1
                · (intro w hSw; (try dsimp only at hSw); go_simp; (try with_reducible rfl))
                simp only [List.setIfInBounds_toArray, List.set_cons_zero, List.set_cons_succ]
                refine takeD (i := 1) (d := 112) (v := ?_) rfl rfl (by kernel_rfl) (by kernel_rfl) (by kernel_rfl) (fun _ _ _ h => h) (Or.inl ⟨by rfl, ?_⟩) hHeld ?_
                rotate_left 1
                · (intro w hSw; (try dsimp only at hSw); go_simp; (try with_reducible rfl))
                simp only [List.setIfInBounds_toArray, List.set_cons_zero, List.set_cons_succ]
                refine takeD (i := 2) (d := 113) (v := ?_) rfl rfl (by kernel_rfl) (by kernel_rfl) (by kernel_rfl) (fun _ _ _ h => h) (Or.inl ⟨by rfl, ?_⟩) hHeld ?_
                rotate_left 1
                · (intro w hSw; (try dsimp only at hSw); go_simp; (try with_reducible rfl))
                simp only [List.setIfInBounds_toArray, List.set_cons_zero, List.set_cons_succ]
                refine takeD (i := 3) (d := 114) (v := .pointer (some ⟨p.b, 0, none⟩)) rfl rfl (by kernel_rfl) (by kernel_rfl) (by kernel_rfl) (fun _ _ _ h => h) (Or.inl ⟨by rfl, fun w hSw => ?_⟩) hHeld ?_
                · have cst := hSw.cell HC0.out HNR6.out
                  clear hSw
                  go_simp
                simp only [List.setIfInBounds_toArray, List.set_cons_zero, List.set_cons_succ]
                refine takeD (i := 4) (d := 115) (v := ?_) rfl rfl (by kernel_rfl) (by kernel_rfl) (by kernel_rfl) (fun _ _ _ h => h) (Or.inl ⟨by rfl, ?_⟩) hHeld ?_
                rotate_left 1
                · (intro w hSw; (try dsimp only at hSw); go_simp; (try with_reducible rfl))
                simp only [List.setIfInBounds_toArray, List.set_cons_zero, List.set_cons_succ]
                refine takeD (i := 5) (d := 116) (v := ?_) rfl rfl (by kernel_rfl) (by kernel_rfl) (by kernel_rfl) (fun _ _ _ h => h) (Or.inl ⟨by rfl, ?_⟩) hHeld ?_
                rotate_left 1
                · (intro w hSw; (try dsimp only at hSw); go_simp; (try with_reducible rfl))
                simp only [List.setIfInBounds_toArray, List.set_cons_zero, List.set_cons_succ]
                have HMa := Lib.hid ((Mods.refl (S := []) (w := w8)).drew)
                refine wpAnyH_ready (rs := [6]) (by kernel_rfl) (by simp) ?_
                refine AllReadyH.cons rfl (fun K hK => ?_) AllReadyH.nil
                go_simp
                refine hK.out _ _ ?_ (fun hHeld => ?_)
                · exact hHeld.alloc _
                clear hK K
                have HOa := Lib.hid (show OwnB (w8.drew.alloc (.cells #[.int .u8 0] 5)) w5.heap.size v6 (encEv y) from (HO8.out.mods0 HMa.out).mods0 (Mods.refl.alloc _))
                have HLa := Lib.hid (show Rd (w8.drew.alloc (.cells #[.int .u8 0] 5)) (.slice (some ⟨w8.heap.size, 0, none⟩) 1 1) (u8s [0]) from (OwnB.lit w8.drew (Nat.le_refl _) [0] (by decide)).rd)
                have HMb := Lib.hid (show Mods [] w8 (w8.drew.alloc (.cells #[.int .u8 0] 5)) from HMa.out.alloc _)
                have HBS8 := Lib.hid (show w5.heap.size ≤ (w8.drew.alloc (.cells #[.int .u8 0] 5)).heap.size from by
                  have h1 := HZ8.out
                  have := HMb.out.size
                  omega)
                clear HMa
                refine wpAnyH_ready (rs := [7]) (by kernel_rfl) (by simp) ?_
                refine AllReadyH.cons rfl (fun K hK => ?_) AllReadyH.nil
                refine step_appD (a := ⟨_, []⟩) (by rfl) 118 rfl (.tmp 116) (.tmp 117) rfl (by rfl) HOa.out (by rfl) HLa.out (by rw [encEv_len]; decide) HBS8.out (fun x4 W5 O5 M5 => ?_)
                have HM5 := Lib.hid (show Mods v6.ownBlock.toList w8 W5 from HMb.out.nil.trans M5)
                have HO5 := Lib.hid (show OwnB W5 w5.heap.size x4 (encEv y ++ [0]) from O5)
                clear hHeld M5 O5
                refine hK.out _ _ (HM5.out.mono (fun k hk => .inl (List.mem_append.2 (.inr hk)))) (fun hHeld => ?_)
                clear hK K
                have HD5 := Lib.hid (HR8.out.dev.mods HM5.out (fun k hk hm => HN6.out k (by simp [hk]) hm))
                have HPG := Lib.hid (refProgram_ok W5 p D1 HD5.out HQ.out.1.ok ((a : Nat) : Int) x4 _ HO5.out.rd HBE.out (fun _ k hk hm => by
                  have h1 := (HO5.out.lt k hk).1
                  have h2 := (HSB.out k (by simp [DevAt.foot] at hm ⊢; rcases hm with h | h <;> simp [h])).1
                  omega) (Int.le_trans HQ.out.2.1.st (by decide)))
                rw [← HPUT.out] at HPG
                refine wpAnyH_ready (rs := [8]) (by kernel_rfl) (by simp) ?_
                refine AllReadyH.cons rfl (fun K hK => ?_) AllReadyH.nil
                go_simp
                go_wp2_with (refine HPG.out.mono ?_; rintro e W6 ⟨rfl, d6, m6⟩)
                have HX := Lib.hid (And.intro d6 (show Mods (p.foot ++ v6.ownBlock.toList) w8 W6 from (HM5.out.mono (fun k hk => .inl (List.mem_append.2 (.inr hk)))).trans (m6.mono (fun y hy => .inl (List.mem_append.2 (.inl (by simp [DevAt.foot] at hy ⊢; rcases hy with h | h <;> simp [h])))))))
                clear hHeld d6 m6
                refine hK.out _ _ HX.out.2 (fun hHeld => ?_)
                clear hK K
                refine takeD (i := 9) (d := 120) (v := ?_) rfl rfl (by kernel_rfl) (by kernel_rfl) (by kernel_rfl) (fun _ _ _ h => h) (Or.inl ⟨by rfl, ?_⟩) hHeld ?_
                rotate_left 1
                · (intro w hSw; (try dsimp only at hSw); go_simp; (try with_reducible rfl))
                simp only [List.setIfInBounds_toArray, List.set_cons_zero, List.set_cons_succ]
                refine wpAnyH_done (by kernel_rfl) ?_ _
                go_wp2_with fail
                go_meet
                exact ⟨rfl, HX.out.1, HX.out.2⟩
              case rest => as_aux_lemma =>
                obtain ⟨rfl, hdx, hmx⟩ := hcut
                have HRX := Lib.hid (show RefAt wc rb p G PR.2 R from ⟨hmx.heap HR8.out.blk HNR6.out, hdx, HR8.out.apart, HPS.out.1⟩)
                have HMX := Lib.hid (show Mods (rb :: p.foot) w wc from (HMD.out.trans HM8.out.nil).comp hmx (fun k hk => by
                  rcases List.mem_append.1 hk with hk | hk
                  · exact .inl (by simp [hk])
                  · have h1 := HO8.out.back hk
                    have h2 := HSZ.out
                    have h3 := HMD.out.size
                    exact .inr (by omega)))
                clear hdx hmx HC0 HSB HN6 HNR6 HR8 HO8 HM8 HPUT HBE HYV HADW
                by_cases h0 : PR.1 = 0
                · have HW2 := Lib.hid (show addL G D L x = ((nx, 0), PR.2, { L with s := moreS S1 x }) from by rw [HWA.out, if_neg (fun h => h h0), HNX1.out])
                  rw [h0]
                  clear h0
                  go_wp2_with fail
                  go_ret2
                  refine ⟨R, by rw [HW2.out]; rfl, ?_, ?_, HMX.out⟩
                  · rw [HW2.out]; exact HRX.out
                  · rw [HW2.out]; exact HRL.out.s _
                · have hp := HPS.out.2
                  have h10 : PR.1 = 10 ∧ PR.2.down = true := by
                    rcases hp with h | h
                    · exact absurd h h0
                    · exact h
                  have HW2 := Lib.hid (show addL G D L x = ((0, 10), PR.2, endL) from by
                    rw [HWA.out, if_pos h0, h10.1]
                    unfold orEnd
                    rw [if_pos h10.2])
                  have hne : (PR.1 != 0) = true := by simpa using h0
                  rw [hne]
                  have HEND := Lib.hid (rEnd_ok wc rb p G PR.2 R HRX.out)
                  clear hne h10 hp h0
                  go_wp2_with fail
                  refine HEND.out.mono ?_
                  rintro e w9 ⟨rfl, hr9, hm9⟩
                  have HR9 := Lib.hid hr9
                  have HM9 := Lib.hid (show Mods (rb :: p.foot) w w9 from HMX.out.trans (hm9.mono (fun y hy => .inl (by simp at hy; simp [hy]))))
                  clear hr9 hm9
                  go_wp2_with fail
                  go_ret2
                  refine ⟨rEnd R, by rw [HW2.out]; rfl, ?_, ?_, HM9.out⟩
                  · rw [HW2.out]; exact HR9.out
                  · rw [HW2.out]; exact RelL.end (L := L) R
          · have h8 := HT.out
            rw [h5] at h8
            cases h8
          · subst h1
            have HW := Lib.hid (show addL G D L x = ((0, 3), D1, { L with s := S1 }) from by
              rw [HADQ.out, if_pos (by decide : ¬ (3 : Int) = 0)]
              unfold orEnd
              rw [if_neg (by rw [show D1 = D from h2, HDN.out]; decide)])
            clear h2 h3 HSQ HADQ
            go_wp2_with fail
            go_ret2
            refine ⟨R, by rw [HW.out]; rfl, ?_, ?_, HMD.out⟩
            · rw [HW.out]; exact HRD.out
            · rw [HW.out]; exact HRL.out.s _
          · subst h1
            have HW := Lib.hid (show addL G D L x = ((0, 10), D1, endL) from by
              rw [HADQ.out, if_pos (by decide : ¬ (10 : Int) = 0)]
              unfold orEnd
              rw [if_pos h2])
            have HEND := Lib.hid (rEnd_ok w5 rb p G D1 R HRD.out)
            clear h2 HSQ HADQ
            go_wp2_with fail
            refine HEND.out.mono ?_
            rintro e w9 ⟨rfl, hr9, hm9⟩
            have HR9 := Lib.hid hr9
            have HM9 := Lib.hid (show Mods (rb :: p.foot) w w9 from HMD.out.trans (hm9.mono (fun y hy => .inl (by simp at hy; simp [hy]))))
            clear hr9 hm9
            go_wp2_with fail
            go_ret2
            refine ⟨rEnd R, by rw [HW.out]; rfl, ?_, ?_, HM9.out⟩
            · rw [HW.out]; exact HR9.out
            · rw [HW.out]; exact RelL.end (L := L) R
      · have HP := Lib.hid (show placeL G D L = (0, D, { L with s := L.s }) from by unfold placeL; rw [if_neg hng])
        have HPI := Lib.hid (show placeI G L.s = ((L.s.used : Nat) : Int) from by unfold placeI; rw [if_neg hng])
        rw [HPI.out]
        have HQ := Lib.hid (show Fits G D ∧ Few D 4611686018425000012 ∧ D.down = false ∧ L.s = openS (byt D) G ∧ 0 < L.s.newest ∧ L.s.used < G.slots from by
          have ho := HSP.out.out
          rw [HP.out] at ho
          rcases ho with ⟨_, _, S0, _, e1, e2, e3, e4⟩ | ⟨h, _⟩ | ⟨h, _⟩ | ⟨h, _⟩
          · have e5 : L.s = S0 := congrArg LogP.s e1
            exact ⟨H.out.fit, HFW.out.mono (by omega), HDN.out, HLS.out, by rw [e5]; exact e3, by rw [e5]; exact e4⟩
          · cases h
          · cases h
          · cases h)
        have HMD := Lib.hid (show Mods (rb :: p.foot) w w3 from HM3.out.nil)
        have HNX1 := Lib.hid (show L.s.next = nx from HNX.out.symm)
        have HADW0 := Lib.hid (show addL G D L x = wrA G D L L.s x from by rw [HADQ.out, HP.out, if_neg (fun h => h rfl)]; rfl)
        clear hng HSP HP HPI HM3 HFW HDN HLS HADQ
        obtain ⟨S1, hS1⟩ : ∃ S1, S1 = L.s := ⟨_, rfl⟩
        obtain ⟨D1, hD1⟩ : ∃ D1, D1 = D := ⟨_, rfl⟩
        have HADW := Lib.hid (show addL G D L x = wrA G D1 L S1 x from by rw [hS1, hD1]; exact HADW0.out)
        have HRD := Lib.hid (show RefAt w3 rb p G D1 R from by rw [hD1]; exact HR3.out)
        rw [← hD1, ← hS1] at HQ
        rw [← hS1] at HNX1 ⊢
        obtain ⟨i, hi⟩ : ∃ i, i = S1.used := ⟨_, rfl⟩
        rw [← hi]
        have HI := Lib.hid hi
        have i0 : (0 : Int) ≤ ((i : Nat) : Int) := by omega
        clear hi hS1 hD1 HADW0 HR3
        go_upto_region 21 with (fail)
        have HBQ := HB3
        have hnr := HNR.out
        have n1 : ((nx : Nat) : Int) ≤ 65534 := by omega
        have n0 : (0 : Int) ≤ ((nx : Nat) : Int) := by omega
        have nw : IntKind.u16.wrap ((nx : Nat) : Int) = ((nx : Nat) : Int) := by rw [IntKind.wrap_u16]; omega
        go_upto_region 22 with (first
          | (refine wpList_load_rowG (by rfl) 37 (.tmp 3) rfl g3 (by rfl) _ _ _ _ HBQ.out Try.underlying37 rfl Try.sizeEv ?_)
          | (refine wpList_store_row (cs := x.cells.toArray) rfl 37 (.tmp 12) (.tmp 84) rfl (heap_alloc_new w3 _) (by rfl) (by rfl) (by rfl) Try.sizeEv (Evt.one x) ?_; intro w4 R4 M4; have HF4 := Lib.hid (freshA M4); have HB4 := Lib.hid R4; clear R4 M4))
        have HMS := Lib.hid (show ∀ W, Mods [w3.heap.size] w4 W → Mods [] w3 W from fun W M => HF4.out.comp M (fun q hq => by simp at hq; subst hq; exact .inr (Nat.le_refl _)))
        clear HF4
        generalize w3.heap.size = g12 at HB4 HMS ⊢
        have cid := (cell_blk HB4.out 0).trans (show _ = some (Value.int .u16 ((x.id.val : Nat) : Int)) from rfl)
        have fid := froz_blk HB4.out 0
        go_upto_region 23 with (fail)
        have HM5 := Lib.hid (HMS.out _ ((Mods.refl (S := [g12]) (w := w4)).setCell (p := ⟨g12, 0, none⟩) (.inl (by simp)) (.int .u16 ((nx : Nat) : Int))))
        have HB5 := Lib.hid (show (w4.setCell ⟨g12, 0, none⟩ (.int .u16 ((nx : Nat) : Int))).heap[g12]? = some (.cells (withId x nx).cells.toArray 37 (0, 0)) from by
          have h := heap_setCell (i := 0) (v := .int .u16 ((nx : Nat) : Int)) HB4.out
          rw [withId_cells x HNR.out.2] at h
          exact h)
        clear cid fid HB4 HMS
        generalize w4.setCell ⟨g12, 0, none⟩ (.int .u16 ((nx : Nat) : Int)) = w5 at HM5 HB5 ⊢
        have HYV := Lib.hid (show validE (withId x nx) = true from validE_withId HXV.out.1 HNR.out.2)
        have HEN := Lib.hid (rEncode_ok w5 (withId x nx) HYV.out)
        have HBE := Lib.hid (enc_bytes HYV.out)
        generalize hy : withId x nx = y at HB5 HEN HYV HBE
        have HY := Lib.hid hy
        clear hy
        have HEN : Hid (Calls Try.prog 72 #[.agg y.cells.toArray] w5 _) := HEN
        go_wp2_with (refine wpList_load_rowG (by rfl) 37 (.tmp 12) rfl g12 (by rfl) _ _ _ _ HB5.out Try.underlying37 rfl Try.sizeEv ?_)
        refine HEN.out.mono ?_
        rintro e w6 ⟨v6, rfl, o6, m6⟩
        have HO6 := Lib.hid o6
        have HM6 := Lib.hid (HM5.out.trans m6)
        have HSZ := Lib.hid HM5.out.size
        have HZ6 := Lib.hid m6.size
        have HR6 := Lib.hid (HRD.out.mods0 HM6.out)
        clear o6 m6 HEN HB5 HM5
        have HNW := Lib.hid (rNewest_ok w6 rb p G D1 R HR6.out)
        obtain ⟨q, hq⟩ : ∃ q, q = (newS (byt D1) G).1 := ⟨_, rfl⟩
        have HQ1 := Lib.hid (show S1.newest = q ∧ q ≤ 2147483648 from by
          obtain ⟨f1, _, f3, _⟩ := openS_facts (byt D1) G
          rw [← HQ.out.2.2.2.1, ← hq] at f1
          rw [← HQ.out.2.2.2.1] at f3
          omega)
        rw [← hq] at HNW
        clear hq
        go_wp2_with fail
        refine HNW.out.mono ?_
        rintro e w7 ⟨rfl, m7, rfl⟩
        have HR7 := Lib.hid (HR6.out.drewN m7)
        have HO7 := Lib.hid (HO6.out.mods0 (Mods.refl.drewN m7))
        have HM7 := Lib.hid (HM6.out.drewN m7)
        have HZ7 := Lib.hid (show w5.heap.size ≤ (w6.drewN m7).heap.size from HZ6.out)
        generalize w6.drewN m7 = w7 at HR7 HO7 HM7 HZ7 ⊢
        clear HNW HR6 HO6 HM6
        have hqq := HQ1.out
        have hq0 : 0 < q := by have h := HQ.out.2.2.2.2.1; omega
        have hn0 : 0 < G.n := by omega
        obtain ⟨j, hj⟩ : ∃ j, j = (q - 1) % G.n := ⟨_, rfl⟩
        have hjn : j < G.n := by rw [hj]; exact Nat.mod_lt _ hn0
        have q0 : (1 : Int) ≤ ((q : Nat) : Int) := by omega
        have q32 : ((q : Nat) : Int) < 4294967296 := by omega
        have hT1 : (((q : Nat) : Int) - 1) % ((G.n : Nat) : Int) = ((j : Nat) : Int) := by rw [hj, Int.natCast_emod]; congr 1; omega
        have hT2 : (((q : Nat) : Int) - 1).tmod ((G.n : Nat) : Int) = ((j : Nat) : Int) := by rw [Int.tmod_eq_emod_of_nonneg (by omega)]; exact hT1
        have hn1 : ¬ ((G.n : Nat) : Int) = 0 := by omega
        have hn2 : (0 : Int) ≤ ((G.n : Nat) : Int) := by omega
        have c2 := HR7.out.c2
        have HBS := Lib.hid (rBase_ok w7 rb p G D1 R HR7.out j hjn)
        have hsl := slot_in HQ.out.1.geo (show i < G.slots from by rw [HI.out]; exact HQ.out.2.2.2.2.2) j
        have hse := HQ.out.1.sect hjn
        have hle := HQ.out.1.ok.len
        obtain ⟨bs, hbs⟩ : ∃ bs, bs = G.at j := ⟨_, rfl⟩
        obtain ⟨a, ha⟩ : ∃ a, a = G.slot j i := ⟨_, rfl⟩
        have HAE := Lib.hid (show ((bs : Nat) : Int) + 11 + 17 * ((i : Nat) : Int) = ((a : Nat) : Int) from by rw [ha, hbs]; unfold Geo.slot; omega)
        rw [← hbs] at HBS hsl hse
        rw [← ha] at hsl
        have HPUT := Lib.hid (show putR G D1 S1 (withId x S1.next) = D1.program ((a : Nat) : Int) (encEv y ++ [0]) from by
          unfold putR
          rw [HNX1.out, HY.out, HQ1.out.1, ← hj, ← HI.out, ← ha])
        have b0 : (0 : Int) ≤ ((bs : Nat) : Int) := by omega
        have b1 : ((bs : Nat) : Int) ≤ 16384 := by omega
        have i1 : ((i : Nat) : Int) ≤ 1000 := by
          have h1 := slots_le (G := G) (by have := HQ.out.1.size; have := HQ.out.1.ok.s1; omega)
          have h2 := HQ.out.2.2.2.2.2
          have h3 := HI.out
          omega
        clear hj hjn hbs ha hqq hq0 hsl hse hle
        go_wp2_with fail
        refine HBS.out.mono ?_
        rintro e w8 ⟨rfl, m8, rfl⟩
        have HR8 := Lib.hid (HR7.out.drewN m8)
        have HO8 := Lib.hid (HO7.out.mods0 (Mods.refl.drewN m8))
        have HM8 := Lib.hid (HM7.out.drewN m8)
        have HZ8 := Lib.hid (show w5.heap.size ≤ (w7.drewN m8).heap.size from HZ7.out)
        generalize w7.drewN m8 = w8 at HR8 HO8 HM8 HZ8 ⊢
        clear HBS HR7 HO7 HM7 c2 hT1 hT2
        go_upto_region 26 with (fail)
        rw [HAE.out]
        clear b0 b1 i1 HAE q0 q32 hn1 hn2 hn0
        have HC0 := Lib.hid HR8.out.c0
        have HSB := Lib.hid (show ∀ y ∈ p.foot, y < w5.heap.size ∧ y < w8.heap.size from fun y hy => by
          have h1 := HRD.out.dev.lt y hy
          have h2 := HSZ.out
          exact ⟨Nat.lt_of_lt_of_le h1 h2, HR8.out.dev.lt y hy⟩)
        have HN6 := Lib.hid (show ∀ y ∈ rb :: p.foot, y ∉ v6.ownBlock.toList from fun y hy hm => by
          have h1 := HO8.out.back hm
          have h2 := HSZ.out
          simp only [List.mem_cons] at hy
          rcases hy with hy | hy
          · have h3 := lt_of_block HRD.out.blk; omega
          · have h3 := (HSB.out y hy).1; omega)
        have HNR6 := Lib.hid (show rb ∉ p.foot ++ v6.ownBlock.toList from fun hm => by
          rcases List.mem_append.1 hm with hm | hm
          · exact HR8.out.apart hm
          · exact HN6.out rb (by simp) hm)
        obtain ⟨PR, hPR⟩ : ∃ PR, PR = putR G D1 S1 (withId x S1.next) := ⟨_, rfl⟩
        have HWA := Lib.hid (show addL G D L x = (if PR.1 ≠ 0 then ((0, PR.1), PR.2, orEnd PR.2 { L with s := S1 }) else ((S1.next, 0), PR.2, { L with s := moreS S1 x })) from by rw [HADW.out]; unfold wrA; rw [← hPR])
        rw [← hPR] at HPUT
        have HPS := Lib.hid (show Fits G PR.2 ∧ (PR.1 = 0 ∨ PR.1 = 10 ∧ PR.2.down = true) from by
          have h := putR_spec HQ.out.1 HQ.out.2.2.1 HQ.out.2.1 (by rw [← HQ.out.2.2.2.1]; exact HQ.out.2.2.2.2.1) (by rw [← HQ.out.2.2.2.1]; exact HQ.out.2.2.2.2.2) HYV.out (by rw [← HQ.out.2.2.2.1, HNX1.out, ← HY.out]; exact withId_id HNR.out.2)
          rw [← HQ.out.2.2.2.1, ← HY.out, ← HNX1.out, ← hPR] at h
          obtain ⟨h1, _, _, h4⟩ := h
          refine ⟨h1, ?_⟩
          rcases h4 with ⟨h5, _⟩ | ⟨h5, h6, _⟩
          · exact .inl h5
          · exact .inr ⟨h5, h6⟩)
        clear hPR
        go_cut [120] (fun u wx => u = .bool (PR.1 != 0) ∧ IsDev wx p PR.2 ∧ Mods (p.foot ++ v6.ownBlock.toList) w8 wx)
        case first => as_aux_lemma =>
          refine heldStart (S := fun W => Mods (p.foot ++ v6.ownBlock.toList) w8 W) 10 rfl (by kernel_rfl) Mods.refl.drew (fun hHeld => ?_)
          refine takeD (i := 0) (d := 111) (v := ?_) rfl rfl (by kernel_rfl) (by kernel_rfl) (by kernel_rfl) (fun _ _ _ h => h) (Or.inl ⟨by rfl, ?_⟩) hHeld ?_
          rotate_left 1
          · (intro w hSw; (try dsimp only at hSw); go_simp; (try with_reducible rfl))
          simp only [List.setIfInBounds_toArray, List.set_cons_zero, List.set_cons_succ]
          refine takeD (i := 1) (d := 112) (v := ?_) rfl rfl (by kernel_rfl) (by kernel_rfl) (by kernel_rfl) (fun _ _ _ h => h) (Or.inl ⟨by rfl, ?_⟩) hHeld ?_
          rotate_left 1
          · (intro w hSw; (try dsimp only at hSw); go_simp; (try with_reducible rfl))
          simp only [List.setIfInBounds_toArray, List.set_cons_zero, List.set_cons_succ]
          refine takeD (i := 2) (d := 113) (v := ?_) rfl rfl (by kernel_rfl) (by kernel_rfl) (by kernel_rfl) (fun _ _ _ h => h) (Or.inl ⟨by rfl, ?_⟩) hHeld ?_
          rotate_left 1
          · (intro w hSw; (try dsimp only at hSw); go_simp; (try with_reducible rfl))
          simp only [List.setIfInBounds_toArray, List.set_cons_zero, List.set_cons_succ]
          refine takeD (i := 3) (d := 114) (v := .pointer (some ⟨p.b, 0, none⟩)) rfl rfl (by kernel_rfl) (by kernel_rfl) (by kernel_rfl) (fun _ _ _ h => h) (Or.inl ⟨by rfl, fun w hSw => ?_⟩) hHeld ?_
          · have cst := hSw.cell HC0.out HNR6.out
            clear hSw
            go_simp
          simp only [List.setIfInBounds_toArray, List.set_cons_zero, List.set_cons_succ]
          refine takeD (i := 4) (d := 115) (v := ?_) rfl rfl (by kernel_rfl) (by kernel_rfl) (by kernel_rfl) (fun _ _ _ h => h) (Or.inl ⟨by rfl, ?_⟩) hHeld ?_
          rotate_left 1
          · (intro w hSw; (try dsimp only at hSw); go_simp; (try with_reducible rfl))
          simp only [List.setIfInBounds_toArray, List.set_cons_zero, List.set_cons_succ]
          refine takeD (i := 5) (d := 116) (v := ?_) rfl rfl (by kernel_rfl) (by kernel_rfl) (by kernel_rfl) (fun _ _ _ h => h) (Or.inl ⟨by rfl, ?_⟩) hHeld ?_
          rotate_left 1
          · (intro w hSw; (try dsimp only at hSw); go_simp; (try with_reducible rfl))
          simp only [List.setIfInBounds_toArray, List.set_cons_zero, List.set_cons_succ]
          have HMa := Lib.hid ((Mods.refl (S := []) (w := w8)).drew)
          refine wpAnyH_ready (rs := [6]) (by kernel_rfl) (by simp) ?_
          refine AllReadyH.cons rfl (fun K hK => ?_) AllReadyH.nil
          go_simp
          refine hK.out _ _ ?_ (fun hHeld => ?_)
          · exact hHeld.alloc _
          clear hK K
          have HOa := Lib.hid (show OwnB (w8.drew.alloc (.cells #[.int .u8 0] 5)) w5.heap.size v6 (encEv y) from (HO8.out.mods0 HMa.out).mods0 (Mods.refl.alloc _))
          have HLa := Lib.hid (show Rd (w8.drew.alloc (.cells #[.int .u8 0] 5)) (.slice (some ⟨w8.heap.size, 0, none⟩) 1 1) (u8s [0]) from (OwnB.lit w8.drew (Nat.le_refl _) [0] (by decide)).rd)
          have HMb := Lib.hid (show Mods [] w8 (w8.drew.alloc (.cells #[.int .u8 0] 5)) from HMa.out.alloc _)
          have HBS8 := Lib.hid (show w5.heap.size ≤ (w8.drew.alloc (.cells #[.int .u8 0] 5)).heap.size from by
            have h1 := HZ8.out
            have := HMb.out.size
            omega)
          clear HMa
          refine wpAnyH_ready (rs := [7]) (by kernel_rfl) (by simp) ?_
          refine AllReadyH.cons rfl (fun K hK => ?_) AllReadyH.nil
          refine step_appD (a := ⟨_, []⟩) (by rfl) 118 rfl (.tmp 116) (.tmp 117) rfl (by rfl) HOa.out (by rfl) HLa.out (by rw [encEv_len]; decide) HBS8.out (fun x4 W5 O5 M5 => ?_)
          have HM5 := Lib.hid (show Mods v6.ownBlock.toList w8 W5 from HMb.out.nil.trans M5)
          have HO5 := Lib.hid (show OwnB W5 w5.heap.size x4 (encEv y ++ [0]) from O5)
          clear hHeld M5 O5
          refine hK.out _ _ (HM5.out.mono (fun k hk => .inl (List.mem_append.2 (.inr hk)))) (fun hHeld => ?_)
          clear hK K
          have HD5 := Lib.hid (HR8.out.dev.mods HM5.out (fun k hk hm => HN6.out k (by simp [hk]) hm))
          have HPG := Lib.hid (refProgram_ok W5 p D1 HD5.out HQ.out.1.ok ((a : Nat) : Int) x4 _ HO5.out.rd HBE.out (fun _ k hk hm => by
            have h1 := (HO5.out.lt k hk).1
            have h2 := (HSB.out k (by simp [DevAt.foot] at hm ⊢; rcases hm with h | h <;> simp [h])).1
            omega) (Int.le_trans HQ.out.2.1.st (by decide)))
          rw [← HPUT.out] at HPG
          refine wpAnyH_ready (rs := [8]) (by kernel_rfl) (by simp) ?_
          refine AllReadyH.cons rfl (fun K hK => ?_) AllReadyH.nil
          go_simp
          go_wp2_with (refine HPG.out.mono ?_; rintro e W6 ⟨rfl, d6, m6⟩)
          have HX := Lib.hid (And.intro d6 (show Mods (p.foot ++ v6.ownBlock.toList) w8 W6 from (HM5.out.mono (fun k hk => .inl (List.mem_append.2 (.inr hk)))).trans (m6.mono (fun y hy => .inl (List.mem_append.2 (.inl (by simp [DevAt.foot] at hy ⊢; rcases hy with h | h <;> simp [h])))))))
          clear hHeld d6 m6
          refine hK.out _ _ HX.out.2 (fun hHeld => ?_)
          clear hK K
          refine takeD (i := 9) (d := 120) (v := ?_) rfl rfl (by kernel_rfl) (by kernel_rfl) (by kernel_rfl) (fun _ _ _ h => h) (Or.inl ⟨by rfl, ?_⟩) hHeld ?_
          rotate_left 1
          · (intro w hSw; (try dsimp only at hSw); go_simp; (try with_reducible rfl))
          simp only [List.setIfInBounds_toArray, List.set_cons_zero, List.set_cons_succ]
          refine wpAnyH_done (by kernel_rfl) ?_ _
          go_wp2_with fail
          go_meet
          exact ⟨rfl, HX.out.1, HX.out.2⟩
        case rest => as_aux_lemma =>
          obtain ⟨rfl, hdx, hmx⟩ := hcut
          have HRX := Lib.hid (show RefAt wc rb p G PR.2 R from ⟨hmx.heap HR8.out.blk HNR6.out, hdx, HR8.out.apart, HPS.out.1⟩)
          have HMX := Lib.hid (show Mods (rb :: p.foot) w wc from (HMD.out.trans HM8.out.nil).comp hmx (fun k hk => by
            rcases List.mem_append.1 hk with hk | hk
            · exact .inl (by simp [hk])
            · have h1 := HO8.out.back hk
              have h2 := HSZ.out
              have h3 := HMD.out.size
              exact .inr (by omega)))
          clear hdx hmx HC0 HSB HN6 HNR6 HR8 HO8 HM8 HPUT HBE HYV HADW
          by_cases h0 : PR.1 = 0
          · have HW2 := Lib.hid (show addL G D L x = ((nx, 0), PR.2, { L with s := moreS S1 x }) from by rw [HWA.out, if_neg (fun h => h h0), HNX1.out])
            rw [h0]
            clear h0
            go_wp2_with fail
            go_ret2
            refine ⟨R, by rw [HW2.out]; rfl, ?_, ?_, HMX.out⟩
            · rw [HW2.out]; exact HRX.out
            · rw [HW2.out]; exact HRL.out.s _
          · have hp := HPS.out.2
            have h10 : PR.1 = 10 ∧ PR.2.down = true := by
              rcases hp with h | h
              · exact absurd h h0
              · exact h
            have HW2 := Lib.hid (show addL G D L x = ((0, 10), PR.2, endL) from by
              rw [HWA.out, if_pos h0, h10.1]
              unfold orEnd
              rw [if_pos h10.2])
            have hne : (PR.1 != 0) = true := by simpa using h0
            rw [hne]
            have HEND := Lib.hid (rEnd_ok wc rb p G PR.2 R HRX.out)
            clear hne h10 hp h0
            go_wp2_with fail
            refine HEND.out.mono ?_
            rintro e w9 ⟨rfl, hr9, hm9⟩
            have HR9 := Lib.hid hr9
            have HM9 := Lib.hid (show Mods (rb :: p.foot) w w9 from HMX.out.trans (hm9.mono (fun y hy => .inl (by simp at hy; simp [hy]))))
            clear hr9 hm9
            go_wp2_with fail
            go_ret2
            refine ⟨rEnd R, by rw [HW2.out]; rfl, ?_, ?_, HM9.out⟩
            · rw [HW2.out]; exact HR9.out
            · rw [HW2.out]; exact RelL.end (L := L) R
end Go.Proofs.Ytkdadnlleepkfaa
