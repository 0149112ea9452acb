/- ThresholdSteps: the walk. -/
import Derived.Test.YtokokojmeepoeaaRef12T
import Derived.Test.YtokokojmeepoeaaRefD
import Derived.Test.YtokokojmeepoeaaSenIn
import Derived.Test.YtokokojmeepoeaaAwakeT
import Derived.Test.YtokokojmeepoeaaNear
import Derived.Test.YtokokojmeepoeaaThree
namespace Go.Proofs.Ytokokojmeepoeaa
open Go.RowKit

theorem stepN_len (S : Sen) (P : List Pt) (a b : Nat) : (stepN S P a b).2.1.length ≤ 1000000 := by
  unfold stepN
  split
  · split
    · have := chL_length a (nextN S a (numI S.conv.sgn b)) 6; show (chL a _ 6).length ≤ _; omega
    · simp
  · simp
set_option maxRecDepth 100000 in
set_option maxHeartbeats 4000000 in
theorem thresholdSteps_walk (w : World) (S0 : Sen) (P0 : List Pt) (hS0 : SenIn w S0 P0) (v : Value) (L : List Int) (hv : Rd w v (i64s L)) (hb : ∀ i, -9223372036854775808 ≤ L.getD i 0 ∧ L.getD i 0 ≤ 9223372036854775807)
    (a : Int) (ha : 0 ≤ a ∧ a ≤ 255) (b : Int) (hbb : 0 ≤ b ∧ b ≤ 255) :
    Calls Try.prog 12 #[.agg S0.cells, v, .int .u8 a, .int .u8 b] w fun e w' => e = .returned (.bool true) ∧ Mods [] w w' := by
  obtain ⟨a0, a1⟩ := ha
  obtain ⟨b0, b1⟩ := hbb
  obtain ⟨ra, rfl⟩ := Int.eq_ofNat_of_zero_le a0
  obtain ⟨rb, rfl⟩ := Int.eq_ofNat_of_zero_le b0
  have hra : ra < 256 := by omega
  have hrb : rb < 256 := by omega
  clear a0 a1 b0 b1
  have HI := Lib.hid hS0
  have hnm : S0.name.size ≤ 9223372036854775807 := hS0.name
  have BB := Lib.hid (SenBox.new w S0)
  have M0 := Lib.hid ((Mods.refl (S := []) (w := w)).alloc (.cells S0.cells 32))
  obtain ⟨adp, capp, hpts⟩ := hS0.rd.len
  have c3 : S0.cells[3]? = some (.string S0.name) := rfl
  have c13 : S0.cells[13]? = some (.slice adp P0.length capp) := by rw [← hpts]; rfl
  have hP0 : P0.length ≤ 9223372036854775807 := by
    obtain ⟨_, _, _, h1, h2, _⟩ := hS0.rd
    have : P0.length ≤ maxLen := Nat.le_trans h1 h2
    exact this
  clear hpts hS0
  by_cases hn : S0.name.size ≤ 100
  · have d1 : decide ((100 : Int) < (S0.name.size : Int)) = false := decide_eq_false (by omega)
    by_cases hp : P0.length ≤ 40
    · have d2 : decide ((40 : Int) < (P0.length : Int)) = false := decide_eq_false (by omega)
      have HL := Lib.hid (light_ok w v L hv)
      have HV := Lib.hid hv
      have HB := Lib.hid hb
      clear hv hb
      by_cases hl : L.length ≤ 600
      · have HLL := Lib.hid (decide_eq_true hl)
        have HLM := Lib.hid (fun W (M : Mods [] w W) => light_ok W v L (HV.out.mods0 M))
        go_enter Try.func12, Try.ntmps12
        go_wp2_with fail
        generalize w.alloc (.cells S0.cells 32) = w0 at BB M0 ⊢
        generalize hg0 : w.heap.size = g0 at BB ⊢
        have HG0 := Lib.hid (Nat.le_of_eq hg0)
        clear hg0
        refine (HLM.out _ M0.out).mono ?_
        rw [HLL.out]
        rintro e w' ⟨rfl, rfl⟩
        go_wp2_with fail
        refine (roll_ok _ v L (HV.out.mods0 M0.out) (by omega) HB.out).mono ?_
        rintro e w1 ⟨rfl, D1, M1, z1⟩
        have hgb := lt_of_block BB.out.blk
        have hwb := M0.out.size
        have HM1 := Lib.hid (M0.out.trans M1)
        have HB1 := Lib.hid (BB.out.mods0 M1)
        generalize w0.heap.size = b at D1 z1 hgb hwb ⊢
        clear M1 c3 c13
        go_wp2_with fail
        refine (analogM_ok w1 b v L 0 D1 1 (by omega)).mono ?_
        rintro e w2 ⟨S1, P1, n2, rfl, IS1, VS1, DS1, OP1, PL1, SN1, D2, M2⟩
        have hone1 := Lib.hid IS1.conv.rd.one
        have HM2 := Lib.hid (HM1.out.comp M2 (fun q hq => by simp at hq; subst hq; exact .inr hwb))
        have HB2 := Lib.hid (HB1.out.mods M2 (by simp; omega))
        have HA : Hid (∀ W, W.heap[w2.heap.size]? = some (.cells S1.cells 32 (0, 0)) → Mods [w2.heap.size] (w2.alloc (.cells zS.cells 32)) W → Sn W b w2.heap.size S1 P1 ∧ IsDice W b v L n2 ∧ Mods [] w2 W) := Lib.hid (fun W R M => Sn.made z1 IS1 OP1 D2 R M)
        clear IS1 VS1 DS1 OP1 PL1 SN1 D2 M2 D1 z1
        go_wp2_with (first | (refine wpList_load_sen rfl (.tmp 10) rfl HB4.out (by rfl) ?_) | (refine wpList_store_row (cs := S1.cells) rfl 32 (.tmp 10) (.tmp 48) rfl (heap_alloc_new w2 _) (by rfl) (by rfl) (by rfl) (Sen.infoS _) (Sen.one _ hone1.out) ?_; intro w4 R4 M4; have HA4 := Lib.hid (HA.out w4 R4 M4); have HB4 := Lib.hid HA4.out.1.box; clear M4 R4))
        clear HA
        generalize w2.heap.size = gA at HA4 HB4 ⊢
        refine (near_ok w4 b v L n2 HA4.out.2.1 S1 P1 HA4.out.1.sen).mono ?_
        rintro e w5 ⟨rn', n5, rfl, rn0, rn1, D5, M5⟩
        obtain ⟨rn, rfl⟩ := Int.eq_ofNat_of_zero_le rn0
        have hrn : rn < 256 := by omega
        have HS5 := Lib.hid (HA4.out.1.dice M5)
        have HB0 := Lib.hid ((HB2.out.mods0 HA4.out.2.2).mods M5 (by simp; omega))
        have HM5 := Lib.hid ((HM2.out.trans HA4.out.2.2).comp M5 (fun q hq => by simp at hq; subst hq; exact .inr hwb))
        have HD5 := Lib.hid (D5.drewN 1)
        have hgA := HS5.out.gb
        clear M5 D5 HA4 HB4 HB2 rn0 rn1
        go_wp2_with fail
        refine heldStart (S := fun W => W.heap[g0]? = some (.cells S0.cells 32 (0, 0)) ∧ W.heap[gA]? = some (.cells S1.cells 32 (0, 0))) 7 rfl (by kernel_rfl) ⟨HB0.out.blk, HS5.out.box.blk⟩ (fun hHeld => ?_)
        refine takeD (i := 0) (d := 52) (v := .agg S0.cells) rfl rfl (by kernel_rfl) (by kernel_rfl) (by kernel_rfl) (fun _ _ _ h => h) (yieldsIf_load_row rfl 32 (.tmp 4) rfl g0 rfl 32 S0.cells (0, 0) _ (fun w h=>h.1) Try.underlying32 rfl S0.infoS) hHeld ?_
        simp only [List.setIfInBounds_toArray, List.set_cons_zero, List.set_cons_succ]
        refine takeD (i := 1) (d := 53) (v := .agg S1.cells) rfl rfl (by kernel_rfl) (by kernel_rfl) (by kernel_rfl) (fun _ _ _ h => h) (yieldsIf_load_row rfl 32 (.tmp 10) rfl gA rfl 32 S1.cells (0, 0) _ (fun w h=>h.2) Try.underlying32 rfl S1.infoS) hHeld ?_
        simp only [List.setIfInBounds_toArray, List.set_cons_zero, List.set_cons_succ]
        refine takeD (i := 2) (d := 54) (v := ?_) rfl rfl (by kernel_rfl) (by kernel_rfl) (by kernel_rfl) (fun _ _ _ h => h) (Or.inl ⟨by rfl, ?_⟩) hHeld ?_
        rotate_left 1
        · (intro w hSw; (try dsimp only at hSw); go_simp; (try with_reducible rfl))
        simp only [List.setIfInBounds_toArray, List.set_cons_zero, List.set_cons_succ]
        refine takeD (i := 6) (d := 58) (v := ?_) rfl rfl (by kernel_rfl) (by kernel_rfl) (by kernel_rfl) (fun _ _ _ h => h) (Or.inl ⟨by rfl, ?_⟩) hHeld ?_
        rotate_left 1
        · (intro w hSw; (try dsimp only at hSw); go_simp; (try with_reducible rfl))
        simp only [List.setIfInBounds_toArray, List.set_cons_zero, List.set_cons_succ]
        refine wpAnyH_ready (rs := [3]) (by kernel_rfl) (by simp) ?_
        refine AllReadyH.cons rfl (fun K hK => ?_) AllReadyH.nil
        go_simp
        go_wp2_with (go_at_call 24; refine (oddSensor_ok _ b v L n5 HD5.out).mono ?_; rintro e w3 ⟨S2, P2, n3, rfl, IS2, OP2, PL2, D3, M3⟩)
        refine hK.out _ _ ?_ (fun hHeld => ?_)
        · exact ⟨M3.heap hHeld.1 (by simp;omega), M3.heap hHeld.2 (by simpa using hgA)⟩
        clear hK K
        have HI1 := Lib.hid (((HS5.out.mods0 (Mods.refl.drewN 1)).dice M3).sen)
        have HI2 := Lib.hid IS2
        have HM3 := Lib.hid ((HM5.out.drewN 1).comp M3 (fun q hq => by simp at hq; subst hq; exact .inr hwb))
        have HI0 := Lib.hid ((HI.out.is (by omega) (by omega)).mods0 HM3.out)
        clear D3 M3 IS2 OP2
        refine wpAnyH_ready (rs := [4]) (by kernel_rfl) (by simp) ?_
        refine AllReadyH.cons rfl (fun K hK => ?_) AllReadyH.nil
        rw [if_pos (by rfl)]
        refine wp_three (.tmp 52) (.tmp 53) (.tmp 55) rfl 56 rfl S0 S1 S2 rfl rfl rfl ?_
        intro cells hcells
        refine hK.out _ _ ?_ (fun hHeld => ?_)
        · exact ⟨heap_alloc hHeld.1, heap_alloc hHeld.2⟩
        clear hK K
        simp only [List.setIfInBounds_toArray, List.set_cons_zero, List.set_cons_succ]
        refine takeD (i := 5) (d := 57) (v := ?_) rfl rfl (by kernel_rfl) (by kernel_rfl) (by kernel_rfl) (fun _ _ _ h => h) (Or.inl ⟨by rfl, ?_⟩) hHeld ?_
        rotate_left 1
        · (intro w hSw; (try dsimp only at hSw); go_simp; (try with_reducible rfl))
        simp only [List.setIfInBounds_toArray, List.set_cons_zero, List.set_cons_succ]
        refine wpAnyH_done (by kernel_rfl) ?_ _
        have M4 := (Mods.refl (S := []) (w := w3)).alloc (.cells cells 32)
        have R4 := heap_alloc_new w3 (.cells cells 32)
        have HI0 := Lib.hid (HI0.out.mods0 M4)
        have HI1 := Lib.hid (HI1.out.mods0 M4)
        have HI2 := Lib.hid (HI2.out.mods0 M4)
        have HM4 := Lib.hid (HM3.out.trans M4)
        have HR4 := Lib.hid R4
        generalize w3.alloc (.cells cells 32) = w4 at HI0 HI1 HI2 HM4 HR4 ⊢
        generalize w3.heap.size = gx at HR4 ⊢
        clear M4 R4 hHeld HM3 HM5 HM2 HM1 HD5 HB1 HB0 HS5 hgA BB M0 HI HLM HV
        have HSQ : Hid (∀ q, q < 3 → ∃ S P, IsSen w4 S P ∧ ∀ j, j < 28 → cells[q * 28 + j]? = S.cells[j]?) := Lib.hid (fun q hq => by
          match q, hq with
          | 0, _ => exact ⟨S0, P0, HI0.out, fun j hj => (hcells j hj).1⟩
          | 1, _ => exact ⟨S1, P1, HI1.out, fun j hj => (hcells j hj).2.1⟩
          | 2, _ => exact ⟨S2, P2, HI2.out, fun j hj => (hcells j hj).2.2⟩)
        clear hcells HI0 HI1 HI2 hgb hwb
        go_wp2_with fail
        go_loopw [58] (fun i wr => ∃ q : Nat, q ≤ 3 ∧ i = .int .i64 q ∧ Mods [] w4 wr) (fun i _ => 3 - (intOf i).toNat)
        case atStart => exact ⟨0, by omega, rfl, Mods.refl⟩
        case round =>
          obtain ⟨q, hq, rfl, M⟩ := hrel
          by_cases hq3 : q < 3
          · obtain ⟨S, P, IS, hg⟩ := HSQ.out q hq3
            have hone := Lib.hid IS.conv.rd.one
            have HIS := Lib.hid (IS.mods0 M)
            have HRG := Lib.hid (show wr.rangeAt gx (q * 28) S.cells.toList from fun j u hu => by
              have hj : j < 28 := (List.getElem?_eq_some_iff.1 hu).1
              have h4 : w4.cell? ⟨gx, q * 28 + j, none⟩ = some u := by rw [cell_blk HR4.out, hg j hj, ← hu]; simp
              exact M.cell h4 (by simp))
            have HM := Lib.hid M
            have i1 : (0 : Int) ≤ (q : Int) := by omega
            have i2 : (q : Int) < 3 := by omega
            have hst := IS.mask
            have e1 : bits .and .u8 (ra : Int) (S.mask : Int) = ((ra &&& S.mask : Nat) : Int) := u8_and_nat _ _ hra hst
            clear M IS hg
            go_wp2_with (first
              | (refine wpList_store_row (cs := S.cells) rfl 32 (.tmp 13) (.tmp 61) rfl (heap_alloc_new wr _) (by rfl) (by rfl) (by rfl) (Sen.infoS _) (Sen.one _ hone.out) ?_; intro w5 R5 M5; have HB5 := Lib.hid (show SenBox w5 wr.heap.size S from ⟨R5⟩); have HF5 := Lib.hid (fresh M5); have c14 : w5.cell? ⟨wr.heap.size, 14, none⟩ = some (.int .u8 S.mask) := HB5.out.lims.1; clear R5 M5)
              | (refine wpList_load_mid rfl 32 (.tmp 60) rfl gx (q * 28) (by rfl) S.cells.toList _ HRG.out Try.underlying32 rfl (Sen.infoS S) ?_))
            have R6 := heap_alloc_new w5 (.cells #[.int .u8 (ra : Int), .int .u8 ((ra &&& S.mask : Nat) : Int)] 5)
            have M6 := (Mods.refl (S := []) (w := w5)).alloc (.cells #[.int .u8 (ra : Int), .int .u8 ((ra &&& S.mask : Nat) : Int)] 5)
            have HB6 := Lib.hid (HB5.out.mods0 M6)
            have HI6 := Lib.hid ((HIS.out.mods0 HF5.out).mods0 M6)
            have HM6 := Lib.hid ((HM.out.trans HF5.out).trans M6)
            generalize w5.alloc (.cells #[.int .u8 (ra : Int), .int .u8 ((ra &&& S.mask : Nat) : Int)] 5) = w6 at R6 HB6 HI6 HM6 ⊢
            generalize w5.heap.size = gy at R6 ⊢
            generalize wr.heap.size = g11 at HB6 HB5 c14 ⊢
            have HR6 := Lib.hid R6
            have hx1 : ra &&& S.mask < 256 := Nat.lt_of_le_of_lt Nat.and_le_left hra
            have HY : Hid (∀ p, p < 2 → ∃ x : Nat, x < 256 ∧ (#[.int .u8 (ra : Int), .int .u8 ((ra &&& S.mask : Nat) : Int)] : Array Value)[p]? = some (.int .u8 (x : Int))) := Lib.hid (fun p hp => by
              match p, hp with
              | 0, _ => exact ⟨ra, hra, rfl⟩
              | 1, _ => exact ⟨ra &&& S.mask, hx1, rfl⟩)
            have HZ : Hid (∀ p, p < 2 → ∃ x : Nat, x < 256 ∧ (#[.int .u8 (rb : Int), .int .u8 (rn : Int)] : Array Value)[p]? = some (.int .u8 (x : Int))) := Lib.hid (fun p hp => by
              match p, hp with
              | 0, _ => exact ⟨rb, hrb, rfl⟩
              | 1, _ => exact ⟨rn, hrn, rfl⟩)
            clear R6 M6 HB5 HF5 HIS HRG c14 e1 hone
            go_loopw [70] (fun i w7 => ∃ p : Nat, p ≤ 2 ∧ i = .int .i64 p ∧ Mods [] w6 w7) (fun i _ => 2 - (intOf i).toNat)
            case atStart => exact ⟨0, by omega, rfl, Mods.refl⟩
            case round =>
              obtain ⟨p, hp, rfl, M7⟩ := hrel
              by_cases hp2 : p < 2
              · obtain ⟨y, hy, hyc⟩ := HY.out p hp2
                have cy : wr.cell? ⟨gy, p, none⟩ = some (.int .u8 (y : Int)) := M7.cell (by rw [cell_blk HR6.out]; exact hyc) (by simp)
                have i3 : (0 : Int) ≤ (p : Int) := by omega
                have i4 : (p : Int) < 2 := by omega
                have HM7 := Lib.hid M7
                clear M7 hyc
                go_wp2_with fail
                have R8 := heap_alloc_new wr (.cells #[.int .u8 (rb : Int), .int .u8 (rn : Int)] 5)
                have M8 := (Mods.refl (S := []) (w := wr)).alloc (.cells #[.int .u8 (rb : Int), .int .u8 (rn : Int)] 5)
                have HM8 := Lib.hid (HM7.out.trans M8)
                generalize wr.alloc (.cells #[.int .u8 (rb : Int), .int .u8 (rn : Int)] 5) = w8 at R8 HM8 ⊢
                generalize wr.heap.size = gz at R8 ⊢
                have HR8 := Lib.hid R8
                clear R8 M8 cy
                go_loopw [78] (fun i w9 => ∃ r : Nat, r ≤ 2 ∧ i = .int .i64 r ∧ Mods [] w8 w9) (fun i _ => 2 - (intOf i).toNat)
                case atStart => exact ⟨0, by omega, rfl, Mods.refl⟩
                case round =>
                  obtain ⟨r, hr, rfl, M9⟩ := hrel
                  by_cases hr2 : r < 2
                  · obtain ⟨z, hz, hzc⟩ := HZ.out r hr2
                    have cz : wr.cell? ⟨gz, r, none⟩ = some (.int .u8 (z : Int)) := M9.cell (by rw [cell_blk HR8.out]; exact hzc) (by simp)
                    have i5 : (0 : Int) ≤ (r : Int) := by omega
                    have i6 : (r : Int) < 2 := by omega
                    have HM9 := Lib.hid M9
                    have MX := HM8.out.trans M9
                    have HB9 := Lib.hid (HB6.out.mods0 MX)
                    have HI9 := Lib.hid (HI6.out.mods0 MX)
                    clear M9 hzc MX
                    go_wp2_with (refine wpList_load_sen rfl (.tmp 13) rfl HB9.out (by rfl) ?_)
                    refine (step_ok wr S P HI9.out y z hy hz).mono ?_
                    rintro e w10 ⟨v10, rfl, O10, M10⟩
                    have HB10 := Lib.hid (HB9.out.mods0 M10)
                    have HI10 := Lib.hid (HI9.out.mods0 M10)
                    have HO10 := Lib.hid O10
                    have HM10 := Lib.hid (HM9.out.trans M10)
                    clear O10 M10 cz
                    go_wp2_with (refine wpList_load_sen rfl (.tmp 13) rfl HB10.out (by rfl) ?_)
                    refine (refTStep_ok w10 S P HI10.out y z hy hz).mono ?_
                    rintro e w11 ⟨v11, rfl, O11, M11⟩
                    have HO10 := Lib.hid (HO10.out.mods0 M11)
                    have HO11 := Lib.hid O11
                    have HM11 := Lib.hid (HM10.out.trans M11)
                    have HB11 := Lib.hid (HB10.out.mods0 M11)
                    have HI11 := Lib.hid (HI10.out.mods0 M11)
                    have hln := stepN_len S P y z
                    clear O11 M11
                    generalize stepN S P y z = o at HO10 HO11 hln ⊢
                    obtain ⟨o1, o2, o3⟩ := o
                    go_wp2_with (refine wpList_load_sen rfl (.tmp 13) rfl HB11.out (by rfl) ?_)
                    refine (reached_ok w11 S P HI11.out z hz).mono ?_
                    rintro e w12 ⟨rfl, M12⟩
                    have HB12 := Lib.hid (HB11.out.mods0 M12)
                    have HI12 := Lib.hid (HI11.out.mods0 M12)
                    have HO10 := Lib.hid (HO10.out.mods0 M12)
                    have HO11 := Lib.hid (HO11.out.mods0 M12)
                    have HM12 := Lib.hid (HM11.out.trans M12)
                    clear M12
                    go_wp2_with (refine wpList_load_sen rfl (.tmp 13) rfl HB12.out (by rfl) ?_)
                    refine (refReached_ok w12 S P HI12.out z hz).mono ?_
                    rintro e w13 ⟨rfl, M13⟩
                    have HO10 := Lib.hid (HO10.out.mods0 M13)
                    have HO11 := Lib.hid (HO11.out.mods0 M13)
                    have HM13 := Lib.hid (HM12.out.trans M13)
                    clear M13
                    generalize reachN S P z = oo at ⊢
                    obtain ⟨oo1, oo2⟩ := oo
                    go_wp2_with fail
                    refine (sameChg_ok w13 v10 v11 o2 HO10.out.rd HO11.out.rd hln).mono ?_
                    rintro e w14 ⟨rfl, M14⟩
                    have HM14 := Lib.hid (HM13.out.trans M14)
                    clear M14
                    go_wp2
                    exact ⟨⟨r + 1, by omega, by go_num, HM14.out⟩, by simp only [intOf]; omega⟩
                  · have HM9 := Lib.hid (HM8.out.trans M9)
                    clear M9
                    go_wp2
                    exact ⟨⟨p + 1, by omega, by go_num, HM9.out⟩, by simp only [intOf]; omega⟩
              · have HM9 := Lib.hid (HM6.out.trans M7)
                clear M7
                go_wp2
                exact ⟨⟨q + 1, by omega, by go_num, HM9.out⟩, by simp only [intOf]; omega⟩
          · have HM9 := Lib.hid (HM4.out.trans M)
            clear M
            go_wp2_with fail
            refine (severity_ok ra hra _).mono ?_
            rintro e w14 ⟨rfl, M14⟩
            have HM14 := Lib.hid (HM9.out.trans M14)
            clear M14
            go_wp2_with fail
            refine (refSeverity_ok ra hra _).mono ?_
            rintro e w15 ⟨rfl, M15⟩
            have HM15 := Lib.hid (HM14.out.trans M15)
            clear M15
            go_wp2_with fail
            refine (awakeT_ok _).mono ?_
            rintro e w16 ⟨rfl, M16⟩
            go_wp2
            go_ret
            exact ⟨rfl, HM15.out.trans M16⟩
      · have HLL := Lib.hid (decide_eq_false hl)
        have HLM := Lib.hid (fun W (M : Mods [] w W) => light_ok W v L (HV.out.mods0 M))
        go_enter Try.func12, Try.ntmps12
        go_wp2_with fail
        refine (HLM.out _ M0.out).mono ?_
        rw [HLL.out]
        rintro e w' ⟨rfl, rfl⟩
        go_wp2_with fail
        refine (awakeT_ok _).mono ?_
        rintro e w1 ⟨rfl, M1⟩
        go_wp2
        go_ret
        exact ⟨rfl, M0.out.trans M1⟩
    · have d2 : decide ((40 : Int) < (P0.length : Int)) = true := decide_eq_true (by omega)
      go_enter Try.func12, Try.ntmps12
      go_wp2_with fail
      refine (awakeT_ok _).mono ?_
      rintro e w1 ⟨rfl, M1⟩
      go_wp2
      go_ret
      exact ⟨rfl, M0.out.trans M1⟩
  · have d1 : decide ((100 : Int) < (S0.name.size : Int)) = true := decide_eq_true (by omega)
    go_enter Try.func12, Try.ntmps12
    go_wp2_with fail
    refine (awakeT_ok _).mono ?_
    rintro e w1 ⟨rfl, M1⟩
    go_wp2
    go_ret
    exact ⟨rfl, M0.out.trans M1⟩
end Go.Proofs.Ytokokojmeepoeaa
