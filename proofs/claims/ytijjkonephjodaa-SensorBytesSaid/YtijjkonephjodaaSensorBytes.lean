/- SensorBytes: the walk. -/
import Derived.Test.YtijjkonephjodaaRsb
import Derived.Test.YtijjkonephjodaaRst
import Derived.Test.YtijjkonephjodaaAms
import Derived.Test.YtijjkonephjodaaEnx
import Derived.Test.YtijjkonephjodaaRefSeal
import Derived.Test.YtijjkonephjodaaMadeSen
import Derived.Test.YtijjkonephjodaaMadeOddS
import Derived.Test.YtijjkonephjodaaSenIn
import Derived.Test.YtijjkonephjodaaReady
import Derived.Test.YtijjkonephjodaaKinds
import Derived.Test.YtijjkonephjodaaBys
import Derived.Test.YtijjkonephjodaaHeldRow
import Derived.Deep.DeepCutAuto
namespace Go.Proofs.Ytijjkonephjodaa
open Go.RowKit
set_option linter.unusedVariables false

set_option maxRecDepth 100000 in
theorem sLight_ok (w : World) (S : Sen) (P : List Pt) (hS : SenIn w S P) :
    Calls Try.prog 9 #[.agg S.cells] w fun e w' => e = .returned (.bool (decide (S.name.size ≤ 100) && decide (P.length ≤ 40))) ∧ Mods [] w w' := by
  have M0 := Lib.hid ((Mods.refl (S := []) (w := w)).alloc (.cells S.cells 32))
  have hnm : S.name.size ≤ 9223372036854775807 := hS.name
  obtain ⟨adp, capp, hpts⟩ := hS.rd.len
  have c3 : S.cells[3]? = some (.string S.name) := rfl
  have c13 : S.cells[13]? = some (.slice adp P.length capp) := by rw [← hpts]; rfl
  clear hpts hS
  by_cases hn : S.name.size ≤ 100
  · have d1 : decide ((S.name.size : Int) ≤ 100) = true := decide_eq_true (by omega)
    by_cases hp : P.length ≤ 40
    · have d2 : decide ((P.length : Int) ≤ 40) = true := decide_eq_true (by omega)
      have HR := Lib.hid (show (decide (S.name.size ≤ 100) && decide (P.length ≤ 40)) = true by rw [decide_eq_true hn, decide_eq_true hp]; rfl)
      go_enter Try.func9, Try.ntmps9
      go_wp2_with fail
      go_ret
      exact ⟨ret_bool (by rw [HR.out]), M0.out⟩
    · have d2 : decide ((P.length : Int) ≤ 40) = false := decide_eq_false (by omega)
      have HR := Lib.hid (show (decide (S.name.size ≤ 100) && decide (P.length ≤ 40)) = false by rw [decide_eq_false hp, Bool.and_false])
      go_enter Try.func9, Try.ntmps9
      go_wp2_with fail
      go_ret
      exact ⟨ret_bool (by rw [HR.out]), M0.out⟩
  · have d1 : decide ((S.name.size : Int) ≤ 100) = false := decide_eq_false (by omega)
    have HR := Lib.hid (show (decide (S.name.size ≤ 100) && decide (P.length ≤ 40)) = false by rw [decide_eq_false hn, Bool.false_and])
    go_enter Try.func9, Try.ntmps9
    go_wp2_with fail
    go_ret
    exact ⟨ret_bool (by rw [HR.out]), M0.out⟩
theorem SenIn.mods0 {w w' : World} {S : Sen} {P : List Pt} (h : SenIn w S P) (M : Mods [] w w') : SenIn w' S P := ⟨h.rd.mods0 M, h.nums, h.name⟩
theorem seal8_bytes {A : List Int} (hb : Bytes A) : Bytes (seal8 A) := by
  intro i
  have hs : 0 ≤ sum8 A ∧ sum8 A < 256 := by unfold sum8; omega
  unfold seal8
  rcases Nat.lt_trichotomy i A.length with h | h | h
  · rw [List.getD_eq_getElem?_getD, List.getElem?_append_left h, ← List.getD_eq_getElem?_getD]
    exact hb i
  · rw [List.getD_eq_getElem?_getD, h, List.getElem?_append_right (Nat.le_refl _)]
    simp
    omega
  · rw [List.getD_eq_getElem?_getD, List.getElem?_eq_none (by simp; omega)]
    simp
theorem Bytes.set {A : List Int} (h : Bytes A) (i : Nat) {y : Int} (hy : 0 ≤ y ∧ y ≤ 255) : Bytes (A.set i y) := by
  intro j
  have := h j
  rw [List.getD_eq_getElem?_getD] at this ⊢
  rw [List.getElem?_set]
  split
  · split
    · exact hy
    · exact ⟨by simp, by simp⟩
  · exact this
theorem Bytes.app {A B : List Int} (ha : Bytes A) (hb : Bytes B) : Bytes (A ++ B) := by
  intro i
  rcases Nat.lt_or_ge i A.length with h | h
  · rw [List.getD_eq_getElem?_getD, List.getElem?_append_left h, ← List.getD_eq_getElem?_getD]
    exact ha i
  · rw [List.getD_eq_getElem?_getD, List.getElem?_append_right h, ← List.getD_eq_getElem?_getD]
    exact hb _
theorem OwnB.take {w : World} {B : Nat} {ad : Option Addr} {n cap : Nat} {A : List Int} (h : OwnB w B (.slice ad n cap) A) (k : Nat) (hk : k ≤ A.length) : OwnB w B (.slice ad k cap) (A.take k) := by
  have hl : (A.take k).length = k := by rw [List.length_take]; omega
  obtain ⟨_, h⟩ := h
  refine ⟨by rw [u8s_length]; omega, ?_⟩
  rcases h with ⟨h0, h1⟩ | ⟨g, cp, cur, hv, hb, hg, h1, h2, h3, h4⟩
  · injection h0 with e1 e2 e3
    subst e1 e3
    rw [u8s_length] at h1
    exact .inl ⟨by rw [show k = 0 by omega], by rw [u8s_length]; omega⟩
  · injection hv with e1 e2 e3
    subst e1 e3
    rw [u8s_length] at h1 h4
    refine .inr ⟨g, cap, cur, by rw [u8s_length, hl], hb, hg, by rw [u8s_length]; omega, h2, h3, ?_⟩
    have e : u8s (A.take k) = (u8s A).take k := by simp [u8s]
    have e2 : (u8s (A.take k)).length = k := by rw [u8s_length, hl]
    rw [e2, e, ← h4, List.take_take, show min k (A.length * 1) = k * 1 by omega]
/-- What Decode gives, whatever comes in: a sensor but for its points' slice, its points, an error. -/
def resS (T : List Int) : Sen := if errS T = 0 then senX T.dropLast (.slice none 0 0) else zS
def resSP (T : List Int) : List Pt := if errS T = 0 then ptsX T.dropLast else []
theorem sdecAny {w w' : World} {T : List Int} {e : Ending} (hb : Bytes T) (h : SDecRes w T e w') :
    ∃ pa, e = .returned (.tuple #[.agg ((resS T).with pa).cells, .int .i64 (errS T)]) ∧ IsConv w' ((resS T).conv.with pa) (resSP T) ∧ Mods [] w w' := by
  unfold resS resSP
  by_cases h0 : errS T = 0
  · obtain ⟨pv, rfl, IS, M⟩ := h.good hb h0
    have hw : senX T.dropLast pv = (senX T.dropLast (.slice none 0 0)).with (senX T.dropLast pv).conv.pts := by
      unfold senX restS Sen.with
      split
      · rfl
      · unfold ana13 decC Conv.with
        split <;> rfl
    rw [if_pos h0, if_pos h0, h0]
    have IC := IS.conv
    refine ⟨(senX T.dropLast pv).conv.pts, by rw [← hw], ?_, M⟩
    rw [hw] at IC
    exact IC
  · obtain ⟨rfl, M⟩ := h.bad h0
    rw [if_neg h0, if_neg h0]
    exact ⟨.slice none 0 0, rfl, ⟨RdPts.nil _, PtsOk.nil, ⟨by decide, by decide⟩, ⟨by decide, by decide⟩, ⟨by decide, by decide⟩, ⟨by decide, by decide⟩, ⟨by decide, by decide⟩⟩, M⟩
set_option maxRecDepth 100000 in
set_option maxHeartbeats 8000000 in
theorem sensorBytes_walk (w : World) (S0 : Sen) (P0 : List Pt) (hS0 : SenIn w S0 P0) (vr : Value) (R : List Int) (hvr : Rd w vr (u8s R)) (hbr : Bytes R) (v : Value) (L : List Int) (hv : Rd w v (i64s L)) (hb : ∀ i, -9223372036854775808 ≤ L.getD i 0 ∧ L.getD i 0 ≤ 9223372036854775807) :
    Calls Try.prog 3 #[.agg S0.cells, vr, v] w fun e w' => e = .returned (.bool true) ∧ Mods [] w w' := by
  have HVR := Lib.hid hvr
  have HBR := Lib.hid hbr
  obtain ⟨adr, capr, rfl⟩ := hvr.len
  rw [u8s_length] at HVR ⊢
  have hcr : R.length ≤ 9223372036854775807 := by obtain ⟨_, _, he, h1, h2, _⟩ := hvr.u8; exact Nat.le_trans h1 h2
  have HI := Lib.hid hS0
  have BB := Lib.hid (SenBox.new w S0)
  have M0 := Lib.hid ((Mods.refl (S := []) (w := w)).alloc (.cells S0.cells 32))
  clear hS0 hvr hbr
  by_cases hl0 : S0.name.size ≤ 100 ∧ P0.length ≤ 40
  · have HLT := Lib.hid (show (decide (S0.name.size ≤ 100) && decide (P0.length ≤ 40)) = true by rw [decide_eq_true hl0.1, decide_eq_true hl0.2]; rfl)
    by_cases hr : R.length ≤ 300
    · have dr : decide ((R.length : Int) > 300) = false := decide_eq_false (by omega)
      have HL := Lib.hid (light_ok w v L hv)
      have HV := Lib.hid hv
      have HB := Lib.hid hb
      clear hv hb
      by_cases hl : L.length ≤ 600
      · have HLL := Lib.hid (decide_eq_true hl)
        have HLM := Lib.hid (fun W (M : Mods [] w W) => light_ok W v L (HV.out.mods0 M))
        go_enter Try.func3, Try.ntmps3
        go_wp2_with (refine wpList_load_sen rfl (.tmp 3) rfl BB.out (by rfl) ?_)
        refine (sLight_ok _ S0 P0 (HI.out.mods0 M0.out)).mono ?_
        rw [HLT.out]
        rintro e w0 ⟨rfl, Mx⟩
        have HX := Lib.hid (M0.out.trans Mx)
        have HB0 := Lib.hid (BB.out.mods0 Mx)
        clear Mx
        go_wp2_with fail
        refine (HLM.out _ HX.out).mono ?_
        rw [HLL.out]
        rintro e w' ⟨rfl, rfl⟩
        go_wp2_with fail
        refine (roll_ok _ v L (HV.out.mods0 HX.out) (by omega) HB.out).mono ?_
        rintro e w1 ⟨rfl, D1, M1, z1⟩
        have hgb := lt_of_block HB0.out.blk
        have hwb := HX.out.size
        have HM1 := Lib.hid (HX.out.trans M1)
        have HB1 := Lib.hid (HB0.out.mods0 M1)
        generalize w0.heap.size = b at D1 z1 hgb hwb ⊢
        generalize w.heap.size = g0 at HB1 HB0 BB hgb ⊢
        have HD1 := Lib.hid D1
        have HWB := Lib.hid hwb
        have HVO := Lib.hid (show L ≠ [] → ∀ k, v.ownBlock = some k → k < w.heap.size from fun hl k hk => HV.out.block_lt (fun e => hl (List.eq_nil_of_length_eq_zero (by rw [← i64s_length, e]; rfl))) k hk)
        clear D1 M1 hwb
        have HMB : Hid (∀ {W W' : World}, Mods [] w W → Mods [b] W W' → Mods [] w W') := Lib.hid (fun M M' => M.comp M' (fun q hq => by simp at hq; subst hq; exact .inr HWB.out))
        go_wp2_with fail
        refine (byte_ok w1 b v L 0 HD1.out).mono ?_
        rintro e w2 ⟨num, n2, rfl, nu0, nu1, D2, M2⟩
        obtain ⟨num, rfl⟩ := Int.eq_ofNat_of_zero_le nu0
        have HM2 := Lib.hid (HM1.out.comp M2 (fun q hq => by simp at hq; subst hq; exact .inr HWB.out))
        have HB2 := Lib.hid (HB1.out.mods M2 (by simp; omega))
        have HD2 := Lib.hid D2
        have hz2 := Nat.lt_of_lt_of_le z1 M2.size
        clear M2 D2 HM1 HD1 HB1
        go_wp2_with fail
        refine (sensor_ok w2 b v L n2 HD2.out num (by omega)).mono ?_
        rintro e w3 ⟨S1, P1, n3, rfl, IS1, VS1, OP1, PL1, SN1, D3, M3⟩
        have HM3 := Lib.hid (HM2.out.comp M3 (fun q hq => by simp at hq; subst hq; exact .inr HWB.out))
        have HB3 := Lib.hid (HB2.out.mods M3 (by simp; omega))
        have HVS := Lib.hid VS1
        have hone1 := Lib.hid IS1.conv.rd.one
        have HA : Hid (∀ W, W.heap[w3.heap.size]? = some (.cells S1.cells 32 (0, 0)) → Mods [w3.heap.size] (w3.alloc (.cells zS.cells 32)) W → Sn W b w3.heap.size S1 P1 ∧ IsDice W b v L n3 ∧ Mods [] w3 W) := Lib.hid (fun W R M => Sn.made hz2 IS1 OP1 D3 R M)
        clear IS1 VS1 OP1 PL1 SN1 D3 M3 HM2 HB2 HD2
        go_wp2_with (first | (refine wpList_load_sen rfl (.tmp 8) rfl HB4.out (by rfl) ?_) | (refine wpList_store_row (cs := S1.cells) rfl 32 (.tmp 8) (.tmp 43) rfl (heap_alloc_new w3 _) (by rfl) (by rfl) (by rfl) (Sen.infoS _) (Sen.one _ hone1.out) ?_; intro w4 R4 M4; have HA4 := Lib.hid (HA.out w4 R4 M4); have HB4 := Lib.hid HA4.out.1.box; clear M4 R4))
        clear HA
        have HB0' := Lib.hid (HB3.out.mods0 HA4.out.2.2)
        have HM4 := Lib.hid (HM3.out.trans HA4.out.2.2)
        have HD4 := Lib.hid (HA4.out.2.1.drewN 1)
        have HS4 := Lib.hid HA4.out.1
        have hz4 : b < w4.heap.size := HD4.out.lt
        generalize w3.heap.size = gA at HS4 HA4 HB4 ⊢
        have hgA := HS4.out.gb
        clear HA4 HB3 HB4 HM3
        try dsimp only [Act.put]
        refine heldStart (S := fun W => W.heap[g0]? = some (.cells S0.cells 32 (0, 0)) ∧ W.heap[gA]? = some (.cells S1.cells 32 (0, 0))) 7 rfl (by kernel_rfl) ⟨HB0'.out.blk, HS4.out.box.blk⟩ (fun hHeld => ?_)
        refine takeD (i := 0) (d := 44) (v := .agg S0.cells) rfl rfl (by kernel_rfl) (by kernel_rfl) (by kernel_rfl) (fun _ _ _ h => h) (yieldsIf_load_row rfl 32 (.tmp 3) rfl g0 rfl 32 S0.cells (0, 0) _ (fun w h=>h.1) Try.underlying32 rfl S0.infoS) hHeld ?_
        simp only [List.setIfInBounds_toArray, List.set_cons_zero, List.set_cons_succ]
        refine takeD (i := 1) (d := 45) (v := .agg S1.cells) rfl rfl (by kernel_rfl) (by kernel_rfl) (by kernel_rfl) (fun _ _ _ h => h) (yieldsIf_load_row rfl 32 (.tmp 8) rfl gA rfl 32 S1.cells (0, 0) _ (fun w h=>h.2) Try.underlying32 rfl S1.infoS) hHeld ?_
        simp only [List.setIfInBounds_toArray, List.set_cons_zero, List.set_cons_succ]
        refine takeD (i := 2) (d := 46) (v := ?_) rfl rfl (by kernel_rfl) (by kernel_rfl) (by kernel_rfl) (fun _ _ _ h => h) (Or.inl ⟨by rfl, ?_⟩) hHeld ?_
        rotate_left 1
        · (intro w hSw; (try dsimp only at hSw); go_simp; (try with_reducible rfl))
        simp only [List.setIfInBounds_toArray, List.set_cons_zero, List.set_cons_succ]
        refine takeD (i := 6) (d := 50) (v := ?_) rfl rfl (by kernel_rfl) (by kernel_rfl) (by kernel_rfl) (fun _ _ _ h => h) (Or.inl ⟨by rfl, ?_⟩) hHeld ?_
        rotate_left 1
        · (intro w hSw; (try dsimp only at hSw); go_simp; (try with_reducible rfl))
        simp only [List.setIfInBounds_toArray, List.set_cons_zero, List.set_cons_succ]
        refine wpAnyH_ready (rs := [3]) (by kernel_rfl) (by simp) ?_
        refine AllReadyH.cons rfl (fun K hK => ?_) AllReadyH.nil
        go_simp
        go_wp2_with (go_at_call 15; refine (oddSensor_ok _ b v L n3 HD4.out).mono ?_; rintro e w5 ⟨S2, P2, n5, rfl, IS2, OP2, PL2, D5, M5⟩)
        refine hK.out _ _ ?_ (fun hHeld => ?_)
        · exact ⟨M5.heap hHeld.1 (by simp;omega), M5.heap hHeld.2 (by simpa using hgA)⟩
        clear hK K
        have HS5 := Lib.hid ((HS4.out.mods0 (Mods.refl.drewN 1)).dice M5)
        have HI2 := Lib.hid IS2
        have HM5 := Lib.hid ((HM4.out.drewN 1).comp M5 (fun q hq => by simp at hq; subst hq; exact .inr HWB.out))
        have HI0 := Lib.hid ((HI.out.is (by omega) (by omega)).mods0 HM5.out)
        have HD5 := Lib.hid D5
        clear D5 M5 IS2 OP2
        refine wpAnyH_ready (rs := [4]) (by kernel_rfl) (by simp) ?_
        refine AllReadyH.cons rfl (fun K hK => ?_) AllReadyH.nil
        rw [if_pos (by rfl)]
        refine wp_three (.tmp 44) (.tmp 45) (.tmp 47) rfl 48 rfl S0 S1 S2 rfl rfl rfl ?_
        intro cells hcells
        refine hK.out _ _ ?_ (fun hHeld => ?_)
        · exact ⟨heap_alloc hHeld.1, heap_alloc hHeld.2⟩
        clear hK K
        simp only [List.setIfInBounds_toArray, List.set_cons_zero, List.set_cons_succ]
        refine takeD (i := 5) (d := 49) (v := ?_) rfl rfl (by kernel_rfl) (by kernel_rfl) (by kernel_rfl) (fun _ _ _ h => h) (Or.inl ⟨by rfl, ?_⟩) hHeld ?_
        rotate_left 1
        · (intro w hSw; (try dsimp only at hSw); go_simp; (try with_reducible rfl))
        simp only [List.setIfInBounds_toArray, List.set_cons_zero, List.set_cons_succ]
        refine wpAnyH_done (by kernel_rfl) ?_ _
        have M6 := (Mods.refl (S := []) (w := w5)).alloc (.cells cells 32)
        have HI0 := Lib.hid (HI0.out.mods0 M6)
        have HS6 := Lib.hid (HS5.out.mods0 M6)
        have HI2 := Lib.hid (HI2.out.mods0 M6)
        have HM6 := Lib.hid (HM5.out.trans M6)
        have HD6 := Lib.hid (HD5.out.mods0 M6)
        have HR6 := Lib.hid (heap_alloc_new w5 (.cells cells 32))
        generalize w5.alloc (.cells cells 32) = w6 at HI0 HS6 HI2 HM6 HD6 HR6 ⊢
        generalize w5.heap.size = gx at HR6 ⊢
        clear M6 hHeld HM5 HM4 HD4 HD5 HB0 HB0' HS4 HS5 BB M0 HI HLM HV HLL HL
        have HSQ : Hid (∀ q, q < 3 → ∃ S P, IsSen w6 S P ∧ ∀ j, j < 28 → cells[q * 28 + j]? = S.cells[j]?) := Lib.hid (fun q hq => by
          match q, hq with
          | 0, _ => exact ⟨S0, P0, HI0.out, fun j hj => (hcells j hj).1⟩
          | 1, _ => exact ⟨S1, P1, HS6.out.sen, fun j hj => (hcells j hj).2.1⟩
          | 2, _ => exact ⟨S2, P2, HI2.out, fun j hj => (hcells j hj).2.2⟩)
        clear hcells HI0 HI2
        go_wp2_with fail
        go_loopw [50] (fun i wr => ∃ q : Nat, q ≤ 3 ∧ i = .int .i64 q ∧ Mods [] w6 wr) (fun i _ => 3 - (intOf i).toNat)
        case atStart => exact ⟨0, by omega, rfl, Mods.refl⟩
        case round =>
          obtain ⟨q, hq, rfl, M⟩ := hrel
          by_cases hq3 : q < 3
          · obtain ⟨S, P, IS, hg⟩ := HSQ.out q hq3
            have hone := Lib.hid IS.conv.rd.one
            have HIS := Lib.hid (IS.mods0 M)
            have HRG := Lib.hid (show wr.rangeAt gx (q * 28) S.cells.toList from fun j u hu => by
              have hj : j < 28 := (List.getElem?_eq_some_iff.1 hu).1
              have h4 : w6.cell? ⟨gx, q * 28 + j, none⟩ = some u := by rw [cell_blk HR6.out, hg j hj, ← hu]; simp
              exact M.cell h4 (by simp))
            have HM := Lib.hid M
            have i1 : (0 : Int) ≤ (q : Int) := by omega
            have i2 : (q : Int) < 3 := by omega
            clear M IS hg
            go_wp2_with (first
              | (refine wpList_load_sen rfl (.tmp 10) rfl HB7.out (by rfl) ?_)
              | (refine wpList_store_row (cs := S.cells) rfl 32 (.tmp 10) (.tmp 53) rfl (heap_alloc_new wr _) (by rfl) (by rfl) (by rfl) (Sen.infoS _) (Sen.one _ hone.out) ?_; intro w7 R7 M7; have HB7 := Lib.hid (show SenBox w7 wr.heap.size S from ⟨R7⟩); have HF7 := Lib.hid (fresh M7); clear R7 M7)
              | (refine wpList_load_mid rfl 32 (.tmp 52) rfl gx (q * 28) (by rfl) S.cells.toList _ HRG.out Try.underlying32 rfl (Sen.infoS S) ?_))
            have HI7 := Lib.hid (HIS.out.mods0 HF7.out)
            have HM7 := Lib.hid (HM.out.trans HF7.out)
            refine (encodeS_ok w7 S P HI7.out).mono ?_
            rintro e w8 h8
            obtain ⟨v8, rfl, O8, M8⟩ := encAny h8
            have HO8 := Lib.hid O8
            have HB8 := Lib.hid (HB7.out.mods0 M8)
            have HI8 := Lib.hid (HI7.out.mods0 M8)
            have HM8 := Lib.hid (HM7.out.trans M8)
            clear O8 M8 h8 HB7 HI7 HM7
            go_wp2_with (refine wpList_load_sen rfl (.tmp 10) rfl HB8.out (by rfl) ?_)
            refine (refEncS_ok w8 S P HI8.out).mono ?_
            rintro e w9 h9
            obtain ⟨v9, rfl, O9, M9⟩ := encAny h9
            have HO9 := Lib.hid O9
            have HO8 := Lib.hid (HO8.out.mods0 M9)
            have HM9 := Lib.hid (HM8.out.trans M9)
            clear O9 M9 h9 HM8
            generalize encE (validB S P) = ee at *
            have ee1 : (ee != ee) = false := by simp
            generalize encA (validB S P) (seal8 (senL S P)) = X0 at *
            have HS1 := Lib.hid (same_ok w9 v8 v9 X0 X0 HO8.out.rd HO9.out.rd)
            rw [beq_self_eq_true] at HS1
            go_wp2_with fail
            refine HS1.out.mono ?_
            rintro e wa ⟨rfl, n9, hw9⟩
            have HMa : Hid (Mods [] w6 wa) := Lib.hid (by rw [hw9]; exact HM9.out.drewN _)
            clear hw9 HS1
            go_wp2_with fail
            go_roundw
            case rel => exact ⟨q + 1, by omega, by go_num, HMa.out⟩
            case measure => simp [intOf]; omega
          · have HX := Lib.hid (HM6.out.trans M)
            have HS7 := Lib.hid (HS6.out.mods0 M)
            have HD7 := Lib.hid (HD6.out.mods0 M)
            clear M HM6 HS6 HD6 HSQ HR6
            generalize wr = w7 at HX HS7 HD7 ⊢
            go_wp2_with (refine wpList_load_sen rfl (.tmp 8) rfl HS7.out.box (by rfl) ?_)
            refine (refEncS_ok w7 S1 P1 HS7.out.sen).mono ?_
            rintro e w8 h8
            have hb7 : b < w7.heap.size := HD7.out.lt
            rw [HVS.out] at h8
            unfold EncRes at h8
            rw [if_pos rfl] at h8
            obtain ⟨u, rfl, O8, M8⟩ := h8
            have hlen := senL_len HVS.out
            have HAB := Lib.hid (senL_bytes HS7.out.sen HVS.out).1
            have HGB := Lib.hid (seal8_bytes HAB.out)
            have hsl : (seal8 (senL S1 P1)).length = (senL S1 P1).length + 1 := by simp [seal8]
            have HTK := Lib.hid (show (seal8 (senL S1 P1)).take (senL S1 P1).length = senL S1 P1 by simp [seal8])
            obtain ⟨gG, cG, cur, hu, hgc, hc1, hc2, hc3, hc4⟩ := owns_form O8 (by rw [u8s_length]; omega)
            rw [u8s_length, hsl] at hu
            rw [u8s_length, hsl] at hc1
            subst hu
            have HG8 := Lib.hid (show OwnB w8 w7.heap.size (.slice (some ⟨gG, 0, none⟩) ((senL S1 P1).length + 1) cG) (seal8 (senL S1 P1)) from O8)
            have HX8 := Lib.hid (HX.out.trans M8)
            have HD8 := Lib.hid (HD7.out.mods0 M8)
            clear O8 M8 hgc hc3 hc4 HS7 HX HD7
            have HGL := Lib.hid hsl
            clear hsl
            generalize hA : senL S1 P1 = A at HAB HGB HTK HG8 HGL hlen hc1 ⊢
            clear hA
            generalize seal8 A = G at HGB HTK HG8 HGL
            have hcG : cG ≤ 9223372036854775807 := hc2
            have z0 : (0 : Int) ≤ (A.length : Int) := by omega
            have z1 : (A.length : Int) ≤ (cG : Int) := by omega
            clear hc2
            have HRA := Lib.hid (show Rd w8 (.slice (some ⟨gG, 0, none⟩) A.length cG) (u8s A) from by have := HG8.out.rd.take A.length (by rw [HGL.out]; omega); rwa [HTK.out] at this)
            go_wp2_with (at_builtin; refine wpList_appB (by rfl) (.const (.slice none 0 0)) (.tmp 83) rfl (v := .slice none 0 0) (by rfl) (OwnB.nil w8 w8.heap.size) (by rfl) HRA.out (by simp; omega) (Nat.le_refl _) ?_; intro v9 w9 O9 M9; obtain ⟨gb, capb, cb, hvb, -, hcb1, hcb2, -, -⟩ := owns_form (show OwnB w9 w8.heap.size v9 A from O9) (by rw [u8s_length]; omega); rw [u8s_length] at hvb hcb1; subst hvb; have hcb3 : capb ≤ 9223372036854775807 := hcb2; have HO9 := Lib.hid (show OwnB w9 w8.heap.size _ A from O9); have HM9 := Lib.hid (show Mods [] w8 w9 from M9.mono (by simp [Value.ownBlock])); clear O9 M9)
            have HX9 := Lib.hid (HX8.out.trans HM9.out)
            have HD9 := Lib.hid (HD8.out.mods0 HM9.out)
            have HG9 := Lib.hid (HG8.out.mods0 HM9.out)
            have hgb9 : w8.heap.size ≤ gb := (HO9.out.lt gb rfl).1
            have hb8 : b < w8.heap.size := HD8.out.lt
            have hw8 : w.heap.size ≤ w8.heap.size := HX8.out.size
            have hgG : gG < w8.heap.size := (HG8.out.lt gG rfl).2
            have hgGb : gG ≠ b := by have := (HG8.out.lt gG rfl).1; omega
            have hz9 := HM9.out.size
            clear HX8 HD8 HG8 HRA HM9 z0 z1
            clear hHeld HI2 HI0 hgA hz4 hz2 HMB
            refine (next_ok w9 b v L _ HD9.out (A.length : Int) (by omega) (by omega)).mono ?_
            rintro e wa ⟨k', na, rfl, k0, k1, Da, Ma⟩
            obtain ⟨k, rfl⟩ := Int.eq_ofNat_of_zero_le k0
            have HOa := Lib.hid (HO9.out.mods Ma (fun q hq hm => by simp [Value.ownBlock] at hq; simp at hm; omega))
            have HGa := Lib.hid (HG9.out.mods Ma (fun q hq hm => by simp [Value.ownBlock] at hq; simp at hm; omega))
            have HXa := Lib.hid (HX9.out.comp Ma (fun q hq => by simp at hq; subst hq; exact .inr HWB.out))
            have HDa := Lib.hid Da
            have hza := Nat.le_trans hz9 Ma.size
            clear Da Ma HO9 HG9 HX9 HD9
            go_wp2_with fail
            refine (byte_ok wa b v L na HDa.out).mono ?_
            rintro e wb ⟨y, nb, rfl, y0, y1, Db, Mb⟩
            have HOb := Lib.hid (HOa.out.mods Mb (fun q hq hm => by simp [Value.ownBlock] at hq; simp at hm; omega))
            have HGb := Lib.hid (HGa.out.mods Mb (fun q hq hm => by simp [Value.ownBlock] at hq; simp at hm; omega))
            have HXb := Lib.hid (HXa.out.comp Mb (fun q hq => by simp at hq; subst hq; exact .inr HWB.out))
            have hzb := Nat.le_trans hza Mb.size
            have hk : k < A.length := by omega
            obtain ⟨OS, cB, hcB, hcBs⟩ := HOb.out.set hk y
            have cx : wb.cell? ⟨gb, k, none⟩ = some (cB[k]'hcBs) := (cell_blk hcB k).trans (Array.getElem?_eq_getElem hcBs)
            have fx : wb.frozen? ⟨gb, k, none⟩ = false := froz_blk hcB k
            have MS := (Mods.refl (S := [gb]) (w := wb)).setCell (p := ⟨gb, k, none⟩) (.inl (by simp)) (.int .u8 y)
            have HOc := Lib.hid OS
            have hzc := Nat.le_trans hzb MS.size
            have HGc := Lib.hid (HGb.out.mods MS (fun q hq hm => by simp [Value.ownBlock] at hq; simp at hm; omega))
            have HXc := Lib.hid (HXb.out.comp MS (fun q hq => by simp at hq; subst hq; exact .inr (by omega)))
            have HDc := Lib.hid (Db.mods MS (by simp; omega) (fun hl q hq hm => by simp at hm; have := HVO.out hl q hq; omega))
            have HCB := Lib.hid (HAB.out.set k (show 0 ≤ y ∧ y ≤ 255 from ⟨y0, y1⟩))
            have HCL := Lib.hid (show (A.set k y).length = A.length from List.length_set)
            clear Db Mb OS MS hcB HOa HGa HXa HDa HOb HGb HXb
            go_wp2_with fail
            clear cx fx
            generalize wb.setCell ⟨gb, k, none⟩ (.int .u8 y) = wc at HOc HGc HXc HDc hzc ⊢
            clear hz9 hza hzb
            generalize A.set k y = C at HOc HCB HCL
            refine (bool_ok wc b v L _ HDc.out 3 (by omega) (by omega)).mono ?_
            rintro e wd ⟨r, nd, rfl, Dd, Md⟩
            have HOd := Lib.hid (HOc.out.mods Md (fun q hq hm => by simp [Value.ownBlock] at hq; simp at hm; omega))
            have HGd := Lib.hid (HGc.out.mods Md (fun q hq hm => by simp [Value.ownBlock] at hq; simp at hm; omega))
            have HXd := Lib.hid (HXc.out.comp Md (fun q hq => by simp at hq; subst hq; exact .inr HWB.out))
            have HDd := Lib.hid Dd
            have hzd := Nat.le_trans hzc Md.size
            clear Dd Md HOc HGc HXc HDc
            go_upto_if 94 with (fail)
            go_cut [17] (fun u wx => ∃ T : List Int, OwnB wx w8.heap.size u T ∧ Bytes T ∧ T.length ≤ 123 ∧ (∃ j, IsDice wx b v L j) ∧ Mods [b] wd wx)
            case first =>
              cases r with
              | false =>
                go_wp2_with fail
                go_meet
                exact ⟨C, HOd.out, HCB.out, by rw [HCL.out]; omega, ⟨_, HDd.out⟩, Mods.refl⟩
              | true =>
                go_wp2_with fail
                refine (next_ok wd b v L _ HDd.out ((A.length : Int) + 1) (by omega) (by omega)).mono ?_
                rintro e we ⟨t', ne, rfl, t0, t1, De, Me⟩
                obtain ⟨t, rfl⟩ := Int.eq_ofNat_of_zero_le t0
                have t2 : (t : Int) ≤ (capb : Int) := by omega
                have htC : t ≤ C.length := by rw [HCL.out]; omega
                have HOe := Lib.hid (HOd.out.mods Me (fun q hq hm => by simp [Value.ownBlock] at hq; simp at hm; omega))
                have HCT := Lib.hid (show (C.take t).length ≤ 123 by rw [List.length_take]; omega)
                have HTT := Lib.hid (show OwnB we w8.heap.size (.slice (some ⟨gb, 0, none⟩) t capb) (C.take t) from by have h := HOe.out; rw [← HCL.out] at h; exact h.take t htC)
                have HDE := Lib.hid De
                have HME := Lib.hid Me
                clear De Me
                go_wp2_with fail
                go_meet
                exact ⟨C.take t, HTT.out, HCB.out.take t, HCT.out, ⟨_, HDE.out⟩, HME.out⟩
            case rest =>
              obtain ⟨T, hO, hB, hL, ⟨je, hD⟩, hM⟩ := hcut
              have HOf := Lib.hid hO
              have HTB := Lib.hid hB
              have HDf := Lib.hid hD
              have hzf := Nat.le_trans hzd hM.size
              have HGf := Lib.hid (HGd.out.mods hM (fun q hq hm => by simp [Value.ownBlock] at hq; simp at hm; omega))
              have HXf := Lib.hid (HXd.out.comp hM (fun q hq => by simp at hq; subst hq; exact .inr HWB.out))
              clear hO hB hD hM HOd HGd HXd HDd HCB HCL
              generalize wc = wf at HOf HGf HXf HDf hzf ⊢
              clear hzc hzd
              clear r
              go_wp2_with fail
              refine (bool_ok wf b v L _ HDf.out 4 (by omega) (by omega)).mono ?_
              rintro e wg ⟨r, ng, rfl, Dg, Mg⟩
              have HOg := Lib.hid (HOf.out.mods Mg (fun q hq hm => by have := (HOf.out.lt q hq).1; simp at hm; omega))
              have HGg := Lib.hid (HGf.out.mods Mg (fun q hq hm => by simp [Value.ownBlock] at hq; simp at hm; omega))
              have HXg := Lib.hid (HXf.out.comp Mg (fun q hq => by simp at hq; subst hq; exact .inr HWB.out))
              have HDg := Lib.hid Dg
              have hwg : w8.heap.size ≤ wg.heap.size := Nat.le_trans hzf Mg.size
              clear hzf
              clear Dg Mg HOf HGf HXf HDf
              go_upto_if 103 with (fail)
              go_cut [17] (fun u wx => ∃ U : List Int, OwnB wx w8.heap.size u U ∧ Bytes U ∧ U.length ≤ 200 ∧ OwnB wx w7.heap.size (.slice (some ⟨gG, 0, none⟩) (A.length + 1) cG) G ∧ Mods [] w wx)
              case first =>
                cases r with
                | false =>
                  go_wp2_with fail
                  go_meet
                  exact ⟨T, HOg.out, HTB.out, by omega, HGg.out, HXg.out⟩
                | true =>
                  go_wp2_with fail
                  refine (bytesM_ok wg b v L _ HDg.out 2 (by omega)).mono ?_
                  rintro e wh ⟨u2, U2, nh, rfl, Oh, hU2, lU2, Dh, Mh⟩
                  have HOh := Lib.hid (HOg.out.mods Mh (fun q hq hm => by have := (HOg.out.lt q hq).1; simp at hm; omega))
                  have HGh := Lib.hid (HGg.out.mods Mh (fun q hq hm => by simp [Value.ownBlock] at hq; simp at hm; omega))
                  have HXh := Lib.hid (HXg.out.comp Mh (fun q hq => by simp at hq; subst hq; exact .inr HWB.out))
                  have HU2 := Lib.hid Oh.rd
                  have HB2 := Lib.hid hU2
                  have hwh : w8.heap.size ≤ wh.heap.size := Nat.le_trans hwg Mh.size
                  clear Oh Dh Mh hU2
                  go_wp2_with (at_builtin; refine wpList_appB (by rfl) (.tmp 104) (.tmp 106) rfl (v := u17) (by rfl) HOh.out (by rfl) HU2.out (by omega) hwh ?_; intro v9 wi O9 M9; have HO9 := Lib.hid O9; have HM9 := Lib.hid M9; clear O9 M9)
                  go_meet
                  refine ⟨T ++ U2, HO9.out, HTB.out.app HB2.out, by rw [List.length_append]; omega, ?_, ?_⟩
                  · exact HGh.out.mods HM9.out (fun q hq hm => by have := HOh.out.back hm; simp [Value.ownBlock] at hq; omega)
                  · exact HXh.out.comp HM9.out (fun q hq => .inr (by have := HOh.out.back hq; omega))
              case rest =>
                obtain ⟨U, hO, hB, hLU, hG, hX⟩ := hcut
                have HOU := Lib.hid hO
                have HUB := Lib.hid hB
                have HGU := Lib.hid hG
                have HXU := Lib.hid hX
                clear hO hB hG hX HOg HGg HXg HDg HTB
                obtain ⟨au, cu, rfl⟩ := HOU.out.rd.len
                rw [u8s_length] at HOU ⊢
                generalize wc = wu at HOU HGU HXU ⊢
                go_wp2_with fail
                refine (refSeal8_ok wu _ U HOU.out.rd HUB.out (by omega)).mono ?_
                rintro e wv ⟨v3, rfl, O3, M3⟩
                have HO3 := Lib.hid (show OwnB wv wu.heap.size v3 (seal8 U) from O3)
                have HOV := Lib.hid (HOU.out.mods0 M3)
                have HGV := Lib.hid (HGU.out.mods0 M3)
                have HXV := Lib.hid (HXU.out.trans M3)
                clear O3 M3 HOU HGU HXU
                go_wp2_with fail
                refine (refSeal8_ok wv _ R (HVR.out.mods0 HXV.out) HBR.out (by omega)).mono ?_
                rintro e ww ⟨v4, rfl, O4, M4⟩
                have HO4 := Lib.hid (show OwnB ww wv.heap.size v4 (seal8 R) from O4)
                have HO3 := Lib.hid (HO3.out.mods0 M4)
                have HOW := Lib.hid (HOV.out.mods0 M4)
                have HGW := Lib.hid (HGV.out.mods0 M4)
                have HXW := Lib.hid (HXV.out.trans M4)
                clear O4 M4 HOV HGV HXV
                obtain ⟨a3, c3, hv3⟩ := HO3.out.rd.len
                obtain ⟨a4, c4, hv4⟩ := HO4.out.rd.len
                rw [u8s_length] at hv3 hv4
                have l3 : (seal8 U).length ≤ 1000 := by unfold seal8; simp; omega
                have l4 : (seal8 R).length ≤ 1000 := by unfold seal8; simp; omega
                have HB3 := Lib.hid (seal8_bytes HUB.out)
                have HB4 := Lib.hid (seal8_bytes HBR.out)
                subst hv3 hv4
                generalize seal8 U = V3 at HO3 l3 HB3 ⊢
                generalize seal8 R = V4 at HO4 l4 HB4 ⊢
                go_wp2_with fail
                have R13 := heap_alloc_new ww (.cells #[.slice adr R.length capr, .slice (some ⟨gG, 0, none⟩) (A.length + 1) cG, .slice a3 V3.length c3, .slice a4 V4.length c4, .slice au U.length cu] 33)
                have M13 := (Mods.refl (S := []) (w := ww)).alloc (.cells #[.slice adr R.length capr, .slice (some ⟨gG, 0, none⟩) (A.length + 1) cG, .slice a3 V3.length c3, .slice a4 V4.length c4, .slice au U.length cu] 33)
                have HM13 := Lib.hid (HXW.out.trans M13)
                have HSQ : Hid (∀ q, q < 5 → ∃ ad n cap X, (ww.alloc (.cells #[.slice adr R.length capr, .slice (some ⟨gG, 0, none⟩) (A.length + 1) cG, .slice a3 V3.length c3, .slice a4 V4.length c4, .slice au U.length cu] 33)).cell? ⟨ww.heap.size, q, none⟩ = some (.slice ad n cap) ∧ Rd (ww.alloc (.cells #[.slice adr R.length capr, .slice (some ⟨gG, 0, none⟩) (A.length + 1) cG, .slice a3 V3.length c3, .slice a4 V4.length c4, .slice au U.length cu] 33)) (.slice ad n cap) (u8s X) ∧ Bytes X ∧ X.length ≤ 1000) := Lib.hid (fun q hq => by
                  match q, hq with
                  | 0, _ => exact ⟨_, _, _, R, (cell_blk R13 0).trans rfl, (HVR.out.mods0 HXW.out).mods0 M13, HBR.out, by omega⟩
                  | 1, _ => exact ⟨_, _, _, G, (cell_blk R13 1).trans rfl, HGW.out.rd.mods0 M13, HGB.out, by rw [HGL.out]; omega⟩
                  | 2, _ => exact ⟨_, _, _, V3, (cell_blk R13 2).trans rfl, HO3.out.rd.mods0 M13, HB3.out, l3⟩
                  | 3, _ => exact ⟨_, _, _, V4, (cell_blk R13 3).trans rfl, HO4.out.rd.mods0 M13, HB4.out, l4⟩
                  | 4, _ => exact ⟨_, _, _, U, (cell_blk R13 4).trans rfl, HOW.out.rd.mods0 M13, HUB.out, by omega⟩)
                clear R13 M13 HO3 HO4 HOW HGW HXW HB3 HB4
                generalize ww.alloc (.cells #[.slice adr R.length capr, .slice (some ⟨gG, 0, none⟩) (A.length + 1) cG, .slice a3 V3.length c3, .slice a4 V4.length c4, .slice au U.length cu] 33) = w13 at HM13 HSQ ⊢
                generalize ww.heap.size = gx at HSQ ⊢
                go_loopw [117] (fun i wr => ∃ q : Nat, q ≤ 5 ∧ i = .int .i64 q ∧ Mods [] w13 wr) (fun i _ => 5 - (intOf i).toNat)
                case atStart => exact ⟨0, by omega, rfl, Mods.refl⟩
                case round =>
                  obtain ⟨q, hq, rfl, M⟩ := hrel
                  by_cases hq5 : q < 5
                  · obtain ⟨ad, n, cap, X, hcx, hrx, hbx, hlx⟩ := HSQ.out q hq5
                    have hc := M.cell hcx (by simp)
                    have HRX := Lib.hid (hrx.mods0 M)
                    have HBX := Lib.hid hbx
                    have HM := Lib.hid M
                    have j1 : (0 : Int) ≤ (q : Int) := by omega
                    have j2 : (q : Int) < 5 := by omega
                    clear M hcx hrx hbx
                    go_wp2_with fail
                    refine (senDec_ok _ _ X HRX.out HBX.out (by omega)).mono ?_
                    rintro e w15 h15
                    obtain ⟨pa, rfl, I15, M15⟩ := sdecAny HBX.out h15
                    have HI15 := Lib.hid I15
                    have HM15 := Lib.hid M15
                    have hone15 := Lib.hid (Sen.one ((resS X).with pa) I15.rd.one)
                    clear I15 M15 h15
                    go_wp2_with (refine wpList_store_row (cs := ((resS X).with pa).cells) rfl 32 (.tmp 20) (.tmp 124) rfl (heap_alloc_new w15 _) (by rfl) (by rfl) (by rfl) (Sen.infoS _) hone15.out ?_; intro w16 R16 M16; have HR16 := Lib.hid R16; have HF16 := Lib.hid (fresh M16); clear R16 M16)
                    refine (refSenDec_ok _ _ X ((HRX.out.mods0 HM15.out).mods0 HF16.out) HBX.out (by omega)).mono ?_
                    rintro e w17 h17
                    obtain ⟨pb, rfl, I17, M17⟩ := sdecAny HBX.out h17
                    have HM17 := Lib.hid M17
                    have hone17 := Lib.hid (Sen.one ((resS X).with pb) I17.rd.one)
                    have HR17 := Lib.hid (M17.heap HR16.out (by simp))
                    have HQ17 := Lib.hid ((HI15.out.mods0 HF16.out).mods0 M17)
                    have HSM := Lib.hid (fun W (M : Mods [] w17 W) => refSame10_ok W (resS X) (resSP X) pa pb (HQ17.out.mods0 M) (I17.mods0 M))
                    clear I17 M17 h17 HR16 HI15
                    generalize w15.heap.size = g21 at HR17 ⊢
                    generalize (resS X).with pa = C1 at *
                    generalize (resS X).with pb = C2 at *
                    generalize errS X = ec at *
                    have e1 : (ec != ec) = false := by simp
                    go_wp2_with (first
                      | (refine wpList_step (fun K hK => ?_); rw [if_pos (by rfl)]; refine wp_load_row _ (.tmp 20) rfl g21 rfl _ _ _ _ HQ18.out Try.underlying32 rfl (Sen.infoS C1) (hK _ _ ?_))
                      | (refine wpList_step (fun K hK => ?_); rw [if_pos (by rfl)]; refine wp_load_row _ (.tmp 22) rfl w17.heap.size rfl _ _ _ _ HR18.out Try.underlying32 rfl (Sen.infoS C2) (hK _ _ ?_))
                      | (refine wpList_store_row (cs := C2.cells) rfl 32 (.tmp 22) (.tmp 129) rfl (heap_alloc_new w17 _) (by rfl) (by rfl) (by rfl) (Sen.infoS _) hone17.out ?_; intro w18 R18 M18; have HR18 := Lib.hid R18; have HF18 := Lib.hid (fresh M18); have HQ18 := Lib.hid ((fresh M18).heap HR17.out (by simp)); clear R18 M18))
                    refine (HSM.out _ HF18.out).mono ?_
                    rintro e w19 ⟨rfl, M19⟩
                    have HMX := Lib.hid (((((HM.out.trans HM15.out).trans HF16.out).trans HM17.out).trans HF18.out).trans M19)
                    clear M19
                    go_wp2_with fail
                    go_roundw
                    case rel => exact ⟨q + 1, by omega, by go_num, HMX.out⟩
                    case measure => simp [intOf]; omega
                  · have HMX := Lib.hid (HM13.out.trans M)
                    clear M
                    go_wp2_with fail
                    refine (awakeS_ok _).mono ?_
                    rintro e w20 ⟨rfl, M20⟩
                    have HZ := Lib.hid (HMX.out.trans M20)
                    clear M20
                    go_wp2
                    go_ret
                    exact ⟨rfl, HZ.out⟩
      · have HLL := Lib.hid (decide_eq_false hl)
        have HLM := Lib.hid (fun W (M : Mods [] w W) => light_ok W v L (HV.out.mods0 M))
        go_enter Try.func3, Try.ntmps3
        go_wp2_with (refine wpList_load_sen rfl (.tmp 3) rfl BB.out (by rfl) ?_)
        refine (sLight_ok _ S0 P0 (HI.out.mods0 M0.out)).mono ?_
        rw [HLT.out]
        rintro e w0 ⟨rfl, Mx⟩
        have HX := Lib.hid (M0.out.trans Mx)
        have HB0 := Lib.hid (BB.out.mods0 Mx)
        clear Mx
        go_wp2_with fail
        refine (HLM.out _ HX.out).mono ?_
        rw [HLL.out]
        rintro e w' ⟨rfl, rfl⟩
        go_wp2_with fail
        refine (awakeS_ok _).mono ?_
        rintro e w1 ⟨rfl, M1⟩
        go_wp2
        go_ret
        exact ⟨rfl, HX.out.trans M1⟩
    · have dr : decide ((R.length : Int) > 300) = true := decide_eq_true (by omega)
      go_enter Try.func3, Try.ntmps3
      go_wp2_with (refine wpList_load_sen rfl (.tmp 3) rfl BB.out (by rfl) ?_)
      refine (sLight_ok _ S0 P0 (HI.out.mods0 M0.out)).mono ?_
      rw [HLT.out]
      rintro e w0 ⟨rfl, Mx⟩
      have HX := Lib.hid (M0.out.trans Mx)
      have HB0 := Lib.hid (BB.out.mods0 Mx)
      clear Mx
      go_wp2_with fail
      refine (awakeS_ok _).mono ?_
      rintro e w1 ⟨rfl, M1⟩
      go_wp2
      go_ret
      exact ⟨rfl, HX.out.trans M1⟩
  · have HLT := Lib.hid (show (decide (S0.name.size ≤ 100) && decide (P0.length ≤ 40)) = false by
      by_cases h : S0.name.size ≤ 100
      · rw [decide_eq_false (fun h2 => hl0 ⟨h, h2⟩), Bool.and_false]
      · rw [decide_eq_false h, Bool.false_and])
    go_enter Try.func3, Try.ntmps3
    go_wp2_with (refine wpList_load_sen rfl (.tmp 3) rfl BB.out (by rfl) ?_)
    refine (sLight_ok _ S0 P0 (HI.out.mods0 M0.out)).mono ?_
    rw [HLT.out]
    rintro e w0 ⟨rfl, Mx⟩
    have HX := Lib.hid (M0.out.trans Mx)
    have HB0 := Lib.hid (BB.out.mods0 Mx)
    clear Mx
    go_wp2_with fail
    refine (awakeS_ok _).mono ?_
    rintro e w1 ⟨rfl, M1⟩
    go_wp2
    go_ret
    exact ⟨rfl, HX.out.trans M1⟩
end Go.Proofs.Ytijjkonephjodaa
