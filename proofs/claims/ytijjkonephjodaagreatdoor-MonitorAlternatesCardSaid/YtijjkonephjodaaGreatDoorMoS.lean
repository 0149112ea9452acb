/- Lists of sensors in memory: a kind of element, and what reads as such. -/
import Derived.Test.YtijjkonephjodaaGreatDoorJoAB
import Derived.Test.YtijjkonephjodaaGreatDoorJoAJ
import Derived.Test.YtijjkonephjodaaGreatDoorJoAH
import Derived.Test.YtijjkonephjodaaGreatDoorJoAD
import Derived.Test.YtijjkonephjodaaGreatDoorJoAI
import Derived.BigGuardPart
import Derived.Deep.DeepCutAuto
import Derived.Deep.CutBlock
namespace Go.Proofs.YtijjkonephjodaaGreatDoor
open Go.RowKit
set_option linter.unusedVariables false
set_option linter.unusedSimpArgs false
/-- A sensor and its points. -/
structure SenX where
  S : Sen
  P : List Pt
  one : S.conv.pts.oneCell' = true
instance : Inhabited SenX := ⟨⟨zS, [], rfl⟩⟩
def senE : Elt SenX := ⟨40, 27, 28, fun x => x.S.cells.toList, default⟩
theorem Tryz.infoSe : (Tryz.prog.info? 40).map (fun i => (i.zero, i.size, i.bytes)) = some (some (.agg zS.cells), 28, 136) := by kernel_rfl
theorem SenX.one1 (x : SenX) (v : Value) (hv : v ∈ x.S.cells.toList) : v.oneCell' = true := by
  have h := Sen.one x.S x.one
  rw [Array.all_eq_true_iff_forall_mem] at h
  exact h v (Array.mem_toList_iff.1 hv)
theorem senOk : senE.Ok Tryz.prog := by
  refine ⟨fun _ => rfl, fun a v hv => a.one1 v hv, by decide, Tryz.underlying27, ?_⟩
  obtain ⟨i0, hi, hz0, hz1, hz2⟩ := info_parts Tryz.infoSe
  exact ⟨i0, _, hi, hz0, hz1, by rw [hz2]; decide, rfl⟩
/-- The slice v reads as the sensors l, their numbers in their ranges. -/
structure RdSens (w : World) (v : Value) (l : List SenX) : Prop where
  rd : RdE senE w v l
  is : ∀ i, i < l.length → IsSen w (l.getD i default).S (l.getD i default).P
theorem RdSens.mods0 {w w' : World} {v : Value} {l : List SenX} (h : RdSens w v l) (M : Mods [] w w') : RdSens w' v l := ⟨h.rd.mods0 senOk M, fun i hi => (h.is i hi).mods0 M⟩
theorem RdSens.nil (w : World) : RdSens w (.slice none 0 0) [] := ⟨RdE.nil senE w, fun i hi => by simp at hi⟩
def numS (l : List SenX) (i : Nat) : Nat := (l.getD i default).S.number
/-- The sensor at a place is valid, and its number above the one before. -/
def goodS (l : List SenX) (i : Nat) : Bool := validB (l.getD i default).S (l.getD i default).P && (decide (i = 0) || decide (numS l (i - 1) < numS l i))
/-- What is wrong with a list of sensors. -/
def chkS (l : List SenX) : Int := if 32 < l.length then 3 else if (List.range l.length).all (goodS l) then 0 else 1
theorem chkS_zero {l : List SenX} (h : chkS l = 0) : l.length ≤ 32 ∧ ∀ i, i < l.length → goodS l i = true := by
  unfold chkS at h
  split at h
  · cases h
  · split at h
    · rename_i h1 h2
      rw [List.all_eq_true] at h2
      exact ⟨by omega, fun i hi => h2 i (List.mem_range.2 hi)⟩
    · cases h
theorem goodS_lt {l : List SenX} (h : ∀ i, i < l.length → goodS l i = true) : ∀ j, j < l.length → ∀ i, i < j → numS l i < numS l j
  | 0, _, i, hi => by omega
  | j + 1, hj, i, hi => by
    have h1 := h (j + 1) hj
    unfold goodS at h1
    simp only [Bool.and_eq_true, Bool.or_eq_true, decide_eq_true_eq] at h1
    have h2 : numS l j < numS l (j + 1) := by
      rcases h1.2 with h3 | h3
      · omega
      · exact h3
    rcases Nat.lt_or_ge i j with h4 | h4
    · have := goodS_lt h j (by omega) i h4
      omega
    · rw [show i = j by omega]; exact h2
theorem RdSens.at {w : World} {v : Value} {l : List SenX} (h : RdSens w v l) (hl : 0 < l.length) : ∃ bb off cap, v = .slice (some ⟨bb, off, none⟩) l.length cap ∧ l.length ≤ cap ∧ cap ≤ 9223372036854775807 := by
  obtain ⟨bb, off, cap, h1, h2, h3, _⟩ := h.rd.at hl
  exact ⟨bb, off, cap, h1, h2, h3⟩
theorem RdSens.range {w : World} {bb off cap : Nat} {l : List SenX} (h : RdSens w (.slice (some ⟨bb, off, none⟩) l.length cap) l) {i : Nat} (hi : i < l.length) : w.rangeAt bb (off + i * 28) (l.getD i default).S.cells.toList := h.rd.range hi senOk.len
theorem range_num {w : World} {b o : Nat} {S : Sen} (h : w.rangeAt b o S.cells.toList) : w.cell? ⟨b, o, none⟩ = some (.int .u8 S.number) := by
  have := h 0 _ rfl
  rwa [Nat.add_zero] at this
set_option maxRecDepth 100000 in
set_option maxHeartbeats 4000000 in
theorem chkS_ok (w : World) (v : Value) (l : List SenX) (hv : RdSens w v l) :
    Calls Tryz.prog 43 #[v] w fun e w' => e = .returned (.int .i64 (chkS l)) ∧ Mods [] w w' := by
  obtain ⟨ad, cap, rfl⟩ := hv.rd.len
  have hcap : l.length ≤ 9223372036854775807 := by obtain ⟨_, _, _, h1, h2, _⟩ := hv.rd; exact Nat.le_trans h1 h2
  have HV := Lib.hid hv
  clear hv
  by_cases hl : 32 < l.length
  · have d1 : decide ((32 : Int) < (l.length : Int)) = true := decide_eq_true (by omega)
    have HR := Lib.hid (show chkS l = 3 from by unfold chkS; rw [if_pos hl])
    clear hl
    go_enter Tryz.func43, Tryz.ntmps43
    go_wp2_with fail
    go_ret
    exact ⟨ret_int HR.out.symm, Mods.refl⟩
  · have d1 : decide ((32 : Int) < (l.length : Int)) = false := decide_eq_false (by omega)
    have HL := Lib.hid hl
    have hl32 : ((l.length : Nat) : Int) ≤ 32 := by omega
    clear hl
    go_enter Tryz.func43, Tryz.ntmps43
    go_wp2_with fail
    go_loopw [10] (fun i wr => ∃ k : Nat, k ≤ l.length ∧ i = .int .i64 (k : Nat) ∧ Mods [] w wr ∧ Hid (∀ j, j < k → goodS l j = true)) (fun i _ => l.length - (intOf i).toNat)
    case atStart => exact ⟨0, Nat.zero_le _, rfl, Mods.refl, Lib.hid (fun j hj => by omega)⟩
    case round =>
      obtain ⟨k, hk, rfl, hM, hG⟩ := hrel
      have i0 : (0 : Int) ≤ (k : Int) := by omega
      have HM := Lib.hid hM
      clear hM
      by_cases hlt : k < l.length
      · have i1 : (k : Int) < (l.length : Int) := by omega
        have HK := Lib.hid (HV.out.mods0 HM.out)
        obtain ⟨bb, off, cap', hv2, hc1, hc2⟩ := HK.out.at (by omega)
        injection hv2 with hv3 hv5 hv4
        subst hv3 hv4
        clear hv5
        have HRG := Lib.hid (HK.out.range hlt)
        have HIS := Lib.hid (HK.out.is k hlt)
        have HGK := Lib.hid (show goodS l k = (validB (l.getD k default).S (l.getD k default).P && (decide (k = 0) || decide (numS l (k - 1) < numS l k))) from rfl)
        have HN1 := Lib.hid (show numS l k = (l.getD k default).S.number from rfl)
        have HPV := Lib.hid (fun (W : World) (M : Mods [] wr W) (h0 : 0 < k) => show W.cell? ⟨bb, off + (k - 1) * 28, none⟩ = some (.int .u8 (numS l (k - 1) : Nat)) from range_num ((HK.out.mods0 M).range (show k - 1 < l.length by omega)))
        have HBAD := Lib.hid (fun h : goodS l k = false => show chkS l = 1 from by
          unfold chkS
          rw [if_neg HL.out, if_neg (by
            intro h2
            rw [List.all_eq_true] at h2
            rw [h2 k (List.mem_range.2 hlt)] at h
            cases h)])
        have hone := Lib.hid (l.getD k default).one
        generalize (l.getD k default).P = P at HIS HGK
        generalize (l.getD k default).S = S at HRG HIS HGK HN1 hone
        go_upto_region 6 with (first
          | (refine wpList_load_mid rfl 40 (.tmp 13) rfl bb (off + k * 28) (by rfl) S.cells.toList _ HRG.out Tryz.underlying40 rfl (Sen.infoS S) ?_)
          | (refine wpList_store_row (cs := S.cells) rfl 40 (.tmp 4) (.tmp 14) rfl (heap_alloc_new wr _) (by rfl) (by rfl) (by rfl) (Sen.infoS _) (Sen.one _ hone.out) ?_; intro w1 R1 M1; have HF1 := Lib.hid (freshA M1); have HR1 := Lib.hid R1; clear R1 M1))
        have HM1 := Lib.hid (HM.out.trans HF1.out)
        have HMW := Lib.hid HF1.out
        have HI1 := Lib.hid (HIS.out.mods0 HF1.out)
        clear HM HF1 HIS HK HRG
        generalize wr.heap.size = g4 at HR1 ⊢
        have HN0 := Lib.hid ((cell_blk HR1.out 0).trans (show _ = some (Value.int .u8 S.number) from rfl))
        (try dsimp only [Act.put])
        go_cut [32] (fun u wx => u = .bool (!goodS l k) ∧ Mods [] w1 wx)
        case first => as_aux_lemma =>
          cases hvb : validB S P with
          | false =>
            have HVB := Lib.hid hvb
            have HGF := Lib.hid (show goodS l k = false from by rw [HGK.out, hvb]; rfl)
            clear hvb
            refine heldStart (S := fun W => Mods [] w1 W) 18 rfl (by kernel_rfl) Mods.refl.drew (fun hHeld => ?_)
            refine takeD (i := 0) (d := 15) (v := .agg S.cells.toList.toArray) rfl rfl (by kernel_rfl) (by kernel_rfl) (by kernel_rfl) (fun _ _ _ h => h) (yieldsIf_load_mid (by rfl) 40 (.tmp 4) rfl g4 0 rfl S.cells.toList _ (fun W h k u hu => by
              rw [cell_blk (h.heap HR1.out (by simp)), Nat.zero_add]
              simpa using hu) Tryz.underlying40 rfl (Sen.infoS S)) hHeld ?_
            simp only [List.setIfInBounds_toArray, List.set_cons_zero, List.set_cons_succ]
            refine wpAnyH_ready (rs := [1]) (by kernel_rfl) (by simp) ?_
            refine AllReadyH.cons rfl (fun K hK => ?_) AllReadyH.nil
            go_simp
            go_wp2_with (go_at_call 80; refine (valid_ok _ S P (HI1.out.mods0 hHeld)).mono ?_; rw [HVB.out]; rintro e w2 ⟨rfl, M2⟩)
            refine hK.out _ _ ?_ (fun hHeld => ?_)
            · exact hHeld.trans M2
            clear hK K
            refine takeD (i := 2) (d := 17) (v := ?_) rfl rfl (by kernel_rfl) (by kernel_rfl) (by kernel_rfl) (fun _ _ _ h => h) (Or.inl ⟨by rfl, ?_⟩) hHeld ?_
            rotate_left 1
            · (intro w hSw; (try dsimp only at hSw); go_simp; (try with_reducible rfl))
            simp only [List.setIfInBounds_toArray, List.set_cons_zero, List.set_cons_succ]
            refine takeD (i := 3) (d := 18) (v := ?_) rfl rfl (by kernel_rfl) (by kernel_rfl) (by kernel_rfl) (fun _ _ _ h => h) (Or.inl ⟨by rfl, ?_⟩) hHeld ?_
            rotate_left 1
            · (intro w hSw; (try dsimp only at hSw); go_simp; (try with_reducible rfl))
            simp only [List.setIfInBounds_toArray, List.set_cons_zero, List.set_cons_succ]
            refine takeD (i := 4) (d := 19) (v := undef) rfl rfl (by kernel_rfl) (by kernel_rfl) (by kernel_rfl) (fun _ _ _ h => h) (Or.inr ⟨by rfl, rfl⟩) hHeld ?_
            simp only [List.setIfInBounds_toArray, List.set_cons_zero, List.set_cons_succ]
            refine takeD (i := 5) (d := 20) (v := undef) rfl rfl (by kernel_rfl) (by kernel_rfl) (by kernel_rfl) (fun _ _ _ h => h) (Or.inr ⟨by rfl, rfl⟩) hHeld ?_
            simp only [List.setIfInBounds_toArray, List.set_cons_zero, List.set_cons_succ]
            refine takeD (i := 6) (d := 21) (v := undef) rfl rfl (by kernel_rfl) (by kernel_rfl) (by kernel_rfl) (fun _ _ _ h => h) (Or.inr ⟨by rfl, rfl⟩) hHeld ?_
            simp only [List.setIfInBounds_toArray, List.set_cons_zero, List.set_cons_succ]
            refine takeD (i := 7) (d := 22) (v := undef) rfl rfl (by kernel_rfl) (by kernel_rfl) (by kernel_rfl) (fun _ _ _ h => h) (Or.inr ⟨by rfl, rfl⟩) hHeld ?_
            simp only [List.setIfInBounds_toArray, List.set_cons_zero, List.set_cons_succ]
            refine takeD (i := 8) (d := 23) (v := undef) rfl rfl (by kernel_rfl) (by kernel_rfl) (by kernel_rfl) (fun _ _ _ h => h) (Or.inr ⟨by rfl, rfl⟩) hHeld ?_
            simp only [List.setIfInBounds_toArray, List.set_cons_zero, List.set_cons_succ]
            refine takeD (i := 9) (d := 24) (v := undef) rfl rfl (by kernel_rfl) (by kernel_rfl) (by kernel_rfl) (fun _ _ _ h => h) (Or.inr ⟨by rfl, rfl⟩) hHeld ?_
            simp only [List.setIfInBounds_toArray, List.set_cons_zero, List.set_cons_succ]
            refine takeD (i := 10) (d := 25) (v := undef) rfl rfl (by kernel_rfl) (by kernel_rfl) (by kernel_rfl) (fun _ _ _ h => h) (Or.inr ⟨by rfl, rfl⟩) hHeld ?_
            simp only [List.setIfInBounds_toArray, List.set_cons_zero, List.set_cons_succ]
            refine takeD (i := 11) (d := 26) (v := undef) rfl rfl (by kernel_rfl) (by kernel_rfl) (by kernel_rfl) (fun _ _ _ h => h) (Or.inr ⟨by rfl, rfl⟩) hHeld ?_
            simp only [List.setIfInBounds_toArray, List.set_cons_zero, List.set_cons_succ]
            refine takeD (i := 12) (d := 27) (v := undef) rfl rfl (by kernel_rfl) (by kernel_rfl) (by kernel_rfl) (fun _ _ _ h => h) (Or.inr ⟨by rfl, rfl⟩) hHeld ?_
            simp only [List.setIfInBounds_toArray, List.set_cons_zero, List.set_cons_succ]
            refine takeD (i := 13) (d := 28) (v := undef) rfl rfl (by kernel_rfl) (by kernel_rfl) (by kernel_rfl) (fun _ _ _ h => h) (Or.inr ⟨by rfl, rfl⟩) hHeld ?_
            simp only [List.setIfInBounds_toArray, List.set_cons_zero, List.set_cons_succ]
            refine takeD (i := 14) (d := 29) (v := undef) rfl rfl (by kernel_rfl) (by kernel_rfl) (by kernel_rfl) (fun _ _ _ h => h) (Or.inr ⟨by rfl, rfl⟩) hHeld ?_
            simp only [List.setIfInBounds_toArray, List.set_cons_zero, List.set_cons_succ]
            refine takeD (i := 15) (d := 30) (v := undef) rfl rfl (by kernel_rfl) (by kernel_rfl) (by kernel_rfl) (fun _ _ _ h => h) (Or.inr ⟨by rfl, rfl⟩) hHeld ?_
            simp only [List.setIfInBounds_toArray, List.set_cons_zero, List.set_cons_succ]
            refine takeD (i := 16) (d := 31) (v := undef) rfl rfl (by kernel_rfl) (by kernel_rfl) (by kernel_rfl) (fun _ _ _ h => h) (Or.inr ⟨by rfl, rfl⟩) hHeld ?_
            simp only [List.setIfInBounds_toArray, List.set_cons_zero, List.set_cons_succ]
            refine takeD (i := 17) (d := 32) (v := ?_) rfl rfl (by kernel_rfl) (by kernel_rfl) (by kernel_rfl) (fun _ _ _ h => h) (Or.inl ⟨by rfl, ?_⟩) hHeld ?_
            rotate_left 1
            · (intro w hSw; (try dsimp only at hSw); go_simp; (try with_reducible rfl))
            simp only [List.setIfInBounds_toArray, List.set_cons_zero, List.set_cons_succ]
            refine wpAnyH_done (by kernel_rfl) ?_ _
            go_wp2_with fail
            go_meet
            exact ⟨by rw [HGF.out]; rfl, hHeld⟩
          | true =>
            have HVB := Lib.hid hvb
            by_cases h0 : k = 0
            · subst h0
              have HGF := Lib.hid (show goodS l 0 = true from by rw [HGK.out, hvb]; rfl)
              clear hvb
              refine heldStart (S := fun W => Mods [] w1 W) 18 rfl (by kernel_rfl) Mods.refl.drew (fun hHeld => ?_)
              refine takeD (i := 0) (d := 15) (v := .agg S.cells.toList.toArray) rfl rfl (by kernel_rfl) (by kernel_rfl) (by kernel_rfl) (fun _ _ _ h => h) (yieldsIf_load_mid (by rfl) 40 (.tmp 4) rfl g4 0 rfl S.cells.toList _ (fun W h k u hu => by
                rw [cell_blk (h.heap HR1.out (by simp)), Nat.zero_add]
                simpa using hu) Tryz.underlying40 rfl (Sen.infoS S)) hHeld ?_
              simp only [List.setIfInBounds_toArray, List.set_cons_zero, List.set_cons_succ]
              refine wpAnyH_ready (rs := [1]) (by kernel_rfl) (by simp) ?_
              refine AllReadyH.cons rfl (fun K hK => ?_) AllReadyH.nil
              go_simp
              go_wp2_with (go_at_call 80; refine (valid_ok _ S P (HI1.out.mods0 hHeld)).mono ?_; rw [HVB.out]; rintro e w2 ⟨rfl, M2⟩)
              refine hK.out _ _ ?_ (fun hHeld => ?_)
              · exact hHeld.trans M2
              clear hK K
              refine takeD (i := 2) (d := 17) (v := ?_) rfl rfl (by kernel_rfl) (by kernel_rfl) (by kernel_rfl) (fun _ _ _ h => h) (Or.inl ⟨by rfl, ?_⟩) hHeld ?_
              rotate_left 1
              · (intro w hSw; (try dsimp only at hSw); go_simp; (try with_reducible rfl))
              simp only [List.setIfInBounds_toArray, List.set_cons_zero, List.set_cons_succ]
              refine takeD (i := 3) (d := 18) (v := ?_) rfl rfl (by kernel_rfl) (by kernel_rfl) (by kernel_rfl) (fun _ _ _ h => h) (Or.inl ⟨by rfl, ?_⟩) hHeld ?_
              rotate_left 1
              · (intro w hSw; (try dsimp only at hSw); go_simp; (try with_reducible rfl))
              simp only [List.setIfInBounds_toArray, List.set_cons_zero, List.set_cons_succ]
              refine takeD (i := 4) (d := 19) (v := ?_) rfl rfl (by kernel_rfl) (by kernel_rfl) (by kernel_rfl) (fun _ _ _ h => h) (Or.inl ⟨by rfl, ?_⟩) hHeld ?_
              rotate_left 1
              · (intro w hSw; (try dsimp only at hSw); go_simp; (try with_reducible rfl))
              simp only [List.setIfInBounds_toArray, List.set_cons_zero, List.set_cons_succ]
              refine takeD (i := 5) (d := 20) (v := ?_) rfl rfl (by kernel_rfl) (by kernel_rfl) (by kernel_rfl) (fun _ _ _ h => h) (Or.inl ⟨by rfl, ?_⟩) hHeld ?_
              rotate_left 1
              · (intro w hSw; (try dsimp only at hSw); go_simp; (try with_reducible rfl))
              simp only [List.setIfInBounds_toArray, List.set_cons_zero, List.set_cons_succ]
              refine takeD (i := 6) (d := 21) (v := ?_) rfl rfl (by kernel_rfl) (by kernel_rfl) (by kernel_rfl) (fun _ _ _ h => h) (Or.inl ⟨by rfl, ?_⟩) hHeld ?_
              rotate_left 1
              · (intro w hSw; (try dsimp only at hSw); go_simp; (try with_reducible rfl))
              simp only [List.setIfInBounds_toArray, List.set_cons_zero, List.set_cons_succ]
              refine takeD (i := 7) (d := 22) (v := undef) rfl rfl (by kernel_rfl) (by kernel_rfl) (by kernel_rfl) (fun _ _ _ h => h) (Or.inr ⟨by rfl, rfl⟩) hHeld ?_
              simp only [List.setIfInBounds_toArray, List.set_cons_zero, List.set_cons_succ]
              refine takeD (i := 8) (d := 23) (v := undef) rfl rfl (by kernel_rfl) (by kernel_rfl) (by kernel_rfl) (fun _ _ _ h => h) (Or.inr ⟨by rfl, rfl⟩) hHeld ?_
              simp only [List.setIfInBounds_toArray, List.set_cons_zero, List.set_cons_succ]
              refine takeD (i := 9) (d := 24) (v := undef) rfl rfl (by kernel_rfl) (by kernel_rfl) (by kernel_rfl) (fun _ _ _ h => h) (Or.inr ⟨by rfl, rfl⟩) hHeld ?_
              simp only [List.setIfInBounds_toArray, List.set_cons_zero, List.set_cons_succ]
              refine takeD (i := 10) (d := 25) (v := undef) rfl rfl (by kernel_rfl) (by kernel_rfl) (by kernel_rfl) (fun _ _ _ h => h) (Or.inr ⟨by rfl, rfl⟩) hHeld ?_
              simp only [List.setIfInBounds_toArray, List.set_cons_zero, List.set_cons_succ]
              refine takeD (i := 11) (d := 26) (v := undef) rfl rfl (by kernel_rfl) (by kernel_rfl) (by kernel_rfl) (fun _ _ _ h => h) (Or.inr ⟨by rfl, rfl⟩) hHeld ?_
              simp only [List.setIfInBounds_toArray, List.set_cons_zero, List.set_cons_succ]
              refine takeD (i := 12) (d := 27) (v := undef) rfl rfl (by kernel_rfl) (by kernel_rfl) (by kernel_rfl) (fun _ _ _ h => h) (Or.inr ⟨by rfl, rfl⟩) hHeld ?_
              simp only [List.setIfInBounds_toArray, List.set_cons_zero, List.set_cons_succ]
              refine takeD (i := 13) (d := 28) (v := undef) rfl rfl (by kernel_rfl) (by kernel_rfl) (by kernel_rfl) (fun _ _ _ h => h) (Or.inr ⟨by rfl, rfl⟩) hHeld ?_
              simp only [List.setIfInBounds_toArray, List.set_cons_zero, List.set_cons_succ]
              refine takeD (i := 14) (d := 29) (v := undef) rfl rfl (by kernel_rfl) (by kernel_rfl) (by kernel_rfl) (fun _ _ _ h => h) (Or.inr ⟨by rfl, rfl⟩) hHeld ?_
              simp only [List.setIfInBounds_toArray, List.set_cons_zero, List.set_cons_succ]
              refine takeD (i := 15) (d := 30) (v := undef) rfl rfl (by kernel_rfl) (by kernel_rfl) (by kernel_rfl) (fun _ _ _ h => h) (Or.inr ⟨by rfl, rfl⟩) hHeld ?_
              simp only [List.setIfInBounds_toArray, List.set_cons_zero, List.set_cons_succ]
              refine takeD (i := 16) (d := 31) (v := ?_) rfl rfl (by kernel_rfl) (by kernel_rfl) (by kernel_rfl) (fun _ _ _ h => h) (Or.inl ⟨by rfl, ?_⟩) hHeld ?_
              rotate_left 1
              · (intro w hSw; (try dsimp only at hSw); go_simp; (try with_reducible rfl))
              simp only [List.setIfInBounds_toArray, List.set_cons_zero, List.set_cons_succ]
              refine takeD (i := 17) (d := 32) (v := ?_) rfl rfl (by kernel_rfl) (by kernel_rfl) (by kernel_rfl) (fun _ _ _ h => h) (Or.inl ⟨by rfl, ?_⟩) hHeld ?_
              rotate_left 1
              · (intro w hSw; (try dsimp only at hSw); go_simp; (try with_reducible rfl))
              simp only [List.setIfInBounds_toArray, List.set_cons_zero, List.set_cons_succ]
              refine wpAnyH_done (by kernel_rfl) ?_ _
              go_wp2_with fail
              go_meet
              exact ⟨by rw [HGF.out]; rfl, hHeld⟩
            · obtain ⟨m, rfl⟩ : ∃ m, k = m + 1 := ⟨k - 1, by omega⟩
              have HPM := Lib.hid (fun (W : World) (M : Mods [] w1 W) => show W.cell? ⟨bb, off + m * 28, none⟩ = some (.int .u8 (numS l m : Nat)) from HPV.out W (HMW.out.trans M) (by omega))
              have HGF := Lib.hid (show goodS l (m + 1) = decide (numS l m < S.number) from by
                rw [HGK.out, hvb, HN1.out, Nat.add_sub_cancel, decide_eq_false h0]
                simp)
              clear hvb h0 HGK HN1
              generalize numS l m = pn at HPM HGF
              have m0 : (0 : Int) ≤ ((m : Nat) : Int) := by omega
              have m1 : ((m : Nat) : Int) < ((l.length : Nat) : Int) := by omega
              have kp : (0 : Int) < ((m + 1 : Nat) : Int) := by omega
              have d0 : decide ((0 : Int) < ((m + 1 : Nat) : Int)) = true := decide_eq_true kp
              refine heldStart (S := fun W => Mods [] w1 W) 18 rfl (by kernel_rfl) Mods.refl.drew (fun hHeld => ?_)
              refine takeD (i := 0) (d := 15) (v := .agg S.cells.toList.toArray) rfl rfl (by kernel_rfl) (by kernel_rfl) (by kernel_rfl) (fun _ _ _ h => h) (yieldsIf_load_mid (by rfl) 40 (.tmp 4) rfl g4 0 rfl S.cells.toList _ (fun W h k u hu => by
                rw [cell_blk (h.heap HR1.out (by simp)), Nat.zero_add]
                simpa using hu) Tryz.underlying40 rfl (Sen.infoS S)) hHeld ?_
              simp only [List.setIfInBounds_toArray, List.set_cons_zero, List.set_cons_succ]
              refine wpAnyH_ready (rs := [1]) (by kernel_rfl) (by simp) ?_
              refine AllReadyH.cons rfl (fun K hK => ?_) AllReadyH.nil
              go_simp
              go_wp2_with (go_at_call 80; refine (valid_ok _ S P (HI1.out.mods0 hHeld)).mono ?_; rw [HVB.out]; rintro e w2 ⟨rfl, M2⟩)
              refine hK.out _ _ ?_ (fun hHeld => ?_)
              · exact hHeld.trans M2
              clear hK K
              refine takeD (i := 2) (d := 17) (v := ?_) rfl rfl (by kernel_rfl) (by kernel_rfl) (by kernel_rfl) (fun _ _ _ h => h) (Or.inl ⟨by rfl, ?_⟩) hHeld ?_
              rotate_left 1
              · (intro w hSw; (try dsimp only at hSw); go_simp; (try with_reducible rfl))
              simp only [List.setIfInBounds_toArray, List.set_cons_zero, List.set_cons_succ]
              refine takeD (i := 3) (d := 18) (v := ?_) rfl rfl (by kernel_rfl) (by kernel_rfl) (by kernel_rfl) (fun _ _ _ h => h) (Or.inl ⟨by rfl, ?_⟩) hHeld ?_
              rotate_left 1
              · (intro w hSw; (try dsimp only at hSw); go_simp; (try with_reducible rfl))
              simp only [List.setIfInBounds_toArray, List.set_cons_zero, List.set_cons_succ]
              refine takeD (i := 4) (d := 19) (v := ?_) rfl rfl (by kernel_rfl) (by kernel_rfl) (by kernel_rfl) (fun _ _ _ h => h) (Or.inl ⟨by rfl, ?_⟩) hHeld ?_
              rotate_left 1
              · (intro w hSw; (try dsimp only at hSw); go_simp; (try with_reducible rfl))
              simp only [List.setIfInBounds_toArray, List.set_cons_zero, List.set_cons_succ]
              refine takeD (i := 5) (d := 20) (v := .bool true) rfl rfl (by kernel_rfl) (by kernel_rfl) (by kernel_rfl) (fun _ _ _ h => h) (Or.inl ⟨by rfl, fun W hSw => ?_⟩) hHeld ?_
              · (try dsimp only at hSw)
                skip
                go_simp
                (try simp only [d0])
              simp only [List.setIfInBounds_toArray, List.set_cons_zero, List.set_cons_succ]
              refine takeD (i := 6) (d := 21) (v := ?_) rfl rfl (by kernel_rfl) (by kernel_rfl) (by kernel_rfl) (fun _ _ _ h => h) (Or.inl ⟨by rfl, ?_⟩) hHeld ?_
              rotate_left 1
              · (intro w hSw; (try dsimp only at hSw); go_simp; (try with_reducible rfl))
              simp only [List.setIfInBounds_toArray, List.set_cons_zero, List.set_cons_succ]
              refine takeD (i := 7) (d := 22) (v := ?_) rfl rfl (by kernel_rfl) (by kernel_rfl) (by kernel_rfl) (fun _ _ _ h => h) (Or.inl ⟨by rfl, ?_⟩) hHeld ?_
              rotate_left 1
              · (intro w hSw; (try dsimp only at hSw); go_simp; (try with_reducible rfl))
              simp only [List.setIfInBounds_toArray, List.set_cons_zero, List.set_cons_succ]
              refine takeD (i := 8) (d := 23) (v := .int .u8 S.number) rfl rfl (by kernel_rfl) (by kernel_rfl) (by kernel_rfl) (fun _ _ _ h => h) (Or.inl ⟨by rfl, fun W hSw => ?_⟩) hHeld ?_
              · (try dsimp only at hSw)
                have cst := hSw.cell HN0.out (by simp)
                go_simp
                skip
              simp only [List.setIfInBounds_toArray, List.set_cons_zero, List.set_cons_succ]
              refine takeD (i := 9) (d := 24) (v := ?_) rfl rfl (by kernel_rfl) (by kernel_rfl) (by kernel_rfl) (fun _ _ _ h => h) (Or.inl ⟨by rfl, ?_⟩) hHeld ?_
              rotate_left 1
              · (intro w hSw; (try dsimp only at hSw); go_simp; (try with_reducible rfl))
              simp only [List.setIfInBounds_toArray, List.set_cons_zero, List.set_cons_succ]
              refine takeD (i := 10) (d := 25) (v := ?_) rfl rfl (by kernel_rfl) (by kernel_rfl) (by kernel_rfl) (fun _ _ _ h => h) (Or.inl ⟨by rfl, ?_⟩) hHeld ?_
              rotate_left 1
              · (intro w hSw; (try dsimp only at hSw); go_simp; (try with_reducible rfl))
              simp only [List.setIfInBounds_toArray, List.set_cons_zero, List.set_cons_succ]
              refine takeD (i := 11) (d := 26) (v := .int .i64 ((m:Nat):Int)) rfl rfl (by kernel_rfl) (by kernel_rfl) (by kernel_rfl) (fun _ _ _ h => h) (Or.inl ⟨by rfl, fun W hSw => ?_⟩) hHeld ?_
              · (try dsimp only at hSw)
                have hwr : IntKind.i64.wrap (((m + 1 : Nat) : Int) - 1) = ((m : Nat) : Int) := by rw [IntWalk.i64_in _ (by omega)]; omega
                go_simp
                (first | exact IntWalk.i64_in _ (by omega) | rw [hwr])
              simp only [List.setIfInBounds_toArray, List.set_cons_zero, List.set_cons_succ]
              refine takeD (i := 12) (d := 27) (v := ?_) rfl rfl (by kernel_rfl) (by kernel_rfl) (by kernel_rfl) (fun _ _ _ h => h) (Or.inl ⟨by rfl, ?_⟩) hHeld ?_
              rotate_left 1
              · (intro w hSw; (try dsimp only at hSw); go_simp; (try with_reducible rfl))
              simp only [List.setIfInBounds_toArray, List.set_cons_zero, List.set_cons_succ]
              refine takeD (i := 13) (d := 28) (v := ?_) rfl rfl (by kernel_rfl) (by kernel_rfl) (by kernel_rfl) (fun _ _ _ h => h) (Or.inl ⟨by rfl, ?_⟩) hHeld ?_
              rotate_left 1
              · (intro w hSw; (try dsimp only at hSw); go_simp; (try with_reducible rfl))
              simp only [List.setIfInBounds_toArray, List.set_cons_zero, List.set_cons_succ]
              have HLE := Lib.hid (show decide (S.number ≤ pn) = !decide (pn < S.number) from by
                by_cases h : pn < S.number
                · rw [decide_eq_true h, decide_eq_false (by omega)]; rfl
                · rw [decide_eq_false h, decide_eq_true (by omega)]; rfl)
              refine takeD (i := 14) (d := 29) (v := .int .u8 ((pn:Nat):Int)) rfl rfl (by kernel_rfl) (by kernel_rfl) (by kernel_rfl) (fun _ _ _ h => h) (Or.inl ⟨by rfl, fun W hSw => ?_⟩) hHeld ?_
              · (try dsimp only at hSw)
                have cst := HPM.out W hSw
                go_simp
                skip
              simp only [List.setIfInBounds_toArray, List.set_cons_zero, List.set_cons_succ]
              refine takeD (i := 15) (d := 30) (v := .bool (!decide (pn < S.number))) rfl rfl (by kernel_rfl) (by kernel_rfl) (by kernel_rfl) (fun _ _ _ h => h) (Or.inl ⟨by rfl, fun W hSw => ?_⟩) hHeld ?_
              · (try dsimp only at hSw)
                have hle := HLE.out
                go_simp
                (first | done | exact hle | simp only [hle])
              simp only [List.setIfInBounds_toArray, List.set_cons_zero, List.set_cons_succ]
              refine takeD (i := 16) (d := 31) (v := ?_) rfl rfl (by kernel_rfl) (by kernel_rfl) (by kernel_rfl) (fun _ _ _ h => h) (Or.inl ⟨by rfl, ?_⟩) hHeld ?_
              rotate_left 1
              · (intro w hSw; (try dsimp only at hSw); go_simp; (try with_reducible rfl))
              simp only [List.setIfInBounds_toArray, List.set_cons_zero, List.set_cons_succ]
              refine takeD (i := 17) (d := 32) (v := ?_) rfl rfl (by kernel_rfl) (by kernel_rfl) (by kernel_rfl) (fun _ _ _ h => h) (Or.inl ⟨by rfl, ?_⟩) hHeld ?_
              rotate_left 1
              · (intro w hSw; (try dsimp only at hSw); go_simp; (try with_reducible rfl))
              simp only [List.setIfInBounds_toArray, List.set_cons_zero, List.set_cons_succ]
              refine wpAnyH_done (by kernel_rfl) ?_ _
              go_wp2_with fail
              go_meet
              exact ⟨by rw [HGF.out], hHeld⟩
        case rest => as_aux_lemma =>
          obtain ⟨rfl, MC⟩ := hcut
          have HMC := Lib.hid (HM1.out.trans MC)
          clear MC
          cases hg : goodS l k with
          | true =>
            have HGT := Lib.hid hg
            go_wp2_with fail
            go_roundw
            case rel => exact ⟨k + 1, by omega, by go_num, HMC.out, Lib.hid (fun j hj => by
              rcases Nat.lt_or_ge j k with h | h
              · exact hG.out j h
              · rw [show j = k by omega]; exact HGT.out)⟩
            case measure => simp [intOf]; omega
          | false =>
            have HR := Lib.hid (HBAD.out hg)
            go_wp2_with fail
            go_ret
            exact ⟨ret_int HR.out.symm, HMC.out⟩
      · have i1 : ¬ (k : Int) < (l.length : Int) := by omega
        have HR := Lib.hid (show chkS l = 0 from by
          unfold chkS
          rw [if_neg HL.out, if_pos (by
            rw [List.all_eq_true]
            exact fun i hi => hG.out i (by have := List.mem_range.1 hi; omega))])
        go_wp2_with fail
        go_ret
        exact ⟨ret_int HR.out.symm, HM.out⟩
end Go.Proofs.YtijjkonephjodaaGreatDoor
