/- MonitorSleeps: the walk. -/
import Derived.Test.YtijjkonephjodaaGreatDoorMoSlP
import Derived.Test.YtijjkonephjodaaGreatDoorMoWat
import Derived.Test.YtijjkonephjodaaGreatDoorMoNum
import Derived.Test.YtijjkonephjodaaGreatDoorU16
namespace Go.Proofs.YtijjkonephjodaaGreatDoor
open Go.RowKit
set_option linter.unusedVariables false
set_option linter.unusedSimpArgs false
set_option maxRecDepth 100000
def hostX (x : SenX) : SenX := ⟨{ x.S with host := true }, x.P, x.one⟩
theorem goodAll_host {l : List SenX} (h : goodAll l) {k : Nat} (hk : k < l.length) : goodAll (l.set k (hostX (l.getD k default))) := by
  intro i hi
  rw [List.length_set] at hi
  have hn : ∀ j, numS (l.set k (hostX (l.getD k default))) j = numS l j := fun j => by
    unfold numS
    rw [setX_getD hk]
    split
    · rename_i hj; rw [hj]; rfl
    · rfl
  have h1 := h i hi
  unfold goodS at h1 ⊢
  rw [hn, hn, setX_getD hk]
  split
  · rename_i hik; subst hik; exact h1
  · exact h1
theorem OwnE.host {w : World} {B g cap : Nat} {l : List SenX} (h : OwnE senE w B (.slice (some ⟨g, 0, none⟩) l.length cap) l) {k : Nat} (hk : k < l.length) :
    OwnE senE (w.setCell ⟨g, k * 28 + 26, none⟩ (.bool true)) B (.slice (some ⟨g, 0, none⟩) l.length cap) (l.set k (hostX (l.getD k default))) := by
  have h1 := OwnE.put senOk h (i := k) (j := 26) (u := .bool true) (a := hostX (l.getD k default)) hk (by decide) (fun d => by
    have : l.getD k d = l.getD k default := by rw [List.getD_eq_getElem?_getD, List.getD_eq_getElem?_getD, List.getElem?_eq_getElem hk]; rfl
    rw [this]; rfl)
  rw [List.length_set] at h1
  exact h1
theorem num_selfS {l : List SenX} (hg : ∀ i, i < l.length → goodS l i = true) {i : Nat} (hi : i < l.length) : numIdx l (l.getD i default).S.number = i := ((num_only hg hi).1 rfl).symm
theorem state_selfS {l : List SenX} {st : List Nat} (hg : ∀ i, i < l.length → goodS l i = true) {i : Nat} (hi : i < l.length) : stateV l st (l.getD i default).S.number = (st.getD i 0, true) := by
  unfold stateV
  rw [num_selfS hg hi, if_pos hi]
/-- The sensors and their entities while the law lays them: the first k are those of a host. -/
def SlMk (w w1 w2 : World) (u ve : Value) (n k : Nat) (wr : World) : Prop :=
  ∃ A E, A.length = n ∧ OwnE senE wr w1.heap.size u A ∧ goodAll A ∧ (∀ i, i < A.length → PtsAt wr w1.heap.size u (A.getD i default)) ∧ (∀ i, i < k → (A.getD i default).S.host = true) ∧
    OwnE entE wr w2.heap.size ve E ∧ E.length = k ∧ (∀ i, i < k → entS (A.getD i default).S ∈ E) ∧ (∀ i, i < A.length → ∀ q, (A.getD i default).S.conv.pts.ownBlock = some q → q < w2.heap.size) ∧ Mods [] w wr ∧ w2.heap.size ≤ wr.heap.size
/-- Between the scans of the law. -/
structure SlAt (w : World) (mb fb sb : Nat) (vs va : Value) (l : List SenX) (st : List Nat) (u : Value) (A : List SenX) (ve : Value) (E : List Ent) (wr : World) : Prop where
  mon : ∃ F, MonAt wr mb fb sb vs va l [] F st ∧ Calm l F st
  sen : RdSens wr u A
  ent : RdE entE wr ve E
  M : Mods [] w wr
structure SlN (w : World) (fb sb : Nat) (u : Value) (A : List SenX) (ve : Value) : Prop where
  u : ∀ q, u.ownBlock = some q → q ≠ fb ∧ q ≠ sb
  p : ∀ i, i < A.length → ∀ q, (A.getD i default).S.conv.pts.ownBlock = some q → q ≠ fb ∧ q ≠ sb
  e : ∀ q, ve.ownBlock = some q → q ≠ fb ∧ q ≠ sb
  b : w.heap.size ≤ fb ∧ w.heap.size ≤ sb
section
variable {w wr w' : World} {mb fb sb : Nat} {vs va u ve : Value} {l A : List SenX} {F : List FltX} {st : List Nat} {E ab : List Ent} {host : Bool} {X : List Smp} {e : Ending}
theorem SlAt.mods0 (h : SlAt w mb fb sb vs va l st u A ve E wr) (M : Mods [] wr w') : SlAt w mb fb sb vs va l st u A ve E w' :=
  ⟨by obtain ⟨F, h1, h2⟩ := h.mon; exact ⟨F, h1.mods0 M, h2⟩, h.sen.mods0 M, h.ent.mods0 entOk M, h.M.trans M⟩
theorem SlAt.scan (h : SlAt w mb fb sb vs va l st u A ve E wr) (hN : SlN w fb sb u A ve) (M : Mods [fb, sb] wr w') {F' : List FltX} (hm : MonAt w' mb fb sb vs va l [] F' st) (hc : Calm l F' st) : SlAt w mb fb sb vs va l st u A ve E w' :=
  ⟨⟨F', hm, hc⟩, ⟨h.sen.rd.mods senOk M (fun _ q hq => by have := hN.u q hq; simp; exact this), fun i hi => (h.sen.is i hi).mods M (fun _ q hq => by have := hN.p i hi q hq; simp; exact this)⟩, h.ent.mods entOk M (fun _ q hq => by have := hN.e q hq; simp; exact this), h.M.comp M (fun q hq => .inr (by have := hN.b; simp at hq; omega))⟩
theorem first_scan (h : MonAt wr mb fb sb vs va l [] (List.replicate l.length zFlt) (List.replicate l.length 0)) (hp : ScanPost wr mb fb sb vs va l [] (List.replicate l.length zFlt) (List.replicate l.length 0) ab host X e w') :
    ∃ vo c F st, e = .returned (.tuple #[vo, .int .i64 c]) ∧ MonAt w' mb fb sb vs va l [] F st ∧ Calm l F st ∧ Mods [fb, sb] wr w' := by
  unfold ScanPost at hp
  split at hp
  · obtain ⟨vo, F', st', he, hS⟩ := hp
    exact ⟨vo, 0, F', st', he, hS.mon, Calm.first h hS, hS.M⟩
  · exact ⟨_, _, _, _, hp.1, h.mods0 hp.2, Calm.zero h, hp.2.nil⟩
theorem sleep_scan (h : MonAt wr mb fb sb vs va l [] F st) (hc : Calm l F st) (hp : ScanPost wr mb fb sb vs va l [] F st ab host X e w') (hX : (∀ j, j < l.length → onB [] ab host (l.getD j default).S = false) ∨ X = []) :
    ∃ a c F', e = .returned (.tuple #[.slice a 0 c, .int .i64 (chkM l X)]) ∧ MonAt w' mb fb sb vs va l [] F' st ∧ Calm l F' st ∧ Mods [fb, sb] wr w' := by
  unfold ScanPost at hp
  split at hp
  · rename_i h0
    obtain ⟨vo, F', st', he, hS⟩ := hp
    obtain ⟨h1, rfl, h3⟩ := Calm.next h hc hS hX
    obtain ⟨a, c, rfl⟩ := (hS.own.rd evOk).len
    rw [h1] at he
    exact ⟨a, c, F', by rw [h0]; exact he, hS.mon, h3, hS.M⟩
  · exact ⟨_, _, F, hp.1, h.mods0 hp.2, hc, hp.2.nil⟩
end
theorem chkM_nil (l : List SenX) : chkM l [] = 0 := rfl
set_option maxHeartbeats 16000000 in
theorem monitorSleeps_walk (w : World) (hO : OffAt w) (v : Value) (L : List Int) (hv : Rd w v (i64s L)) (hb : ∀ i, -9223372036854775808 ≤ L.getD i 0 ∧ L.getD i 0 ≤ 9223372036854775807) (v2 : Value) (L2 : List Int) (hv2 : Rd w v2 (i64s L2)) (hb2 : ∀ i, -9223372036854775808 ≤ L2.getD i 0 ∧ L2.getD i 0 ≤ 9223372036854775807)
    (v3 : Value) (L3 : List Int) (hv3 : Rd w v3 (i64s L3)) (hb3 : ∀ i, -9223372036854775808 ≤ L3.getD i 0 ∧ L3.getD i 0 ≤ 9223372036854775807) (gp : Int) (hgp : I64 gp) :
    Calls Tryz.prog 3 #[v, v2, v3, .int .i64 gp] w fun e w' => e = .returned (.bool true) ∧ Mods [] w w' := by
  have HL := Lib.hid (light_ok _ v L hv)
  have HV := Lib.hid hv
  have HV2 := Lib.hid hv2
  have HV3 := Lib.hid hv3
  have HB := Lib.hid hb
  have HB2 := Lib.hid hb2
  have HB3 := Lib.hid hb3
  have HGP := Lib.hid hgp
  have HO := Lib.hid hO
  obtain ⟨a2, c2, rfl⟩ := hv2.len
  obtain ⟨a3, c3, rfl⟩ := hv3.len
  rw [i64s_length] at HV2 HV3
  rw [i64s_length, i64s_length]
  clear hv hb hv2 hb2 hv3 hb3 hO hgp
  by_cases hl : L.length ≤ 600
  · have HLL := Lib.hid (decide_eq_true hl)
    by_cases h100 : L2.length ≤ 100
    · have d100 : decide ((L2.length : Int) > 100) = false := decide_eq_false (by omega)
      by_cases h300 : L3.length ≤ 100
      · have d300 : decide ((L3.length : Int) > 100) = false := decide_eq_false (by omega)
        go_enter Tryz.func3, Tryz.ntmps3
        go_wp2_with fail
        refine HL.out.mono ?_
        rw [HLL.out]
        rintro e w' ⟨rfl, rfl⟩
        go_wp2_with fail
        refine (roll_ok w v L HV.out (by omega) HB.out).mono ?_
        rintro e w1 ⟨rfl, D1, M1, z1⟩
        go_wp2_with fail
        refine (watched_ok w1 w.heap.size v L 0 D1).mono ?_
        rintro e w2 ⟨u, A0, j2, rfl, OB, hB5, hG, hP, _, D2, M2⟩
        obtain ⟨au, cu, rfl⟩ := (OB.rd senOk).len
        have HZ2 := Lib.hid (show w1.heap.size ≤ w2.heap.size from M2.size)
        have HZ1 := Lib.hid (show w.heap.size ≤ w1.heap.size from M1.size)
        have HN5 := Lib.hid hB5
        have HMK := Lib.hid (show SlMk w w1 w2 (.slice au A0.length cu) (.slice none 0 0) A0.length 0 w2 from ⟨A0, [], rfl, OB, hG, hP, fun i hi => by omega, OwnE.nil _ _ _, rfl, fun i hi => by omega, fun i hi q hq => ((hP i hi).pts q hq).2.1, M1.comp M2 (fun q hq => by simp at hq; subst hq; exact .inr (Nat.le_refl _)), Nat.le_refl _⟩)
        have HUL := Lib.hid (show ∀ q, (Value.slice au A0.length cu).ownBlock = some q → q < w2.heap.size from fun q hq => (OB.lt q hq).2)
        generalize A0.length = n at HMK HN5 HUL ⊢
        have n5 : (n : Int) ≤ 5 := by have := HN5.out; omega
        clear D1 M1 z1 OB hB5 hG hP D2 M2
        go_wp2_with fail
        go_loopw [11, 12] (fun ve i wr => ∃ k : Nat, k ≤ n ∧ i = .int .i64 (k : Nat) ∧ Hid (SlMk w w1 w2 (.slice au n cu) ve n k wr)) (fun _ i _ => n - (intOf i).toNat)
        case atStart => exact ⟨0, Nat.zero_le _, rfl, HMK⟩
        clear HMK
        case round =>
          obtain ⟨k, hk, rfl, HK⟩ := hrel
          have i0 : (0 : Int) ≤ (k : Int) := by omega
          by_cases hlt : k < n
          · have i1 : (k : Int) < (n : Int) := by omega
            obtain ⟨A, E, rfl, O2, hG, hP, hH, OE, hEl, hEm, hPL, M2, hz⟩ := HK.out
            obtain ⟨g, cap', hv2, hg1, hg2, hg3, hg4⟩ := O2.form (by omega)
            injection hv2 with hv3 _ hv4
            subst hv3 hv4
            obtain ⟨cur, hcur⟩ := O2.blkS
            obtain ⟨ea, ec, rfl⟩ := (OE.rd entOk).len
            have hr := (O2.rd senOk).range (i := k) hlt senOk.len
            rw [Nat.zero_add] at hr
            have HIS := Lib.hid (hP k hlt).is
            have c26 : wr.cell? ⟨g, k * 28 + 26, none⟩ = some (.bool (A.getD k default).S.host) := hr 26 (.bool (A.getD k default).S.host) rfl
            have f26 := froz_blk hcur (k * 28 + 26)
            have M3 : Mods [g] wr (wr.setCell ⟨g, k * 28 + 26, none⟩ (.bool true)) := (Mods.refl (S := [g])).setCell (.inl (by simp)) _
            have HO3 := Lib.hid (O2.host hlt)
            have HGL := Lib.hid (show g < w2.heap.size from HUL.out g rfl)
            have HE3 := Lib.hid (OE.mods M3 (fun q hq hm => by simp at hm; subst hm; have h1 := (OE.lt _ hq).1; have h2 := HGL.out; omega))
            have hc2 := heap_setCell (i := k * 28 + 26) (v := .bool true) hcur
            have HRGE := Lib.hid (show (wr.setCell ⟨g, k * 28 + 26, none⟩ (.bool true)).rangeAt g (k * 28 + 4) [.int .u8 (((A.getD k default).S.eid : Nat) : Int), .int .u8 (((A.getD k default).S.einst : Nat) : Int)] from fun j x hx => by
              have hj : j < 2 := (List.getElem?_eq_some_iff.1 hx).1
              rw [cell_blk hc2, Array.getElem?_setIfInBounds_ne (by omega), ← cell_blk hcur]
              match j, hx with
              | 0, hx => exact hr 4 x hx
              | 1, hx => have h : wr.cell? ⟨g, k * 28 + 5, none⟩ = some x := hr 5 x hx; rw [show k * 28 + 4 + 1 = k * 28 + 5 by omega]; exact h)
            clear hc2
            have HENT := Lib.hid (entS_cells HIS.out)
            have HREL := Lib.hid (show ∀ W V, OwnE senE W w1.heap.size (.slice (some ⟨g, 0, none⟩) A.length cu) (A.set k (hostX (A.getD k default))) → OwnE entE W w2.heap.size V (E ++ [entS (A.getD k default).S]) → Mods (g :: (Value.slice ea E.length ec).ownBlock.toList) wr W → SlMk w w1 w2 (.slice (some ⟨g, 0, none⟩) A.length cu) V A.length (k + 1) W from fun W V hO hE M => by
              have key : ∀ i, i < A.length → PtsAt W w1.heap.size (.slice (some ⟨g, 0, none⟩) A.length cu) (A.getD i default) := fun i hi => by
                have h := hP i hi
                refine ⟨h.is.mods M (fun _ q hq => ?_), fun q hq => ⟨(h.pts q hq).1, Nat.lt_of_lt_of_le (h.pts q hq).2.1 M.size, (h.pts q hq).2.2⟩⟩
                rw [List.mem_cons]
                rintro (h1 | h1)
                · exact (h.pts q hq).2.2 (by rw [h1]; rfl)
                · have h2 := (OE.lt q (by simpa using h1)).1
                  have h3 := hPL i hi q hq
                  omega
              refine ⟨A.set k (hostX (A.getD k default)), E ++ [entS (A.getD k default).S], List.length_set, hO, goodAll_host hG hlt, fun i hi => ?_, fun i hi => ?_, hE, by rw [List.length_append, hEl]; rfl, fun i hi => ?_, fun i hi q hq => ?_, M2.comp M (fun q hq => ?_), Nat.le_trans hz M.size⟩
              · rw [List.length_set] at hi
                rw [setX_getD hlt]
                split
                · have h := key k hlt
                  exact ⟨{ h.is with }, h.pts⟩
                · exact key i hi
              · rw [setX_getD hlt]
                split
                · rfl
                · exact hH i (by omega)
              · rw [setX_getD hlt]
                split
                · exact List.mem_append_right _ (List.mem_singleton.2 rfl)
                · exact List.mem_append_left _ (hEm i (by omega))
              · rw [List.length_set] at hi
                rw [setX_getD hlt] at hq
                split at hq
                · exact hPL k hlt q hq
                · exact hPL i hi q hq
              · rw [List.mem_cons] at hq
                have hz1 := HZ1.out
                have hz2 := HZ2.out
                rcases hq with h1 | h1
                · subst h1; exact .inr (by omega)
                · have h2 := (OE.lt q (by simpa using h1)).1
                  exact .inr (by omega))
            have HEL := Lib.hid (show E.length ≤ 5 from by rw [hEl]; omega)
            have HSZ := Lib.hid (show w2.heap.size ≤ (wr.setCell ⟨g, k * 28 + 26, none⟩ (.bool true)).heap.size from Nat.le_trans hz M3.size)
            have HM3 := Lib.hid M3
            clear HIS hG hP hH OE hEl hEm hPL M2 hz O2 hr M3 HK hcur hg2
            generalize entS (A.getD k default).S = en at HENT HREL
            generalize (A.getD k default).S.eid = x0 at HRGE HENT
            generalize (A.getD k default).S.einst = y0 at HRGE HENT
            generalize A.set k (hostX (A.getD k default)) = A2 at HO3 HREL
            generalize (A.getD k default).S.host = h0 at c26
            have HW3 := Lib.hid (show ∀ W, W = wr.setCell ⟨g, k * 28 + 26, none⟩ (.bool true) → OwnE senE W w1.heap.size (.slice (some ⟨g, 0, none⟩) A.length cu) A2 ∧ OwnE entE W w2.heap.size (.slice ea E.length ec) E ∧ W.rangeAt g (k * 28 + 4) [.int .u8 (x0 : Int), .int .u8 (y0 : Int)] ∧ w2.heap.size ≤ W.heap.size ∧ Mods [g] wr W from fun W hW => by subst hW; exact ⟨HO3.out, HE3.out, HRGE.out, HSZ.out, HM3.out⟩)
            clear HO3 HE3 HRGE HSZ HM3
            go_upto_region 10 with (fail)
            have ⟨o3, e3, r3, s3, m3⟩ := HW3.out _ rfl
            clear HW3 c26 f26
            generalize wr.setCell ⟨g, k * 28 + 26, none⟩ (.bool true) = w3 at o3 e3 r3 s3 m3 ⊢
            have HO3 := Lib.hid o3
            have HE3 := Lib.hid e3
            have HR3 := Lib.hid r3
            have HS3 := Lib.hid s3
            have HM3 := Lib.hid m3
            clear o3 e3 r3 s3 m3
            go_wp2_with (first
              | (refine wpList_load_mid rfl 31 (.tmp 64) rfl g (k * 28 + 4) (by rfl) [.int .u8 (x0 : Int), .int .u8 (y0 : Int)] _ HR3.out Tryz.underlying31 rfl Tryz.sizeEnt ?_)
              | (refine wpList_oneE entOk (by decide) (by rfl) (.tmp 65) rfl 66 rfl en #[.int .u8 (x0 : Int), .int .u8 (y0 : Int)] (by rfl) HENT.out.symm ?_; go_loud (intro CS hCS; have HMA := Lib.hid ((Mods.refl (S := []) (w := w3)).alloc (.cells CS 31)); have HRE := Lib.hid (RdE.one (E := entE) (a := en) (heap_alloc_new w3 (.cells CS 31)) hCS); have HOA := Lib.hid (HE3.out.mods0 HMA.out); clear hCS))
              | (at_builtin; go_loud (refine wpList_appE entOk (by rfl) (.tmp 60) (.tmp 66) rfl (by rfl) HOA.out (by rfl) HRE.out (by rw [List.length_singleton]; have := HEL.out; omega) (Nat.le_trans HS3.out HMA.out.size) ?_; intro VB WB OB MB; have HOB := Lib.hid OB; have HMB := Lib.hid MB; clear OB MB)))
            have HNX := Lib.hid (HREL.out WB VB ((HO3.out.mods0 HMA.out).mods HMB.out (fun q hq hm => by have h1 := HOA.out.back hm; have h2 := HUL.out q hq; omega)) HOB.out (((HM3.out.mono (fun q hq => .inl (by simp at hq; simp [hq]))).trans HMA.out.nil).trans (HMB.out.mono (fun q hq => .inl (List.mem_cons_of_mem _ hq)))))
            go_roundw
            case rel => exact ⟨k + 1, by omega, by go_num, HNX⟩
            case measure => simp [intOf]; omega
          · have i1 : ¬ (k : Int) < (n : Int) := by omega
            have hkl : k = n := by omega
            subst hkl
            obtain ⟨A, E, hAl, O2, hG, hP, hH, OE, hEl, hEm, hPL, M2, hz⟩ := HK.out
            obtain ⟨ea, ec, rfl⟩ := (OE.rd entOk).len
            have HAL := Lib.hid hAl
            have HEL := Lib.hid hEl
            have HRS := Lib.hid (show RdSens wr (.slice au k cu) A from ⟨O2.rd senOk, fun i hi => (hP i hi).is⟩)
            have HRE := Lib.hid (OE.rd entOk)
            have HPT := Lib.hid (show ∀ i, i < A.length → ∀ q, (A.getD i default).S.conv.pts.ownBlock = some q → q < wr.heap.size from fun i hi q hq => ((hP i hi).pts q hq).2.1)
            have HUR := Lib.hid (show ∀ q, (Value.slice au k cu).ownBlock = some q → q < wr.heap.size from fun q hq => (O2.lt q hq).2)
            have HVR := Lib.hid (show ∀ q, (Value.slice ea E.length ec).ownBlock = some q → q < wr.heap.size from fun q hq => (OE.lt q hq).2)
            have HHO := Lib.hid hH
            have HEM := Lib.hid hEm
            have HMW := Lib.hid M2
            have HCK := Lib.hid (chkS_good hG (by have := HN5.out; omega))
            have HWW := Lib.hid (show w.heap.size ≤ wr.heap.size from M2.size)
            clear hAl O2 hG hP hH OE hEl hEm hPL M2 hz HK HUL
            go_wp2_with fail
            refine (new_ok wr _ A HRS.out _ [] (RdE.nil ascE _) (.inl (by decide))).mono ?_
            rintro e w3 ⟨M3, hp⟩
            rw [HCK.out, if_pos rfl, if_pos (by decide)] at hp
            obtain ⟨mb, fb, sb, vs, va, l, rfl, TW, hM, hLo⟩ := hp
            have HMO := Lib.hid hM
            have HTW := Lib.hid TW
            have HLEN := Lib.hid (show l.length = A.length from TW.1)
            have HM3 := Lib.hid (HMW.out.trans M3)
            have HRS3 := Lib.hid (HRS.out.mods0 M3)
            have HRE3 := Lib.hid (HRE.out.mods0 entOk M3)
            have HNN := Lib.hid (show SlN w fb sb (.slice au k cu) A (.slice ea E.length ec) from ⟨fun q hq => by have h1 := HUR.out q hq; have h2 := hLo.b; exact ⟨by omega, by omega⟩, fun i hi q hq => by have h1 := HPT.out i hi q hq; have h2 := hLo.b; exact ⟨by omega, by omega⟩, fun q hq => by have h1 := HVR.out q hq; have h2 := hLo.b; exact ⟨by omega, by omega⟩, by have h1 := HWW.out; have h2 := hLo.b; exact ⟨by omega, by omega⟩⟩)
            have HZ3 := Lib.hid (show wr.heap.size ≤ w3.heap.size from M3.size)
            clear M3 TW hM hLo HCK
            go_wp2_with fail
            refine (roll_ok w3 _ L2 (HV2.out.mods0 HM3.out) (by omega) HB2.out).mono ?_
            rintro e w4 ⟨rfl, D4, M4, z4⟩
            go_wp2_with fail
            refine (samples_ok w4 w3.heap.size _ L2 0 D4 _ A (HRS3.out.mods0 M4) ⟨fun q hq => by have h1 := HUR.out q hq; have h2 := HZ3.out; omega, fun i hi q hq => by have h1 := HPT.out i hi q hq; have h2 := HZ3.out; omega⟩ (by have h1 := HAL.out; have h2 := HN5.out; omega)).mono ?_
            rintro e w5 ⟨vx, X, j5, rfl, OX, hXl, D5, M5⟩
            have M45 : Mods [] w3 w5 := M4.comp M5 (fun q hq => by simp at hq; subst hq; exact .inr (Nat.le_refl _))
            have HM5 := Lib.hid (HMO.out.mods0 M45)
            have HFB := Lib.hid (show fb < w4.heap.size ∧ sb < w4.heap.size from ⟨Nat.lt_of_lt_of_le HMO.out.fbl M4.size, Nat.lt_of_lt_of_le (lt_of_block HMO.out.sts) M4.size⟩)
            obtain ⟨xa, xc, rfl⟩ := (OX.rd smpOk).len
            have HSC := Lib.hid (scan_ok HM5.out (HO.out.mods0 (HM3.out.trans M45)) _ (OX.rd smpOk) (fun q hq => by have h1 := (OX.lt q hq).1; have h2 := HFB.out; exact ⟨by omega, by omega⟩) (.slice none 0 0) (ab := []) (RdE.nil entE _) (fun q hq => by cases hq) (host := true))
            have HM45 := Lib.hid M45
            clear D4 M4 z4 OX hXl D5 M5 M45
            go_wp2_with fail
            refine HSC.out.mono ?_
            rintro e w6 hp
            obtain ⟨vo, c, F, st, rfl, hM6, hC6, M6⟩ := first_scan HM5.out hp
            have HSL := Lib.hid (show SlAt w mb fb sb vs va l st (.slice au k cu) A (.slice ea E.length ec) E w6 from
              ⟨⟨F, hM6, hC6⟩, ⟨(HRS3.out.mods0 HM45.out).rd.mods senOk M6 (fun _ q hq => by have := HNN.out.u q hq; simp; exact this), fun i hi => ((HRS3.out.mods0 HM45.out).is i hi).mods M6 (fun _ q hq => by have := HNN.out.p i hi q hq; simp; exact this)⟩, (HRE3.out.mods0 entOk HM45.out).mods entOk M6 (fun _ q hq => by have := HNN.out.e q hq; simp; exact this), (HM3.out.trans HM45.out).comp M6 (fun q hq => .inr (by have := HNN.out.b; simp at hq; omega))⟩)
            have HUW0 := Lib.hid (show (∀ q, (Value.slice au k cu).ownBlock = some q → q < w6.heap.size) ∧ (∀ j, j < A.length → ∀ q, (A.getD j default).S.conv.pts.ownBlock = some q → q < w6.heap.size) from by
              have hz := M6.size
              have hz2 := HM45.out.size
              have hz3 := HZ3.out
              exact ⟨fun q hq => by have := HUR.out q hq; omega, fun j hj q hq => by have := HPT.out j hj q hq; omega⟩)
            have HF6 := Lib.hid (show fb < w6.heap.size ∧ sb < w6.heap.size from ⟨hM6.fbl, lt_of_block hM6.sts⟩)
            clear hM6 hC6 M6 hp HSC HM5 HM45
            have HKA := Lib.hid (show k = A.length from HAL.out.symm)
            have HK5 := Lib.hid (show k ≤ 5 from HN5.out)
            clear HRS HRE HPT HUR HVR HMW HWW HZ3 HRS3 HRE3 HFB hk hlt
            go_wp2_with fail
            obtain ⟨F6, hM6, hC6⟩ := HSL.out.mon
            have HMR := Lib.hid hM6
            have HSR := Lib.hid HSL.out.sen
            clear hM6 hC6
            go_loopw [15, 16] (fun vw j wr => ∃ i : Nat, i ≤ k ∧ j = .int .i64 (i : Nat) ∧ Hid (OwnE u16E wr w6.heap.size vw (was16 st i)) ∧ Hid (Mods [] w6 wr)) (fun _ j _ => k - (intOf j).toNat)
            case atStart => exact ⟨0, Nat.zero_le _, rfl, Lib.hid (OwnE.nil _ _ _), Lib.hid Mods.refl⟩
            case round =>
              obtain ⟨i, hi, rfl, HOW, HMX⟩ := hrel
              have i0 : (0 : Int) ≤ (i : Int) := by omega
              obtain ⟨wa, wc, rfl⟩ := (HOW.out.rd u16Ok).len
              rw [was16_len] at HOW ⊢
              by_cases hlt : i < k
              · have i1 : (i : Int) < (k : Int) := by omega
                obtain ⟨bb, off, cap', hv3, hb1, hb2⟩ := HSR.out.at (by rw [← HKA.out]; omega)
                rw [← HKA.out] at hv3
                injection hv3 with hv4 _ hv5
                subst hv4 hv5
                have HRG := Lib.hid (fun W (M : Mods [] w6 W) => show W.rangeAt bb (off + i * 28) (A.getD i default).S.cells.toList from (by have h := (HSR.out.mods0 M); rw [HKA.out] at h; exact h.range (by rw [← HKA.out]; exact hlt) : W.rangeAt bb (off + i * 28) (A.getD i default).S.cells.toList))
                have hil : i < l.length := by rw [HLEN.out, ← HKA.out]; exact hlt
                obtain ⟨_, vw, hvw⟩ := HTW.out.2 i (by rw [← HKA.out]; exact hlt)
                have HSV := Lib.hid (show stateV l st (A.getD i default).S.number = (st.getD i 0, true) from by have h := state_selfS (st := st) HMR.out.good hil; rw [hvw] at h; exact h)
                have HSTA := Lib.hid (fun W (M : Mods [] w6 W) => state_ok (HMR.out.mods0 M) (A.getD i default).S.number)
                have HSLT := Lib.hid (HMR.out.slt hil)
                rw [HSV.out] at HSTA
                generalize (A.getD i default).S = S at HRG HSTA HSV hvw
                have HWS := Lib.hid (was16_succ st i)
                generalize st.getD i 0 = s0 at HSTA HSLT HWS HSV
                have cn := range_num (HRG.out _ HMX.out)
                go_wp2_with fail
                clear cn
                refine (HSTA.out _ HMX.out).mono ?_
                rintro en w7 ⟨rfl, M7⟩
                have HM7 := Lib.hid (HMX.out.trans M7)
                have HOA := Lib.hid ((HOW.out.mods0 M7).mods0 (Mods.refl.alloc (.cells #[.int .u16 ((s0 : Nat) : Int)] 38)))
                have HMA := Lib.hid (HM7.out.alloc (.cells #[.int .u16 ((s0 : Nat) : Int)] 38))
                have HRX := Lib.hid (RdE.one (E := u16E) (a := f16 s0) (heap_alloc_new w7 (.cells #[.int .u16 ((s0 : Nat) : Int)] 38)) (by show [Value.int .u16 ((s0 : Nat) : Int)] = [.int .u16 (((f16 s0).val : Nat) : Int)]; rw [f16v HSLT.out]))
                have HLW := Lib.hid (was16_len st i)
                clear M7
                simp only
                go_wp2_with (at_builtin; go_loud (refine wpList_appE u16Ok (by rfl) (.tmp 103) (.tmp 105) rfl (by rfl) HOA.out (by rfl) HRX.out (by rw [HLW.out, List.length_singleton]; have := HK5.out; omega) HMA.out.size ?_; intro VB WB OB MB; have HOB := Lib.hid OB; have HMB := Lib.hid MB; clear OB MB))
                go_roundw
                case rel => exact ⟨i + 1, by omega, by go_num, Lib.hid (by rw [HWS.out]; exact HOB.out), Lib.hid (HMA.out.comp HMB.out (fun q hq => .inr (HOA.out.back hq)))⟩
                case measure => simp [intOf]; omega
              · have i1 : ¬ (i : Int) < (k : Int) := by omega
                have hil : i = k := by omega
                subst hil
                have HSL7 := Lib.hid (HSL.out.mods0 HMX.out)
                have HWR := Lib.hid (HOW.out.rd u16Ok)
                have HWN := Lib.hid (show ∀ q, (Value.slice wa i wc).ownBlock = some q → q ≠ fb ∧ q ≠ sb from fun q hq => by have h1 := (HOW.out.lt q hq).1; have h2 := HF6.out; exact ⟨by omega, by omega⟩)
                have HZ7 := Lib.hid HMX.out.size
                obtain ⟨gm, hgm, hg4⟩ : ∃ gm : Nat, gp % 4 = (gm : Int) ∧ gm < 4 := ⟨(gp % 4).toNat, by omega, by omega⟩
                have HMD := Lib.hid (fun W => mod_ok gp 4 W HGP.out (by omega) (by omega))
                rw [hgm] at HMD
                clear HOW HMX HMR HSR hgm HSL
                go_wp2_with fail
                go_loopw [19] (fun j wr => ∃ p : Nat, p ≤ gm + 1 ∧ j = .int .i64 (p : Nat) ∧ Hid (SlAt w mb fb sb vs va l st (.slice au i cu) A (.slice ea E.length ec) E wr) ∧ Hid (RdE u16E wr (.slice wa i wc) (was16 st i)) ∧ Hid (w6.heap.size ≤ wr.heap.size)) (fun j _ => gm + 1 - (intOf j).toNat)
                case atStart => exact ⟨0, by omega, rfl, HSL7, HWR, HZ7⟩
                clear HSL7 HWR HZ7
                case round =>
                  obtain ⟨p, hp, rfl, HS, HWR, HZW⟩ := hrel
                  have p0 : (0 : Int) ≤ (p : Int) := by omega
                  go_wp2_with fail
                  refine (HMD.out _).mono ?_
                  rintro en w' ⟨rfl, rfl⟩
                  by_cases hpl : p < gm + 1
                  · have p1 : (p : Int) < 1 + (gm : Int) := by omega
                    have pg : (gm : Int) ≤ 3 := by omega
                    obtain ⟨F, hM, hC⟩ := HS.out.mon
                    have HM := Lib.hid hM
                    have HC := Lib.hid hC
                    have HFB := Lib.hid (show fb < wr.heap.size ∧ sb < wr.heap.size from ⟨hM.fbl, lt_of_block hM.sts⟩)
                    have HUW := Lib.hid (show (∀ q, (Value.slice au i cu).ownBlock = some q → q < wr.heap.size) ∧ (∀ j, j < A.length → ∀ q, (A.getD j default).S.conv.pts.ownBlock = some q → q < wr.heap.size) from ⟨fun q hq => Nat.lt_of_lt_of_le (HUW0.out.1 q hq) HZW.out, fun j hj q hq => Nat.lt_of_lt_of_le (HUW0.out.2 j hj q hq) HZW.out⟩)
                    clear hM hC
                    go_wp2_with fail
                    refine (roll_ok wr _ L3 (HV3.out.mods0 HS.out.M) (by omega) HB3.out).mono ?_
                    rintro e w4 ⟨rfl, D4, M4, z4⟩
                    have HSM := Lib.hid (samples_ok w4 wr.heap.size _ L3 0 D4 _ A (HS.out.sen.mods0 M4) ⟨fun q hq => by have h1 := HUW.out.1 q hq; omega, fun j hj q hq => by have h1 := HUW.out.2 j hj q hq; omega⟩ (by have h1 := HKA.out; have h2 := HK5.out; omega))
                    have HM4 := Lib.hid M4
                    clear D4 M4 z4
                    go_wp2_with fail
                    refine HSM.out.mono ?_
                    rintro e w5 ⟨vx, X, j5, rfl, OX, hXl, D5, M5⟩
                    have HM5 := Lib.hid (show Mods [] wr w5 from HM4.out.comp M5 (fun q hq => by simp at hq; subst hq; exact .inr (Nat.le_refl _)))
                    obtain ⟨xa, xc, rfl⟩ := (OX.rd smpOk).len
                    have HXB := Lib.hid (show ∀ q, (Value.slice xa X.length xc).ownBlock = some q → q ≠ fb ∧ q ≠ sb from fun q hq => by have h1 := (OX.lt q hq).1; have h2 := HFB.out; have h3 := HM4.out.size; exact ⟨by omega, by omega⟩)
                    have HRX5 := Lib.hid (OX.rd smpOk)
                    have HS5 := Lib.hid (HS.out.mods0 HM5.out)
                    have HW5 := Lib.hid (HWR.out.mods0 u16Ok HM5.out)
                    have HZ5 := Lib.hid (Nat.le_trans HZW.out HM5.out.size)
                    have HSCA := Lib.hid (scan_ok (HM.out.mods0 HM5.out) (HO.out.mods0 HS5.out.M) _ HRX5.out HXB.out (.slice none 0 0) (ab := []) (RdE.nil entE _) (fun q hq => by cases hq) (host := false))
                    have HM15 := Lib.hid (HM.out.mods0 HM5.out)
                    clear OX hXl D5 M5 HSM HS HWR HM HM4 HM5
                    go_wp2_with fail
                    refine HSCA.out.mono ?_
                    rintro e w6 hp6
                    obtain ⟨a6, c6, F6b, rfl, hM6, hC6, M6⟩ := sleep_scan HM15.out HC.out hp6 (.inl (fun j hj => by
                      obtain ⟨_, vq, hvq⟩ := HTW.out.2 j (by rw [← HLEN.out]; exact hj)
                      rw [hvq]
                      exact onB_asleep (HHO.out j (by have := HLEN.out; have := HKA.out; omega))))
                    have HS6 := Lib.hid (HS5.out.scan HNN.out M6 hM6 hC6)
                    have HW6 := Lib.hid (HW5.out.mods u16Ok M6 (fun _ q hq => by have := HWN.out q hq; simp; exact this))
                    have HZ6 := Lib.hid (Nat.le_trans HZ5.out M6.size)
                    have HRX6 := Lib.hid (HRX5.out.mods smpOk M6 (fun _ q hq => by have := HXB.out q hq; simp; exact this))
                    have HM16 := Lib.hid hM6
                    have HC16 := Lib.hid hC6
                    have HSCB := Lib.hid (scan_ok HM16.out (HO.out.mods0 HS6.out.M) _ HRX6.out HXB.out (.slice ea E.length ec) (ab := E) HS6.out.ent HNN.out.e (host := true))
                    clear hM6 hC6 M6 hp6 HS5 HW5 HM15 HC HSCA HZ5
                    go_wp2_with fail
                    refine HSCB.out.mono ?_
                    rintro e w7 hp7
                    obtain ⟨a7, c7, F7, rfl, hM7, hC7, M7⟩ := sleep_scan HM16.out HC16.out hp7 (.inl (fun j hj => by
                      obtain ⟨_, vq, hvq⟩ := HTW.out.2 j (by rw [← HLEN.out]; exact hj)
                      rw [hvq]
                      exact onB_absent (by decide) (HEM.out j (by have := HLEN.out; have := HKA.out; omega))))
                    have HS7 := Lib.hid (HS6.out.scan HNN.out M7 hM7 hC7)
                    have HW7 := Lib.hid (HW6.out.mods u16Ok M7 (fun _ q hq => by have := HWN.out q hq; simp; exact this))
                    have HZ7 := Lib.hid (Nat.le_trans HZ6.out M7.size)
                    have HM17 := Lib.hid hM7
                    have HC17 := Lib.hid hC7
                    have HSCC := Lib.hid (scan_ok HM17.out (HO.out.mods0 HS7.out.M) (.slice none 0 0) (X := []) (RdE.nil smpE _) (fun q hq => by cases hq) (.slice none 0 0) (ab := []) (RdE.nil entE _) (fun q hq => by cases hq) (host := true))
                    clear hM7 hC7 M7 hp7 HS6 HW6 HM16 HC16 HSCB HRX6 HRX5 HXB HZ6
                    go_wp2_with fail
                    refine HSCC.out.mono ?_
                    rintro e w8 hp8
                    obtain ⟨a8, c8, F8, rfl, hM8, hC8, M8⟩ := sleep_scan HM17.out HC17.out hp8 (.inr rfl)
                    rw [chkM_nil]
                    have HS8 := Lib.hid (HS7.out.scan HNN.out M8 hM8 hC8)
                    have HW8 := Lib.hid (HW7.out.mods u16Ok M8 (fun _ q hq => by have := HWN.out q hq; simp; exact this))
                    have HZ8 := Lib.hid (Nat.le_trans HZ7.out M8.size)
                    clear hM8 hC8 M8 hp8 HS7 HW7 HM17 HC17 HSCC HZ7
                    generalize chkM l X = cx
                    go_wp2_with fail
                    go_roundw
                    case rel => exact ⟨p + 1, by omega, by go_num, HS8, HW8, HZ8⟩
                    case measure => simp [intOf]; omega
                  · have p1 : ¬ (p : Int) < 1 + (gm : Int) := by omega
                    have pg : (gm : Int) ≤ 3 := by omega
                    obtain ⟨F, hM, hC⟩ := HS.out.mon
                    have HMR := Lib.hid hM
                    have HCR := Lib.hid hC
                    have HSR := Lib.hid HS.out.sen
                    have HMW := Lib.hid HS.out.M
                    clear hM hC HS HMD HZW
                    have HAL2 := Lib.hid (show i = A.length from HKA.out)
                    clear i0 i1 hi hlt
                    generalize hkk : i = k at HKA HWR HSR HK5 HAL2 HWN HNN HUW0 HHO HEM ⊢
                    clear hkk HNN HUW0 HWN
                    obtain ⟨wR, hwR⟩ : ∃ x, x = wr := ⟨_, rfl⟩
                    subst hwR
                    have k5 : (k : Int) ≤ 5 := by have := HK5.out; omega
                    go_wp2_with fail
                    go_loopw [27] (fun j wq => ∃ i : Nat, i ≤ k ∧ j = .int .i64 (i : Nat) ∧ Hid (Mods [] wR wq)) (fun j _ => k - (intOf j).toNat)
                    case atStart => exact ⟨0, Nat.zero_le _, rfl, Lib.hid Mods.refl⟩
                    case round =>
                      obtain ⟨i, hi, rfl, HMX⟩ := hrel
                      have i0 : (0 : Int) ≤ (i : Int) := by omega
                      by_cases hlt : i < k
                      · have i1 : (i : Int) < (k : Int) := by omega
                        obtain ⟨bb, off, cap', hv3, hb1, hb2⟩ := HSR.out.at (by rw [← HKA.out]; omega)
                        rw [← HKA.out] at hv3
                        injection hv3 with hv4 _ hv5
                        subst hv4 hv5
                        have HRG := Lib.hid (fun W (M : Mods [] wR W) => show W.rangeAt bb (off + i * 28) (A.getD i default).S.cells.toList from (by have h := (HSR.out.mods0 M); rw [HKA.out] at h; exact h.range (by rw [← HKA.out]; exact hlt) : W.rangeAt bb (off + i * 28) (A.getD i default).S.cells.toList))
                        have hil : i < l.length := by rw [HLEN.out, ← HKA.out]; exact hlt
                        obtain ⟨_, vw, hvw⟩ := HTW.out.2 i (by rw [← HKA.out]; exact hlt)
                        have HSV := Lib.hid (show stateV l st (A.getD i default).S.number = (st.getD i 0, true) from by have h := state_selfS (st := st) HMR.out.good hil; rw [hvw] at h; exact h)
                        have HSTA := Lib.hid (fun W (M : Mods [] wR W) => state_ok (HMR.out.mods0 M) (A.getD i default).S.number)
                        have HSLT := Lib.hid (HMR.out.slt hil)
                        rw [HSV.out] at HSTA
                        have HREA := Lib.hid (fun W (M : Mods [] wR W) => reading_ok (HMR.out.mods0 M) (A.getD i default).S.number)
                        have HCD := Lib.hid (fun (h : (readM l F (A.getD i default).S.number).2 = true) => show (A.getD i default).S.samples ≤ 1 from by
                          have h2 := calm_read HMR.out HCR.out hil (num_selfS HMR.out.good hil) (by rw [hvw]; exact h)
                          rw [hvw] at h2
                          exact h2)
                        obtain ⟨wb, wo, wcap, hw3, _, _, _⟩ := HWR.out.at (by rw [was16_len]; omega)
                        rw [was16_len] at hw3
                        injection hw3 with hw4 _ hw5
                        subst hw4 hw5
                        have HWC := Lib.hid (fun W (M : Mods [] wR W) => show W.cell? ⟨wb, wo + i, none⟩ = some (.int .u16 ((st.getD i 0 : Nat) : Int)) from by
                          have h : RdE u16E W (.slice (some ⟨wb, wo, none⟩) (was16 st k).length wc) (was16 st k) := by rw [was16_len]; exact HWR.out.mods0 u16Ok M
                          have h2 := h.range (i := i) (by rw [was16_len]; exact hlt) u16Ok.len 0 (.int .u16 (((was16 st k).getD i u16E.dflt).val : Nat)) rfl
                          rw [was16_get st hlt, f16v HSLT.out] at h2
                          have h3 : wo + i * u16E.k + 0 = wo + i := by show wo + i * 1 + 0 = wo + i; omega
                          rw [h3] at h2
                          exact h2)
                        generalize readM l F (A.getD i default).S.number = rv at HREA HCD
                        generalize (A.getD i default).S = S at HRG HSTA HSV hvw HREA HCD
                        generalize st.getD i 0 = s0 at HSTA HSLT HSV HWC
                        obtain ⟨rd, okr⟩ := rv
                        simp only at HCD HREA
                        have cn := range_num (HRG.out _ HMX.out)
                        go_wp2_with fail
                        clear cn
                        refine (HSTA.out _ HMX.out).mono ?_
                        rintro en w7 ⟨rfl, M7⟩
                        have HM7 := Lib.hid (HMX.out.trans M7)
                        have cn := range_num (HRG.out _ HM7.out)
                        clear M7
                        simp only
                        go_wp2_with fail
                        clear cn
                        refine (HREA.out _ HM7.out).mono ?_
                        rintro en w8 ⟨rfl, hrb, M8⟩
                        have HM8 := Lib.hid (HM7.out.trans M8)
                        have cw := HWC.out _ HM8.out
                        have c27 := HRG.out _ HM8.out 27 (.int .i64 S.samples) rfl
                        clear M8 hrb
                        simp only
                        cases okr with
                        | false =>
                          go_wp2_with fail
                          go_roundw
                          case rel => exact ⟨i + 1, by omega, by go_num, HM8⟩
                          case measure => simp [intOf]; omega
                        | true =>
                          have hs1 := HCD.out rfl
                          have d1 : decide (S.samples > 1) = false := decide_eq_false (by omega)
                          have d2 : decide ((1 : Int) < S.samples) = false := decide_eq_false (by omega)
                          clear hs1
                          go_wp2_with fail
                          go_roundw
                          case rel => exact ⟨i + 1, by omega, by go_num, HM8⟩
                          case measure => simp [intOf]; omega
                      · have i1 : ¬ (i : Int) < (k : Int) := by omega
                        have HMZ := Lib.hid (HMW.out.trans HMX.out)
                        go_wp2_with fail
                        refine (awake16_ok _ (HO.out.mods0 HMZ.out)).mono ?_
                        rintro e wz ⟨rfl, MZ⟩
                        go_wp2
                        go_ret
                        exact ⟨rfl, HMZ.out.trans MZ⟩
      · have d300 : decide ((L3.length : Int) > 100) = true := decide_eq_true (by omega)
        go_enter Tryz.func3, Tryz.ntmps3
        go_wp2_with fail
        refine HL.out.mono ?_
        rw [HLL.out]
        rintro e w' ⟨rfl, rfl⟩
        go_wp2_with fail
        refine (awake16_ok _ (HO.out)).mono ?_
        rintro e w1 ⟨rfl, M1⟩
        go_wp2
        go_ret
        exact ⟨rfl, M1⟩
    · have d100 : decide ((L2.length : Int) > 100) = true := decide_eq_true (by omega)
      go_enter Tryz.func3, Tryz.ntmps3
      go_wp2_with fail
      refine HL.out.mono ?_
      rw [HLL.out]
      rintro e w' ⟨rfl, rfl⟩
      go_wp2_with fail
      refine (awake16_ok _ (HO.out)).mono ?_
      rintro e w1 ⟨rfl, M1⟩
      go_wp2
      go_ret
      exact ⟨rfl, M1⟩
  · have HLL := Lib.hid (decide_eq_false hl)
    go_enter Tryz.func3, Tryz.ntmps3
    go_wp2_with fail
    refine HL.out.mono ?_
    rw [HLL.out]
    rintro e w' ⟨rfl, rfl⟩
    go_wp2_with fail
    refine (awake16_ok _ (HO.out)).mono ?_
    rintro e w1 ⟨rfl, M1⟩
    go_wp2
    go_ret
    exact ⟨rfl, M1⟩
end Go.Proofs.YtijjkonephjodaaGreatDoor
