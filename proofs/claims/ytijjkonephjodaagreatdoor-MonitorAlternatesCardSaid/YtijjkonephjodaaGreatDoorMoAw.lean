/- law16's example and sanity check: contracts. -/
import Derived.Test.YtijjkonephjodaaGreatDoorMoSc
import Derived.Test.YtijjkonephjodaaGreatDoorMoNew
import Derived.Test.YtijjkonephjodaaGreatDoorMoAwP
import Derived.Test.YtijjkonephjodaaGreatDoorOneE
namespace Go.Proofs.YtijjkonephjodaaGreatDoor
open Go.RowKit
set_option linter.unusedVariables false
set_option linter.unusedSimpArgs false
set_option maxRecDepth 100000
set_option maxHeartbeats 1000000 in
theorem example16_ok (w : World) :
    Calls Tryz.prog 23 #[] w fun e w' => e = .returned (.agg exMs.cells) ∧ Mods [] w w' := by
  go_enter Tryz.func23, Tryz.ntmps23
  go_wp2_with (refine wpList_store_row (cs := exMs.cells) rfl 40 (.tmp 0) (.tmp 4) rfl (heap_alloc_new w _) (by rfl) (by rfl) (by rfl) (Sen.infoS exMs) exMs_one ?_; intro w2 R2 M2)
  refine bodyPost_ret (results_cell_row rfl _ _ w.heap.size _ _ _ _ rfl R2 Tryz.underlying40 rfl (Sen.infoS exMs)) rfl ?_
  exact ⟨rfl, (Mods.refl.alloc _).comp M2 fun k hk => by simp at hk; subst hk; exact .inr (Nat.le_refl _)⟩
theorem rawC {w : World} {g : Nat} (h : w.heap[g]? = some (.cells #[.int .u8 85, .int .u8 86, .int .u8 70] 63 (0, 0))) {k : Nat} (hk : k < 3) : w.cell? ⟨g, k, none⟩ = some (.int .u8 ((rawW.getD k 0 : Nat) : Int)) := by
  rw [cell_blk h]
  match k, hk with
  | 0, _ | 1, _ | 2, _ => rfl
theorem wantC {w : World} {g : Nat} (h : w.heap[g]? = some (.cells #[.int .i64 1, .int .i64 0, .int .i64 1] 101 (0, 0))) {k : Nat} (hk : k < 3) : w.cell? ⟨g, k, none⟩ = some (.int .i64 ((wantW.getD k 0 : Nat) : Int)) := by
  rw [cell_blk h]
  match k, hk with
  | 0, _ | 1, _ | 2, _ => rfl
theorem smpC {k : Nat} (hk : k < 3) : [Value.int .u8 4, .bool true, .int .u8 ((rawW.getD k 0 : Nat) : Int), .int .u16 0] = (smpW k).cells := by
  match k, hk with
  | 0, _ | 1, _ | 2, _ => rfl
/-- A monitor of the example, k scans done. -/
def AwAt (w : World) (mb fb sb : Nat) (vs va : Value) (l : List SenX) (k : Nat) : Prop :=
  ∃ F st, MonAt w mb fb sb vs va l [] F st ∧ (F.getD 0 default).W = winW k ∧ (F.getD 0 default).n = 0 ∧ st.getD 0 0 = wasW.getD k 0
set_option maxHeartbeats 8000000 in
theorem awake16_ok (w : World) (hO : OffAt w) :
    Calls Tryz.prog 11 #[] w fun e w' => e = .returned (.bool true) ∧ Mods [] w w' := by
  have HO := Lib.hid hO
  clear hO
  go_enter Tryz.func11, Tryz.ntmps11
  go_wp2_with fail
  refine (example16_ok _).mono ?_
  rintro e w1 ⟨rfl, M1⟩
  have HM1 := Lib.hid M1
  clear M1
  go_wp2_with (refine wpList_oneE senOk (by decide) (by rfl) (.tmp 9) rfl 10 rfl exMx exMs.cells (by rfl) (by rfl) ?_; go_loud (intro CS hCS; have HMA := Lib.hid (HM1.out.alloc (.cells CS 40)); have HRS := Lib.hid (show RdSens (w1.alloc (.cells CS 40)) (.slice (some ⟨w1.heap.size, 0, none⟩) 1 1) [exMx] from ⟨RdE.one (a := exMx) (heap_alloc_new w1 _) hCS, fun i hi => by match i, hi with | 0, _ => exact exMs_is _⟩); clear hCS))
  have HA0 := Lib.hid (show chkE [] = 0 from by decide)
  refine (new_ok _ _ _ HRS.out _ [] (RdE.nil ascE _) (.inl (by decide))).mono ?_
  rintro e w2 ⟨M2, hp⟩
  rw [exMx_chk, if_pos rfl, HA0.out, if_pos rfl] at hp
  obtain ⟨mb, fb, sb, vs, va, l, rfl, TW, hM, hLo⟩ := hp
  have HM2 := Lib.hid (HMA.out.trans M2)
  have HTW := Lib.hid TW
  have HL1 := Lib.hid (show l.length = 1 from TW.1)
  have HAW := Lib.hid (show AwAt w2 mb fb sb vs va l 0 from ⟨_, _, hM, by rw [HL1.out]; rfl, by rw [HL1.out]; rfl, by rw [HL1.out]; rfl⟩)
  have HB := Lib.hid (show w.heap.size ≤ fb ∧ w.heap.size ≤ sb from ⟨Nat.le_trans HMA.out.size hLo.b.2.1, Nat.le_trans HMA.out.size hLo.b.2.2⟩)
  clear M2 TW hM hLo HMA HRS HM1
  go_wp2_with fail
  have A1 := heap_alloc2_old w2 (.cells #[.int .u8 85, .int .u8 86, .int .u8 70] 63) (.cells #[.int .i64 1, .int .i64 0, .int .i64 1] 101)
  have A2 := heap_alloc2_new w2 (.cells #[.int .u8 85, .int .u8 86, .int .u8 70] 63) (.cells #[.int .i64 1, .int .i64 0, .int .i64 1] 101)
  have AM := ((Mods.refl (S := []) (w := w2)).alloc (.cells #[.int .u8 85, .int .u8 86, .int .u8 70] 63)).alloc (.cells #[.int .i64 1, .int .i64 0, .int .i64 1] 101)
  have HAW3 := Lib.hid (show AwAt ((w2.alloc (.cells #[.int .u8 85, .int .u8 86, .int .u8 70] 63)).alloc (.cells #[.int .i64 1, .int .i64 0, .int .i64 1] 101)) mb fb sb vs va l 0 from by obtain ⟨F, st, h, h2⟩ := HAW.out; exact ⟨F, st, h.mods0 AM, h2⟩)
  have HM3 := Lib.hid (HM2.out.trans AM)
  generalize (w2.alloc (.cells #[.int .u8 85, .int .u8 86, .int .u8 70] 63)).alloc (.cells #[.int .i64 1, .int .i64 0, .int .i64 1] 101) = w3 at A1 A2 AM HAW3 HM3 ⊢
  have HGN := Lib.hid (show w2.heap.size ≠ fb ∧ w2.heap.size ≠ sb ∧ w2.heap.size + 1 ≠ fb ∧ w2.heap.size + 1 ≠ sb from by
    obtain ⟨F, st, h, _⟩ := HAW.out
    have h1 := h.fbl
    have h2 := h.sbl
    omega)
  generalize w2.heap.size = g at A1 A2 HGN ⊢
  clear AM HM2 HAW
  go_loopw [5] (fun i wr => ∃ k : Nat, k ≤ 3 ∧ i = .int .i64 (k : Nat) ∧ Hid (AwAt wr mb fb sb vs va l k) ∧ Mods [] w wr ∧ wr.heap[g]? = some (.cells #[.int .u8 85, .int .u8 86, .int .u8 70] 63 (0, 0)) ∧ wr.heap[g + 1]? = some (.cells #[.int .i64 1, .int .i64 0, .int .i64 1] 101 (0, 0))) (fun i _ => 3 - (intOf i).toNat)
  case atStart => exact ⟨0, by omega, rfl, HAW3, HM3.out, A1, A2⟩
  case round =>
    obtain ⟨k, hk, rfl, HW, M, R1, R2⟩ := hrel
    clear HAW3 HM3 A1 A2
    have i0 : (0 : Int) ≤ (k : Int) := by omega
    by_cases hlt : k < 3
    · have i1 : (k : Int) < 3 := by omega
      obtain ⟨F, st, hM, hW, hn, hs⟩ := HW.out
      have HMO := Lib.hid hM
      have HR1 := Lib.hid R1
      have HR2 := Lib.hid R2
      have HM := Lib.hid M
      have cr := rawC R1 hlt
      have HSM := Lib.hid (smpC hlt)
      have HSC := Lib.hid (scanW HTW.out hlt hW hn hs)
      have HCK := Lib.hid (chkW HTW.out hlt)
      have HEV := Lib.hid (evW_ok hlt)
      have HWC := Lib.hid (fun (W : World) (h : W.heap[g + 1]? = some (.cells #[.int .i64 1, .int .i64 0, .int .i64 1] 101 (0, 0))) => wantC h hlt)
      clear hM hW hn hs HW R1 R2 M
      generalize rawW.getD k 0 = rw0 at cr HSM
      go_wp2_with (refine wpList_oneE smpOk (by decide) (by rfl) (.tmp 31) rfl 32 rfl (smpW k) #[.int .u8 4, .bool true, .int .u8 ((rw0 : Nat) : Int), .int .u16 0] (by rfl) HSM.out ?_; go_loud (intro CS hCS; have HMA := Lib.hid ((Mods.refl (S := []) (w := wr)).alloc (.cells CS 103)); have HX := Lib.hid (RdE.one (E := smpE) (a := smpW k) (heap_alloc_new wr (.cells CS 103)) hCS); clear hCS))
      have HNB := Lib.hid (show wr.heap.size ≠ fb ∧ wr.heap.size ≠ sb from ⟨by have := HMO.out.fbl; omega, by have := HMO.out.sbl; omega⟩)
      have HSCAN := Lib.hid (scan_ok (HMO.out.mods0 HMA.out) (HO.out.mods0 (HM.out.trans HMA.out)) _ HX.out (fun q hq => by cases hq; exact HNB.out) (.slice none 0 0) (ab := []) (RdE.nil entE _) (fun q hq => by cases hq) (host := false))
      refine (HSCAN.out).mono ?_
      rintro e w5 hp
      unfold ScanPost at hp
      rw [HCK.out, if_pos rfl] at hp
      obtain ⟨vo, F2, st2, rfl, hS⟩ := hp
      have hEq : scanE [] [] false [smpW k] l F st l.length = evW k := by
        rw [HL1.out]
        show [] ++ (scanAt [] [] false [smpW k] l F st 0).1 = evW k
        rw [HSC.out]
        rfl
      have hlt0 := hS.lt 0 (by rw [HL1.out]; decide)
      rw [HSC.out] at hlt0
      have HAW5 := Lib.hid (show AwAt w5 mb fb sb vs va l (k + 1) from ⟨F2, st2, hS.mon, hlt0⟩)
      have HM5 := Lib.hid (show Mods [] w w5 from (HM.out.trans HMA.out).comp hS.M (fun q hq => .inr (by have := HB.out; simp at hq; omega)))
      have HOE := Lib.hid (show OwnE evE w5 (wr.alloc (.cells CS 103)).heap.size vo (evW k) from hEq ▸ hS.own)
      have HR15 := Lib.hid (hS.M.heap (HMA.out.heap HR1.out (by simp)) (by have := HGN.out; simp; omega))
      have HR25 := Lib.hid (hS.M.heap (HMA.out.heap HR2.out (by simp)) (by have := HGN.out; simp; omega))
      have cw := HWC.out _ HR25.out
      have HRE := Lib.hid (HOE.out.rd evOk)
      obtain ⟨ea, ec, rfl⟩ := HRE.out.len
      clear hS hEq hlt0 HSCAN HX HMA HWC HSC HCK HMO
      have HEL := Lib.hid HEV.out.1
      have HED := Lib.hid HEV.out.2
      clear HEV
      by_cases h2 : k = 2
      · have HEQ := Lib.hid (HED.out h2)
        have hlen : (evW k).length = 1 := by rw [← List.length_map (f := fun x : Evt => x.de), HEQ.out]; rfl
        have d2 : decide ((k : Int) = 2) = true := decide_eq_true (by omega)
        have d2b : ((k : Int) == 2) = true := by simpa using d2
        obtain ⟨eb, eo, ec', hv, _, _, _⟩ := HRE.out.at (by omega)
        injection hv with hv1 _ hv2
        subst hv1 hv2
        have HRG := Lib.hid (HRE.out.range (i := 0) (by omega) evOk.len)
        have cde : w5.cell? ⟨eb, eo + 6, none⟩ = some (.bool true) := by
          have h := HRG.out 6 (.bool ((evW k).getD 0 default).de) rfl
          have hde : ((evW k).getD 0 default).de = true := by
            have h3 := HEQ.out
            generalize evW k = E at h3
            cases E with
            | nil => cases h3
            | cons x E => rw [List.map_cons] at h3; injection h3 with h4 _
          rw [hde] at h
          simpa using h
        have hn : wantW.getD k 0 = 1 := by rw [← HEL.out, hlen]
        rw [hlen]
        rw [hn] at cw
        clear HED HRG hn h2
        go_wp2_with fail
        go_roundw
        case rel => exact ⟨k + 1, by omega, by go_num, HAW5, HM5.out, HR15.out, HR25.out⟩
        case measure => simp [intOf]; omega
      · have d2 : decide ((k : Int) = 2) = false := decide_eq_false (by omega)
        have d2b : ((k : Int) == 2) = false := by simpa using d2
        rw [HEL.out]
        generalize wantW.getD k 0 = nw at cw ⊢
        clear HED h2
        go_wp2_with fail
        go_roundw
        case rel => exact ⟨k + 1, by omega, by go_num, HAW5, HM5.out, HR15.out, HR25.out⟩
        case measure => simp [intOf]; omega
    · have i1 : ¬ (k : Int) < 3 := by omega
      go_wp2_with fail
      go_ret
      exact ⟨rfl, M⟩
end Go.Proofs.YtijjkonephjodaaGreatDoor
