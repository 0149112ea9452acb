/- Monitor.Scan: a contract. -/
import Derived.Test.YtijjkonephjodaaGreatDoorMoSt
import Derived.Test.YtijjkonephjodaaGreatDoorMoScP
import Derived.Test.YtijjkonephjodaaGreatDoorAppQ
namespace Go.Proofs.YtijjkonephjodaaGreatDoor
open Go.RowKit
set_option linter.unusedVariables false
set_option linter.unusedSimpArgs false
set_option maxRecDepth 100000
/-- The first k sensors of a monitor are scanned. -/
structure ScRel (w : World) (mb fb sb : Nat) (vs va : Value) (l : List SenX) (A : List Asc) (F : List FltX) (st : List Nat) (ab : List Ent) (host : Bool) (X : List Smp) (k : Nat) (vo : Value) (F' : List FltX) (st' : List Nat) (wr : World) : Prop where
  own : OwnE evE wr w.heap.size vo (scanE A ab host X l F st k)
  mon : MonAt wr mb fb sb vs va l A F' st'
  M : Mods [fb, sb] w wr
  lt : ∀ j, j < k → (F'.getD j default).W = (scanAt A ab host X l F st j).2.1.1 ∧ (F'.getD j default).n = (scanAt A ab host X l F st j).2.1.2 ∧ st'.getD j 0 = (scanAt A ab host X l F st j).2.2
  ge : ∀ j, k ≤ j → F'.getD j default = F.getD j default ∧ st'.getD j 0 = st.getD j 0
  win : ∀ j q, (F'.getD j default).win.ownBlock = some q → w.heap.size ≤ q ∨ (F.getD j default).win.ownBlock = some q
  wo : ∀ j q, j < F'.length → (F'.getD j default).W ≠ [] → (F'.getD j default).win.ownBlock = some q → vo.ownBlock ≠ some q
/-- What Scan gives. -/
def ScanPost (w : World) (mb fb sb : Nat) (vs va : Value) (l : List SenX) (A : List Asc) (F : List FltX) (st : List Nat) (ab : List Ent) (host : Bool) (X : List Smp) (e : Ending) (w' : World) : Prop :=
  if chkM l X = 0 then ∃ vo F' st', e = .returned (.tuple #[vo, .int .i64 0]) ∧ ScRel w mb fb sb vs va l A F st ab host X l.length vo F' st' w'
  else e = .returned (.tuple #[.slice none 0 0, .int .i64 (chkM l X)]) ∧ Mods [] w w'
theorem getD_setF {F : List FltX} {k : Nat} (hk : k < F.length) (f : FltX) (j : Nat) : (F.set k f).getD j default = if j = k then f else F.getD j default := by
  rw [List.getD_eq_getElem?_getD, List.getElem?_set]
  by_cases hjk : k = j
  · subst hjk; rw [if_pos rfl, if_pos hk, if_pos rfl]; rfl
  · rw [if_neg hjk, if_neg (fun h => hjk h.symm), List.getD_eq_getElem?_getD]
theorem getD_setN {F : List Nat} {k : Nat} (hk : k < F.length) (f j : Nat) : (F.set k f).getD j 0 = if j = k then f else F.getD j 0 := by
  rw [List.getD_eq_getElem?_getD, List.getElem?_set]
  by_cases hjk : k = j
  · subst hjk; rw [if_pos rfl, if_pos hk, if_pos rfl]; rfl
  · rw [if_neg hjk, if_neg (fun h => hjk h.symm), List.getD_eq_getElem?_getD]
section
variable {w wr w4 w' w'' : World} {mb fb sb : Nat} {vs va : Value} {l : List SenX} {A : List Asc} {F F0 : List FltX} {st st0 : List Nat} {ab : List Ent} {host : Bool} {X : List Smp} {k : Nat} {vo : Value} {F' : List FltX} {st' : List Nat} {T : List Nat}
/-- A monitor stays where only blocks turn of which it needs nothing. -/
theorem MonAt.modsR (h : MonAt w mb fb sb vs va l A F st) (M : Mods T w w') (h1 : mb ∉ T) (h2 : fb ∉ T) (h3 : sb ∉ T) (hS : l ≠ [] → ∀ k, vs.ownBlock = some k → k ∉ T) (hA : A ≠ [] → ∀ k, va.ownBlock = some k → k ∉ T)
    (hP : ∀ i, i < l.length → (l.getD i default).P ≠ [] → ∀ k, (l.getD i default).S.conv.pts.ownBlock = some k → k ∉ T) (hF : ∀ i, i < F.length → (F.getD i default).W ≠ [] → ∀ k, (F.getD i default).win.ownBlock = some k → k ∉ T) : MonAt w' mb fb sb vs va l A F st :=
  ⟨M.heap h.blk h1, ⟨h.sens.rd.mods senOk M hS, fun i hi => (h.sens.is i hi).mods M (hP i hi)⟩, h.good, h.most, h.asc.mods ascOk M hA, h.chk, h.amost, M.heap h.flt h2, h.flen, fun i hi => (h.isf i hi).mods M (hF i hi), h.fok, h.sts.mods M h3, h.slen, h.sbit, h.mfs, h.oS, h.oA, h.oP, h.oF⟩
/-- A monitor that lay in a world stays where only younger blocks turn, none of them a window's. -/
theorem MonAt.outside (h0 : MonAt w mb fb sb vs va l A F0 st0) (h : MonAt w' mb fb sb vs va l A F st) (M : Mods T w' w'') (hT : ∀ q, q ∈ T → w.heap.size ≤ q)
    (hF : ∀ i, i < F.length → (F.getD i default).W ≠ [] → ∀ k, (F.getD i default).win.ownBlock = some k → k ∉ T) : MonAt w'' mb fb sb vs va l A F st := by
  have hn : ∀ q, q < w.heap.size → q ∉ T := fun q hq hm => by have := hT q hm; omega
  exact h.modsR M (hn _ (lt_of_block h0.blk)) (hn _ h0.fbl) (hn _ h0.sbl) (fun hl q hq => hn q (h0.sens.rd.block_lt senOk hl q hq)) (fun hl q hq => hn q (h0.asc.block_lt ascOk hl q hq))
    (fun i hi hl q hq => hn q ((h0.sens.is i hi).conv.rd.block_lt hl q hq)) hF
theorem ScRel.start (h : MonAt w mb fb sb vs va l A F st) (M : Mods [] w wr) : ScRel w mb fb sb vs va l A F st ab host X 0 (.slice none 0 0) F st wr :=
  ⟨OwnE.nil _ _ _, h.mods0 M, M.nil, fun j hj => by omega, fun j hj => ⟨rfl, rfl⟩, fun j q hq => .inr hq, fun j q hj hW hq hv => by cases hv⟩
theorem u8s_ne {W : List Int} (h : W ≠ []) : u8s W ≠ [] := fun h0 => h (by cases W with | nil => rfl | cons a W => cases h0)
/-- One sensor more. -/
theorem ScRel.next (h0 : MonAt w mb fb sb vs va l A F st) (h : ScRel w mb fb sb vs va l A F st ab host X k vo F' st' wr) (hk : k < l.length) {f : FltX} {s : Nat} {v2 : Value}
    (hM4 : MonAt w4 mb fb sb vs va l A (F'.set k f) (st'.set k s)) (M4 : Mods [fb, sb] wr w4) (M5 : Mods T w4 w') (hT : ∀ q, q ∈ T → vo.ownBlock = some q)
    (hO : OwnE evE w' w.heap.size v2 (scanE A ab host X l F st (k + 1))) (hv2 : ∀ y, v2.ownBlock = some y → vo.ownBlock = some y ∨ w4.heap.size ≤ y)
    (h1 : f.W = (scanAt A ab host X l F st k).2.1.1) (h2 : f.n = (scanAt A ab host X l F st k).2.1.2) (h3 : s = (scanAt A ab host X l F st k).2.2)
    (hw : f = F'.getD k default ∨ ∀ q, f.win.ownBlock = some q → wr.heap.size ≤ q) : ScRel w mb fb sb vs va l A F st ab host X (k + 1) v2 (F'.set k f) (st'.set k s) w' := by
  have e1 := getD_setF (F := F') (k := k) (by rw [h.mon.flen]; exact hk) f
  have e2 := getD_setN (F := st') (k := k) (by rw [h.mon.slen]; exact hk) s
  have hwo : ∀ j q, j < (F'.set k f).length → ((F'.set k f).getD j default).W ≠ [] → ((F'.set k f).getD j default).win.ownBlock = some q → vo.ownBlock ≠ some q := by
    intro j q hj hW hq
    rw [List.length_set] at hj
    rw [e1] at hW hq
    by_cases hjk : j = k
    · rw [if_pos hjk] at hW hq
      rcases hw with hw | hw
      · rw [hw] at hW hq
        exact h.wo k q (by rw [h.mon.flen]; exact hk) hW hq
      · intro hv
        have a1 := (h.own.lt q hv).2
        have a2 := hw q hq
        omega
    · rw [if_neg hjk] at hW hq
      exact h.wo j q hj hW hq
  have hT0 : ∀ q, q ∈ T → w.heap.size ≤ q := fun q hq => (h.own.lt q (hT q hq)).1
  refine ⟨hO, MonAt.outside h0 hM4 M5 hT0 (fun i hi hW q hq hm => hwo i q hi hW hq (hT q hm)), (h.M.trans M4).comp M5 (fun q hq => .inr (hT0 q hq)), fun j hj => ?_, fun j hj => ?_, fun j q hq => ?_, fun j q hj hW hq hv => ?_⟩
  · rw [e1, e2]
    by_cases hjk : j = k
    · rw [if_pos hjk, if_pos hjk, hjk]; exact ⟨h1, h2, h3⟩
    · rw [if_neg hjk, if_neg hjk]; exact h.lt j (by omega)
  · rw [e1, e2, if_neg (by omega), if_neg (by omega)]; exact h.ge j (by omega)
  · rw [e1] at hq
    by_cases hjk : j = k
    · rw [if_pos hjk] at hq
      rcases hw with hw | hw
      · rw [hw] at hq; rw [hjk]; exact h.win k q hq
      · exact .inl (Nat.le_trans h.M.size (hw q hq))
    · rw [if_neg hjk] at hq; exact h.win j q hq
  · rcases hv2 q hv with h4 | h4
    · exact hwo j q hj hW hq h4
    · have h5 := (hM4.isf j hj).rd.block_lt (u8s_ne hW) q hq
      omega
theorem MonAt.zero (h : MonAt w mb fb sb vs va l A F st) (hO : OffAt w) : 0 ∉ [fb, sb] := by
  have h0 := hO 0 (by decide)
  intro hm
  simp at hm
  rcases hm with rfl | rfl
  · rw [cell_blk h.flt, List.getElem?_toArray] at h0
    rcases Nat.eq_zero_or_pos F.length with hl | hl
    · rw [List.eq_nil_of_length_eq_zero hl] at h0
      cases h0
    · have hg := cellsE_get fltOk.len F 0 hl 0 (by decide)
      rw [Nat.zero_mul] at hg
      rw [hg] at h0
      cases h0
  · rw [cell_blk h.sts, List.getElem?_toArray] at h0
    cases st with
    | nil => cases h0
    | cons x st => injection h0 with h1; injection h1 with h2; cases h2
theorem zFlt_ok (h : MonAt w mb fb sb vs va l A F st) {k : Nat} (hk : k < l.length) : MonAt (w.setCells fb (k * 2) [.slice none 0 0, .int .i64 0]) mb fb sb vs va l A (F.set k zFlt) (st.set k (st.getD k 0)) := by
  rw [set_getN]
  refine MonAt.putF h hk (f := zFlt) ⟨Rd.nil _, fun i => by simp [zFlt], by simp [zFlt], by unfold I64 zFlt; decide⟩ ?_ (fun q hq => by cases hq)
  have hv := h.valid hk
  rw [fltB_eq, hv, Bool.true_and, decide_eq_true_eq]
  have hs : 1 ≤ (l.getD k default).S.samples := by
    unfold validB at hv
    simp only [Bool.and_eq_true, decide_eq_true_eq] at hv
    have := hv.1.2
    omega
  exact ⟨by show ((0 : Nat) : Int) ≤ _; omega, by show (0 : Int) ≤ 0; omega, by show (0 : Int) ≤ 3; omega, .inl (by show (0 : Int) < 3; omega)⟩
set_option maxHeartbeats 8000000 in
theorem scan_ok (h : MonAt w mb fb sb vs va l A F st) (hO : OffAt w) (vx : Value) (hX : RdE smpE w vx X) (oX : ∀ q, vx.ownBlock = some q → q ≠ fb ∧ q ≠ sb) (vab : Value) (hab : RdE entE w vab ab) (oab : ∀ q, vab.ownBlock = some q → q ≠ fb ∧ q ≠ sb) :
    Calls Tryz.prog 15 #[.pointer (some ⟨mb, 0, none⟩), vx, vab, .bool host] w fun e w' => ScanPost w mb fb sb vs va l A F st ab host X e w' := by
  have H := Lib.hid h
  have HCM := Lib.hid (chkM_ok h vx X hX)
  have HP := Lib.hid (fun e w' => show ScanPost w mb fb sb vs va l A F st ab host X e w' = (if chkM l X = 0 then ∃ vo F' st', e = .returned (.tuple #[vo, .int .i64 0]) ∧ ScRel w mb fb sb vs va l A F st ab host X l.length vo F' st' w'
  else e = .returned (.tuple #[.slice none 0 0, .int .i64 (chkM l X)]) ∧ Mods [] w w') from rfl)
  have HXX := Lib.hid (fun W (M : Mods [fb, sb] w W) => hX.mods smpOk M (fun _ q hq => by simpa using oX q hq))
  have HAB := Lib.hid (fun W (M : Mods [fb, sb] w W) => hab.mods entOk M (fun _ q hq => by simpa using oab q hq))
  have HOF := Lib.hid (fun W (M : Mods [fb, sb] w W) => hO.mods M (h.zero hO))
  obtain ⟨ad, cap, rfl⟩ := h.sens.rd.len
  obtain ⟨aad, acap, rfl⟩ := h.asc.len
  obtain ⟨xad, xcap, rfl⟩ := hX.len
  obtain ⟨bad, bcap, rfl⟩ := hab.len
  have hcap : X.length ≤ 9223372036854775807 := by obtain ⟨_, _, _, h1, h2, _⟩ := hX; exact Nat.le_trans h1 h2
  have hl32 := h.most
  have HL32 := Lib.hid hl32
  clear hX oX hab oab hO h
  by_cases hc : chkM l X = 0
  · have HC := Lib.hid hc
    rw [hc] at HCM
    clear hc
    go_enter Tryz.func15, Tryz.ntmps15
    go_wp2_with fail
    refine HCM.out.mono ?_
    rintro e w1 ⟨rfl, M1⟩
    have HS0 := Lib.hid (ScRel.start (ab := ab) (host := host) (X := X) H.out M1)
    have c0 := HS0.out.mon.c0
    clear M1
    go_wp2_with fail
    clear c0
    go_loopw [11, 31] (fun vo i wr => ∃ k : Nat, k ≤ l.length ∧ i = .int .i64 (k : Nat) ∧ Hid (∃ F' st', ScRel w mb fb sb (.slice ad l.length cap) (.slice aad A.length acap) l A F st ab host X k vo F' st' wr)) (fun _ i _ => l.length - (intOf i).toNat)
    case atStart => exact ⟨0, Nat.zero_le _, rfl, Lib.hid ⟨F, st, HS0.out⟩⟩
    case round =>
      obtain ⟨k, hk, rfl, HN⟩ := hrel
      have i0 : (0 : Int) ≤ (k : Int) := by omega
      by_cases hlt : k < l.length
      · have i1 : (k : Int) < (l.length : Int) := by omega
        obtain ⟨F', st', hS⟩ := HN.out
        obtain ⟨oa0, oc0, rfl⟩ := (hS.own.rd evOk).len
        have HS := Lib.hid hS
        clear hS HN HS0
        obtain ⟨bb, off, cap', hv2, hb1, hb2⟩ := HS.out.mon.sens.at (by omega)
        injection hv2 with hv3 hv5 hv4
        subst hv3 hv4
        clear hv5
        have HRG := Lib.hid (show wr.rangeAt bb (off + k * 28) (l.getD k default).S.cells.toList from HS.out.mon.sens.range hlt)
        have HIS := Lib.hid (HS.out.mon.sens.is k hlt)
        have HISM := Lib.hid (fun W F st (h : MonAt W mb fb sb (.slice (some ⟨bb, off, none⟩) l.length cap) (.slice aad A.length acap) l A F st) => show IsSen W (l.getD k default).S (l.getD k default).P from h.sens.is k hlt)
        have HSA := Lib.hid (show scanAt A ab host X l F st k = if onB A ab host (l.getD k default).S then (evsM (l.getD k default).S (stepR (l.getD k default).S (l.getD k default).P (F.getD k default).W (F.getD k default).n (st.getD k 0) (pickX X (l.getD k default).S.number)).1 (stepR (l.getD k default).S (l.getD k default).P (F.getD k default).W (F.getD k default).n (st.getD k 0) (pickX X (l.getD k default).S.number)).2.1.toNat, (stepR (l.getD k default).S (l.getD k default).P (F.getD k default).W (F.getD k default).n (st.getD k 0) (pickX X (l.getD k default).S.number)).2.2.1, (stepR (l.getD k default).S (l.getD k default).P (F.getD k default).W (F.getD k default).n (st.getD k 0) (pickX X (l.getD k default).S.number)).2.2.2) else ([], ([], 0), st.getD k 0) from rfl)
        have HRIN := Lib.hid (stepR_in (S := (l.getD k default).S) (P := (l.getD k default).P) (W := (F.getD k default).W) (n := (F.getD k default).n) (s := st.getD k 0) (x := pickX X (l.getD k default).S.number))
        have HSTEP := Lib.hid (fun W (h : MonAt W mb fb sb (.slice (some ⟨bb, off, none⟩) l.length cap) (.slice aad A.length acap) l A F' st') => stepM_ok h k hlt (pickX X (l.getD k default).S.number) (stepR (l.getD k default).S (l.getD k default).P (F.getD k default).W (F.getD k default).n (st.getD k 0) (pickX X (l.getD k default).S.number)) (by rw [(HS.out.ge k (Nat.le_refl _)).1, (HS.out.ge k (Nat.le_refl _)).2]))
        have HON := Lib.hid (show onB A ab host (l.getD k default).S = (presR A ab (entS (l.getD k default).S) && (!(l.getD k default).S.host || host)) from rfl)
        have HENT := Lib.hid (entS_cells HIS.out)
        have hone := Lib.hid HIS.out.conv.rd.one
        generalize (l.getD k default).P = P at HIS HSA HSTEP HRIN HISM
        generalize (l.getD k default).S = S at HRG HIS HSA HSTEP HON HENT hone HRIN HISM
        generalize stepR S P (F.getD k default).W (F.getD k default).n (st.getD k 0) (pickX X S.number) = R at HSA HSTEP HRIN
        go_wp2_with (first
          | (refine wpList_load_mid rfl 40 (.tmp 34) rfl bb (off + k * 28) (by rfl) S.cells.toList _ HRG.out Tryz.underlying40 rfl (Sen.infoS S) ?_)
          | (refine wpList_store_row (cs := S.cells) rfl 40 (.tmp 13) (.tmp 35) rfl (heap_alloc_new wr _) (by rfl) (by rfl) (by rfl) (Sen.infoS _) (Sen.one _ hone.out) ?_; go_loud (intro w3 R3 M3; have HB3 := Lib.hid (SenBox.mk R3); have HM3 := Lib.hid (freshA M3); have HG3 := Lib.hid (lt_of_block R3); clear R3 M3)))
        have HMN3 := Lib.hid (HS.out.mon.mods0 HM3.out)
        have HC1n := Lib.hid HMN3.out.c1
        have HRGE := Lib.hid (show w3.rangeAt wr.heap.size 4 (entS S).cells from fun j u hu => by
          rw [HENT.out] at hu
          rw [HB3.out.c]
          match j, hu with
          | 0, hu => exact hu
          | 1, hu => exact hu)
        have HPR := Lib.hid (fun W (M : Mods [] w3 W) => presentE_ok W A _ (HMN3.out.mods0 M).asc _ ab (HAB.out W ((HS.out.M.trans HM3.out.nil).trans M.nil)) (entS S))
        generalize hg13 : wr.heap.size = g13 at HB3 HG3 HRGE ⊢
        (try dsimp only [Act.put])
        refine heldStart (S := fun W => Mods [] w3 W) 13 rfl (by kernel_rfl) Mods.refl.drew (fun hHeld => ?_)
        refine takeD (i := 0) (d := 37) (v := ?_) rfl rfl (by kernel_rfl) (by kernel_rfl) (by kernel_rfl) (fun _ _ _ h => h) (Or.inl ⟨by rfl, ?_⟩) hHeld ?_
        rotate_left 1
        · (intro w hSw; (try dsimp only at hSw); go_simp; (try with_reducible rfl))
        simp only [List.setIfInBounds_toArray, List.set_cons_zero, List.set_cons_succ]
        refine takeD (i := 1) (d := 38) (v := ?_) rfl rfl (by kernel_rfl) (by kernel_rfl) (by kernel_rfl) (fun _ _ _ h => h) (Or.inl ⟨by rfl, ?_⟩) hHeld ?_
        rotate_left 1
        · (intro w hSw; (try dsimp only at hSw); go_simp; (try with_reducible rfl))
        simp only [List.setIfInBounds_toArray, List.set_cons_zero, List.set_cons_succ]
        refine takeD (i := 2) (d := 39) (v := ?_) rfl rfl (by kernel_rfl) (by kernel_rfl) (by kernel_rfl) (fun _ _ _ h => h) (Or.inl ⟨by rfl, ?_⟩) hHeld ?_
        rotate_left 1
        · (intro w hSw; (try dsimp only at hSw); go_simp; (try with_reducible rfl))
        simp only [List.setIfInBounds_toArray, List.set_cons_zero, List.set_cons_succ]
        refine takeD (i := 3) (d := 40) (v := .slice aad A.length acap) rfl rfl (by kernel_rfl) (by kernel_rfl) (by kernel_rfl) (fun _ _ _ h => h) (Or.inl ⟨by rfl, fun W hSw => ?_⟩) hHeld ?_
        · (try dsimp only at hSw)
          have cst := hSw.cell HC1n.out (by simp)
          go_simp
          skip
        simp only [List.setIfInBounds_toArray, List.set_cons_zero, List.set_cons_succ]
        refine takeD (i := 4) (d := 41) (v := ?_) rfl rfl (by kernel_rfl) (by kernel_rfl) (by kernel_rfl) (fun _ _ _ h => h) (Or.inl ⟨by rfl, ?_⟩) hHeld ?_
        rotate_left 1
        · (intro w hSw; (try dsimp only at hSw); go_simp; (try with_reducible rfl))
        simp only [List.setIfInBounds_toArray, List.set_cons_zero, List.set_cons_succ]
        refine takeD (i := 5) (d := 42) (v := ?_) rfl rfl (by kernel_rfl) (by kernel_rfl) (by kernel_rfl) (fun _ _ _ h => h) (Or.inl ⟨by rfl, ?_⟩) hHeld ?_
        rotate_left 1
        · (intro w hSw; (try dsimp only at hSw); go_simp; (try with_reducible rfl))
        simp only [List.setIfInBounds_toArray, List.set_cons_zero, List.set_cons_succ]
        refine takeD (i := 6) (d := 43) (v := .agg (entS S).cells.toArray) rfl rfl (by kernel_rfl) (by kernel_rfl) (by kernel_rfl) (fun _ _ _ h => h) (yieldsIf_load_mid (by rfl) 31 (.tmp 42) rfl g13 4 rfl (entS S).cells _ (fun W h j u hu => h.cell (HRGE.out j u hu) (by simp)) Tryz.underlying31 rfl Tryz.sizeEnt) hHeld ?_
        simp only [List.setIfInBounds_toArray, List.set_cons_zero, List.set_cons_succ]
        refine wpAnyH_ready (rs := [7]) (by kernel_rfl) (by simp) ?_
        refine AllReadyH.cons rfl (fun K hK => ?_) AllReadyH.nil
        go_simp
        go_wp2_with (go_at_call 49; refine (HPR.out _ hHeld).mono ?_; rintro e w4 ⟨rfl, M4⟩)
        refine hK.out _ _ ?_ (fun hHeld => ?_)
        · exact hHeld.trans M4
        clear hK K
        refine takeD (i := 8) (d := 36) (v := ?_) rfl rfl (by kernel_rfl) (by kernel_rfl) (by kernel_rfl) (fun _ _ _ h => h) (Or.inl ⟨by rfl, ?_⟩) hHeld ?_
        rotate_left 1
        · (intro w hSw; (try dsimp only at hSw); go_simp; (try with_reducible rfl))
        simp only [List.setIfInBounds_toArray, List.set_cons_zero, List.set_cons_succ]
        refine takeD (i := 9) (d := 45) (v := ?_) rfl rfl (by kernel_rfl) (by kernel_rfl) (by kernel_rfl) (fun _ _ _ h => h) (Or.inl ⟨by rfl, ?_⟩) hHeld ?_
        rotate_left 1
        · (intro w hSw; (try dsimp only at hSw); go_simp; (try with_reducible rfl))
        simp only [List.setIfInBounds_toArray, List.set_cons_zero, List.set_cons_succ]
        refine takeD (i := 10) (d := 46) (v := ?_) rfl rfl (by kernel_rfl) (by kernel_rfl) (by kernel_rfl) (fun _ _ _ h => h) (Or.inl ⟨by rfl, ?_⟩) hHeld ?_
        rotate_left 1
        · (intro w hSw; (try dsimp only at hSw); go_simp; (try with_reducible rfl))
        simp only [List.setIfInBounds_toArray, List.set_cons_zero, List.set_cons_succ]
        refine takeD (i := 11) (d := 14) (v := ?_) rfl rfl (by kernel_rfl) (by kernel_rfl) (by kernel_rfl) (fun _ _ _ h => h) (Or.inl ⟨by rfl, ?_⟩) hHeld ?_
        rotate_left 1
        · (intro w hSw; (try dsimp only at hSw); go_simp; (try with_reducible rfl))
        simp only [List.setIfInBounds_toArray, List.set_cons_zero, List.set_cons_succ]
        refine takeD (i := 12) (d := 15) (v := ?_) rfl rfl (by kernel_rfl) (by kernel_rfl) (by kernel_rfl) (fun _ _ _ h => h) (Or.inl ⟨by rfl, ?_⟩) hHeld ?_
        rotate_left 1
        · (intro w hSw; (try dsimp only at hSw); go_simp; (try with_reducible rfl))
        simp only [List.setIfInBounds_toArray, List.set_cons_zero, List.set_cons_succ]
        refine wpAnyH_done (by kernel_rfl) ?_ _
        have HM4 := Lib.hid hHeld
        have HB4 := Lib.hid (HB3.out.mods0 hHeld)
        clear hHeld M4 HPR HRGE HC1n
        generalize presR A ab (entS S) = pb at HON ⊢
        generalize chkE A = ce
        have c26 := (HB4.out.c 26).trans (show _ = some (Value.bool S.host) from rfl)
        generalize S.host = sh at HON c26
        generalize onB A ab host S = on at HON HSA
        go_upto_region 9 with (fail)
        go_cut [56] (fun u wx => u = .bool (!on) ∧ Mods [] w4 wx)
        case first => as_aux_lemma =>
          clear HSA HSTEP HRIN HENT HRG HS H HIS HCM HP HXX HAB HOF HC
          cases pb <;> cases sh <;> cases host <;> (go_wp2_with fail; go_meet; exact ⟨by rw [HON.out]; rfl, Mods.refl⟩)
        case rest => as_aux_lemma =>
          obtain ⟨rfl, MC⟩ := hcut
          obtain ⟨wB, hwB⟩ : ∃ x, x = wc := ⟨_, rfl⟩
          subst hwB
          have HMC := Lib.hid ((HM3.out.trans HM4.out).trans MC)
          have HMN := Lib.hid (HS.out.mon.mods0 HMC.out)
          have HB5 := Lib.hid (HB4.out.mods0 MC)
          have HFB := Lib.hid H.out.fbl
          have HSB := Lib.hid H.out.sbl
          clear MC c26 HON HMN3 HM3 HM4 HB3 HB4
          cases on with
          | false =>
            have HSF := Lib.hid (show scanAt A ab host X l F st k = ([], ([], 0), st.getD k 0) from (HSA.out).trans (if_neg (by simp)))
            have c2 := HMN.out.c2
            have HTHR := Lib.hid (HMN.out.there hlt)
            have HZ := Lib.hid (zFlt_ok HMN.out hlt)
            have k0 := i0
            have k1 := i1
            go_wp2_with (refine wpList_store_mid rfl 123 (.tmp 63) (.tmp 62) rfl fb (k * 2) #[.slice none 0 0, .int .i64 0] (by rfl) (by rfl) HTHR.out Tryz.infoFl (by simp [Value.oneCell']) ?_)
            go_roundw
            case rel =>
              refine ⟨k + 1, by omega, by go_num, Lib.hid ⟨F'.set k zFlt, st'.set k (st'.getD k 0), ?_⟩⟩
              have M4 : Mods [fb, sb] wr (wB.setCells fb (k * 2) [.slice none 0 0, .int .i64 0]) := (HMC.out.nil).trans ((Mods.setCells _ _ _).mono (fun q hq => .inl (by simp at hq; simp [hq])))
              refine ScRel.next H.out HS.out hlt HZ.out M4 (Mods.refl (S := [])) (fun q hq => by cases hq) ?_ (fun y hy => .inl hy) (by rw [HSF.out]; rfl) (by rw [HSF.out]; rfl) (by rw [HSF.out]; exact (HS.out.ge k (Nat.le_refl _)).2) (.inr (fun q hq => by cases hq))
              rw [scanE, HSF.out, List.append_nil]
              exact HS.out.own.mods M4 (fun q hq => by have h1 := (HS.out.own.lt q hq).1; have h2 := HFB.out; have h3 := HSB.out; simp; omega)
            case measure => simp [intOf]; omega
          | true =>
            have HSF := Lib.hid (show scanAt A ab host X l F st k = (evsM S R.1 R.2.1.toNat, R.2.2.1, R.2.2.2) from (HSA.out).trans (if_pos rfl))
            have HNUM := Lib.hid HIS.out.number
            have c0s := (HB5.out.c 0).trans (show _ = some (Value.int .u8 ((S.number : Nat) : Int)) from rfl)
            have HC0S := Lib.hid c0s
            have HG5 := Lib.hid (lt_of_block HB5.out.blk)
            have HXW := Lib.hid (fun W (M : Mods [] wB W) => HXX.out W (((HS.out.M.trans HMC.out.nil).trans M.nil)))
            have HIDX := Lib.hid (fun W (M : Mods [] wB W) => idxScan_ok W g13 X S.number (M.cell HC0S.out (by simp)) _ (HXW.out W M))
            have HFX := Lib.hid (show findX X S.number = if smpIdx X S.number = X.length then -1 else ((smpIdx X S.number : Nat) : Int) from rfl)
            have HPX := Lib.hid (show pickX X S.number = if smpIdx X S.number < X.length then X.getD (smpIdx X S.number) default else ⟨f8 S.number, false, f8 0, f16 0⟩ from rfl)
            have HIL := Lib.hid (smpIdx_le X S.number)
            generalize findX X S.number = FX at HIDX HFX
            generalize pickX X S.number = Y at HPX HSTEP
            generalize smpIdx X S.number = ix at HFX HPX HIL
            have HRN := Lib.hid (heap_alloc_new wB (.cells #[.int .u8 0, .bool false, .int .u8 0, .int .u16 0] 103))
            have HMA := Lib.hid ((Mods.refl (S := []) (w := wB)).alloc (.cells #[.int .u8 0, .bool false, .int .u8 0, .int .u16 0] 103))
            go_wp2_with (refine wpList_store_row (cs := #[.int .u8 ((S.number : Nat) : Int), .bool false, .int .u8 0, .int .u16 0]) rfl 103 (.tmp 16) (.tmp 66) rfl HRN.out (by rfl) (by rfl) (by rfl) Tryz.sizeSm (by simp [Value.oneCell']) ?_; go_loud (intro w5 R5 M5; have HR5 := Lib.hid R5; have HM5 := Lib.hid (HMA.out.comp M5 (fun q hq => by simp at hq; subst hq; exact .inr (Nat.le_refl _))); clear R5 M5))
            refine (HIDX.out _ HM5.out).mono ?_
            rintro e w6 ⟨rfl, M6⟩
            have HR6 := Lib.hid (M6.heap HR5.out (by simp))
            have HM6 := Lib.hid (HM5.out.trans M6)
            clear M6 HM5 HR5 HRN HMA
            generalize hg16 : wB.heap.size = g16 at HR6 ⊢
            have HWG := Lib.hid (show wB.heap.size ≤ g16 from Nat.le_of_eq hg16)
            clear hg16
            go_upto_if 71 with (fail)
            go_cut [16] (fun u wx => u = .pointer (some ⟨g16, 0, none⟩) ∧ Mods [] wB wx ∧ wx.heap[g16]? = some (.cells Y.cells.toArray 103 (0, 0)))
            case first => as_aux_lemma =>
              clear HSA HSTEP HRIN HENT HRG HS H HIS HCM HP HAB HOF HC HB5
              by_cases hf : ix < X.length
              · obtain ⟨xb, xo, xc, hv2, _, _, _⟩ := (HXW.out _ HM6.out).at (by omega)
                injection hv2 with hv3 _ hv4
                subst hv3 hv4
                have HXR := Lib.hid ((HXW.out _ HM6.out).range hf smpOk.len)
                change Hid (w6.rangeAt xb (xo + ix * 4) (X.getD ix default).cells) at HXR
                have hfx : FX = (ix : Int) := by rw [HFX.out, if_neg (by omega)]
                subst hfx
                have HYQ := Lib.hid (show Y = X.getD ix default from by rw [HPX.out, if_pos hf])
                generalize X.getD ix default = Z at HXR HYQ
                have x0 : (0 : Int) ≤ (ix : Int) := by omega
                have x1 : (ix : Int) < (X.length : Int) := by omega
                clear HXX HXW HIDX HFX HPX
                go_wp2_with (first
                  | (refine wpList_load_mid rfl 103 (.tmp 74) rfl xb (xo + ix * 4) (by rfl) Z.cells _ HXR.out Tryz.underlying103 rfl Tryz.sizeSm ?_)
                  | (refine wpList_store_row (cs := Z.cells.toArray) rfl 103 (.tmp 16) (.tmp 75) rfl HR6.out (by rfl) (by rfl) (by rfl) Tryz.sizeSm (Smp.one _) ?_; go_loud (intro w7 R7 M7; have HR7 := Lib.hid R7; have HM7 := Lib.hid (HM6.out.comp M7 (fun q hq => by simp at hq; subst hq; exact .inr HWG.out)); clear R7 M7)))
                go_meet
                exact ⟨rfl, HM7.out, by rw [HYQ.out]; exact HR7.out⟩
              · have hfx : FX = -1 := by rw [HFX.out, if_pos (by have := HIL.out; omega)]
                subst hfx
                have HYQ := Lib.hid (show #[Value.int .u8 ((S.number : Nat) : Int), .bool false, .int .u8 0, .int .u16 0] = Y.cells.toArray from by
                  rw [HPX.out, if_neg hf]
                  have h1 := f8v HNUM.out
                  unfold Smp.cells
                  simp only [h1]
                  rfl)
                clear HXX HXW HIDX HFX HPX
                go_wp2_with fail
                go_meet
                exact ⟨rfl, HM6.out, by rw [← HYQ.out]; exact HR6.out⟩
            case rest => as_aux_lemma =>
              obtain ⟨rfl, MX, RX⟩ := hcut
              have HRX := Lib.hid RX
              have HMX := Lib.hid (HMC.out.trans MX)
              have HMNX := Lib.hid (HMN.out.mods0 MX)
              have HBX := Lib.hid (HB5.out.mods0 MX)
              have HST := Lib.hid (HSTEP.out _ HMNX.out)
              have HG13 := Lib.hid (show w.heap.size ≤ g13 from by rw [← hg13]; exact HS.out.M.size)
              have k0 := i0
              have k1 := i1
              clear MX RX HIDX HFX HPX HIL HXW HSTEP HR6 HM6 c0s HC0S HSA HRG HENT HXX HAB HCM
              obtain ⟨C, r, fl, s2⟩ := R
              simp only at HSF HST HRIN
              go_wp2_with (refine wpList_load_row rfl 103 (.tmp 16) rfl g16 (by rfl) _ _ _ _ HRX.out Tryz.underlying103 rfl Tryz.sizeSm ?_)
              refine (HST.out).mono ?_
              rintro e w8 ⟨v, f, rfl, O8, hfW, hfn, hM8, M8, hraw, hwin⟩
              simp only at hraw O8 hfW hfn hM8 ⊢
              obtain ⟨rn, rfl⟩ := Int.eq_ofNat_of_zero_le hraw.1
              have HFW := Lib.hid hfW
              have HFN := Lib.hid hfn
              have HM8 := Lib.hid hM8
              have HMB := Lib.hid M8
              have HW8 := Lib.hid hwin
              have HO8 := Lib.hid O8.rd
              have HRN8 := Lib.hid (show rn < 256 from by omega)
              have HB8 := Lib.hid (HBX.out.mods M8 (by have h1 := HG13.out; have h2 := HFB.out; have h3 := HSB.out; simp; omega))
              have HOF8 := Lib.hid (HOF.out w8 ((HS.out.M.trans HMX.out.nil).trans M8))
              have HIS8 := Lib.hid (HISM.out _ _ _ hM8)
              obtain ⟨va8, vc8, rfl⟩ := O8.rd.len
              clear hfW hfn hM8 M8 hwin O8 hraw HOF HBX HB5 HST
              have HEV := Lib.hid (events_ok w8 HOF8.out S P HIS8.out _ C HO8.out HRIN.out.1 (Nat.le_trans HRIN.out.2 (by omega)) rn HRN8.out)
              have hHL : C.length ≤ 15 := HRIN.out.2
              have hEL := evsM_len9 S C rn
              have hSL := scanE_len (A := A) (ab := ab) (host := host) (X := X) (l := l) (F := F) (st := st) k
              have HLEN := Lib.hid (show (scanE A ab host X l F st k).length + (evsM S C rn).length ≤ 1000000 from by have := HL32.out; omega)
              clear hHL hEL hSL
              have HOW8 := Lib.hid (HS.out.own.mods (HMX.out.nil.trans HMB.out) (fun q hq => by have h1 := (HS.out.own.lt q hq).1; have h2 := HFB.out; have h3 := HSB.out; simp; omega))
              have HZ8 := Lib.hid (show w.heap.size ≤ w8.heap.size from Nat.le_trans HS.out.M.size (HMX.out.nil.trans HMB.out).size)
              have HSQ := Lib.hid (show scanE A ab host X l F st (k + 1) = scanE A ab host X l F st k ++ evsM S C rn from by rw [scanE, HSF.out]; rfl)
              generalize evsM S C rn = EV at HEV HLEN HSQ HSF
              go_wp2_with (refine wpList_load_row rfl 40 (.tmp 13) rfl g13 (by rfl) _ _ _ _ HB8.out.blk Tryz.underlying40 rfl (Sen.infoS S) ?_)
              refine (HEV.out).mono ?_
              rintro e w9 ⟨v9, rfl, O9, M9⟩
              obtain ⟨xa9, xc9, rfl⟩ := (O9.rd evOk).len
              have HO9 := Lib.hid (O9.rd evOk)
              have HM9 := Lib.hid M9
              have HOW9 := Lib.hid (HOW8.out.mods0 M9)
              clear O9 M9
              go_wp2_with (at_builtin; go_loud (refine wpList_appQ evOk (by rfl) 88 rfl (.tmp 83) (.tmp 87) rfl (by rfl) HOW9.out (by rfl) HO9.out HLEN.out (Nat.le_trans HZ8.out HM9.out.size) ?_; intro VB WB OB MB LB; have HOB := Lib.hid OB; have HMZ := Lib.hid MB; have HLB := Lib.hid LB; clear OB MB LB))
              go_roundw
              case rel =>
                refine ⟨k + 1, by omega, by go_num, Lib.hid ⟨F'.set k f, st'.set k s2, ?_⟩⟩
                exact ScRel.next H.out HS.out hlt (HM8.out.mods0 HM9.out) ((HMX.out.nil.trans HMB.out).trans HM9.out.nil) HMZ.out (fun q hq => by simpa using hq) (by rw [HSQ.out]; exact HOB.out) HLB.out (by rw [HSF.out]; exact HFW.out) (by rw [HSF.out]; exact HFN.out) (by rw [HSF.out])
                  (HW8.out.imp id (fun h q hq => Nat.le_trans HMX.out.size (h q hq)))
              case measure => simp [intOf]; omega
      · have i1 : ¬ (k : Int) < (l.length : Int) := by omega
        have hkl : k = l.length := by omega
        subst hkl
        obtain ⟨F', st', hS⟩ := HN.out
        have HS := Lib.hid hS
        clear hS
        go_wp2_with fail
        go_ret2
        rw [HP.out, if_pos HC.out]
        exact ⟨_, F', st', rfl, HS.out⟩
  · have HC := Lib.hid hc
    have hne : ((chkM l X) != 0) = true := by simpa using hc
    generalize hcs : chkM l X = cs at HCM hne
    clear hc
    go_enter Tryz.func15, Tryz.ntmps15
    go_wp2_with fail
    refine HCM.out.mono ?_
    rintro e w1 ⟨rfl, M1⟩
    have HM1 := Lib.hid M1
    clear M1
    go_wp2_with fail
    go_ret2
    rw [HP.out, if_neg HC.out]
    exact ⟨by rw [hcs]; rfl, HM1.out⟩
end
end Go.Proofs.YtijjkonephjodaaGreatDoor
