/- Joined texts. Get: the contract. | Clear; Add and Clear of a log that has ended: contracts. -/
import Derived.Test.YtkdadnlleepkfaaLgN
namespace Go.Proofs.Ytkdadnlleepkfaa
open Go.RowKit
set_option linter.unusedVariables false
set_option linter.unusedSimpArgs false
theorem results_cell_row3 {P : Program} {fn : Func} {p u v : Tmp} {ty : TypeId} (h : fn.results = #[.cell p ty, .tmp u, .tmp v]) (tmps : Array Value) (w : World) (g : Nat) (t : TypeId) (cs : Array Value) (fr : Nat × Nat) (d : TypeDesc)
    (hp : tmps.getD p undef = .pointer (some ⟨g, 0, none⟩)) (hg : w.heap[g]? = some (.cells cs t fr))
    (hu : P.underlying ty = some d) (hd : (match d with | .struct _ | .array _ _ => true | _ => false) = true) (hi : (P.info? ty).map (·.size) = some cs.size) :
    (results fn tmps).run P w = .ok (.tuple #[.agg cs, tmps.getD u undef, tmps.getD v undef]) w := by
  have hp' : tmps[p]?.getD undef = .pointer (some ⟨g, 0, none⟩) := by simpa using hp
  simp [results, h, hp', asAddr, run_loadVar_row w g t ty cs fr d hg hu hd hi]
/-- The place of a record: of the first one (0), or of an event's ID. -/
def getP (t : Nat) (r : Nat × Evt) : Bool := decide (t = 0) || decide (r.2.id.val = t)
def getIdx (l : List (Nat × Evt)) (t : Nat) : Nat := l.findIdx (getP t)
theorem getIdx_le (l : List (Nat × Evt)) (t : Nat) : getIdx l t ≤ l.length := List.findIdx_le_length
def getI (l : List (Nat × Evt)) (t : Nat) : Int := if getIdx l t = l.length then -1 else (getIdx l t : Nat)
set_option maxHeartbeats 400000 in
theorem get1_ok (w : World) (g t : Nat) (r : Nat × Evt) (hg : w.heap[g]? = some (.cells #[.int .u16 (t : Nat)] 22 (0, 0))) :
    Calls Try.prog 61 #[.agg (recC r), .pointer (some ⟨g, 0, none⟩)] w fun e w' => e = .returned (.bool (getP t r)) ∧ Mods [] w w' := by
  have M0 := Lib.hid ((Mods.refl (S := []) (w := w)).alloc (.cells (recC r) 101))
  have h0 := (cell_blk (M0.out.heap hg (by simp)) 0).trans (show _ = some (Value.int .u16 ((t : Nat) : Int)) from rfl)
  have hR := Lib.hid (show getP t r = (decide (t = 0) || decide (r.2.id.val = t)) from rfl)
  generalize getP t r = R at hR ⊢
  have hb := (cell_blk (heap_alloc_new w (.cells (recC r) 101)) 1).trans (show _ = some (Value.int .u16 ((r.2.id.val : Nat) : Int)) from rfl)
  clear hg
  go_enter Try.func61, Try.ntmps61
  go_upto_region 1 with (fail)
  generalize w.alloc (.cells (recC r) 101) = w0 at M0 h0 hb ⊢
  generalize w.heap.size = gx at hb ⊢
  generalize r.2.id.val = y at hR hb
  by_cases ht : t = 0
  · have h1 : ((t : Nat) : Int) = 0 := by omega
    have HR := Lib.hid (show R = true by rw [hR.out]; simp [ht])
    go_wp2
    go_ret
    exact ⟨by rw [HR.out]; simp, M0.out⟩
  · have h1 : ¬ ((t : Nat) : Int) = 0 := by omega
    by_cases hx : y = t
    · have h2 : ((y : Nat) : Int) = ((t : Nat) : Int) := by omega
      have HR := Lib.hid (show R = true by rw [hR.out]; simp [hx])
      go_wp2
      go_ret
      exact ⟨by rw [HR.out]; simp, M0.out⟩
    · have h2 : ¬ ((y : Nat) : Int) = ((t : Nat) : Int) := by omega
      have HR := Lib.hid (show R = false by rw [hR.out]; simp [hx, ht])
      go_wp2
      go_ret
      exact ⟨by rw [HR.out]; simp; exact h2, M0.out⟩
set_option maxRecDepth 100000 in
set_option maxHeartbeats 2000000 in
theorem getI_ok (w : World) (g t : Nat) (l : List (Nat × Evt)) (hg : w.heap[g]? = some (.cells #[.int .u16 (t : Nat)] 22 (0, 0))) (v : Value) (hv : RdE recE w v l) :
    Calls Try.prog 60 #[v, .func (.func 61) #[] #[.pointer (some ⟨g, 0, none⟩)]] w fun en w' => en = .returned (.int .i64 (getI l t)) ∧ Mods [] w w' := by
  obtain ⟨ad, cap, rfl⟩ := hv.len
  have HV := Lib.hid hv
  have HG := Lib.hid hg
  obtain ⟨K, hK⟩ : ∃ K, K = getIdx l t := ⟨_, rfl⟩
  have HB := Lib.hid (fun j (hj : j < K) => show getP t (l.getD j recE.dflt) = false from by
    have hj2 : j < l.length := by have := getIdx_le l t; omega
    have := List.not_of_lt_findIdx (p := getP t) (xs := l) (i := j) (by rw [hK] at hj; exact hj)
    rw [List.getD_eq_getElem?_getD, List.getElem?_eq_getElem hj2]
    simpa using this)
  have HA := Lib.hid (fun (h : K < l.length) => show getP t (l.getD K recE.dflt) = true from by
    have := List.findIdx_getElem (p := getP t) (xs := l) (w := by rw [hK] at h; exact h)
    rw [List.getD_eq_getElem?_getD, List.getElem?_eq_getElem h]
    subst hK
    exact this)
  have hKl : K ≤ l.length := hK ▸ getIdx_le _ _
  have HI := Lib.hid (show getI l t = if K = l.length then -1 else (K : Int) by unfold getI; rw [← hK])
  generalize getI l t = V at HI ⊢
  have hcap : l.length ≤ 9223372036854775807 := by obtain ⟨_, _, he, h1, h2, _⟩ := hv; exact Nat.le_trans h1 h2
  clear hv hg hK
  go_enter Try.func60, Try.ntmps60
  go_wp2_with fail
  go_loopw [8] (fun i wr => ∃ k : Nat, k ≤ K ∧ i = .int .i64 k ∧ Mods [] w wr) (fun i _ => K - (intOf i).toNat)
  case atStart => exact ⟨0, Nat.zero_le _, rfl, Mods.refl⟩
  case round =>
    obtain ⟨k, hk, rfl, M⟩ := hrel
    have i0 : (0 : Int) ≤ (k : Int) := by omega
    by_cases hlt : k < l.length
    · have i1 : (k : Int) < (l.length : Int) := by omega
      have HRW := HV.out.mods0 recOk M
      obtain ⟨bb, off, cp, hv2, _, _, -⟩ := HRW.at (by omega)
      injection hv2 with hv3 _ hv4
      subst hv3 hv4
      have BF := Lib.hid (fun r => get1_ok wr g t r (M.heap HG.out (by simp)))
      have HBk := Lib.hid (HB.out k)
      have HAk := Lib.hid (fun h : k = K => show getP t (l.getD k recE.dflt) = true from by rw [h]; exact HA.out (h ▸ hlt))
      have HRG := Lib.hid (rec_range hlt rfl HRW)
      generalize (l.getD k recE.dflt) = r at HBk HAk HRG
      have HM := Lib.hid M
      clear HRW M
      by_cases hkK : k < K
      · have HD := Lib.hid (HBk.out hkK)
        go_wp2_with (refine wpList_load_mid rfl 101 (.tmp 14) rfl bb (off + k * 11) (by rfl) (recC r).toList _ HRG.out Try.underlying101 rfl Try.sizeRec ?_)
        refine (BF.out r).mono ?_
        rw [HD.out]
        rintro en w2 ⟨rfl, M2⟩
        have HM2 := Lib.hid (HM.out.trans M2)
        clear M2
        go_wp2_with fail
        go_roundw
        case rel => exact ⟨k + 1, by omega, by go_num, HM2.out⟩
        case measure => simp [intOf]; omega
      · obtain rfl : k = K := by omega
        have HD := Lib.hid (HAk.out rfl)
        have HRES := Lib.hid (show V = (k : Int) by rw [HI.out, if_neg (by omega)])
        go_wp2_with (refine wpList_load_mid rfl 101 (.tmp 14) rfl bb (off + k * 11) (by rfl) (recC r).toList _ HRG.out Try.underlying101 rfl Try.sizeRec ?_)
        refine (BF.out r).mono ?_
        rw [HD.out]
        rintro en w2 ⟨rfl, M2⟩
        have HM2 := Lib.hid (HM.out.trans M2)
        clear M2
        go_wp2_with fail
        go_ret
        exact ⟨ret_int HRES.out.symm, HM2.out⟩
    · have HRES := Lib.hid (show V = -1 by rw [HI.out, if_pos (by omega)])
      have i1 : ¬ (k : Int) < (l.length : Int) := by omega
      go_wp2_with fail
      go_ret
      exact ⟨ret_int HRES.out.symm, M⟩
def getR (l : List (Nat × Evt)) (t : Nat) : Evt × Nat × Int :=
  if getIdx l t = l.length then (zE, 0, 8) else ((l.getD (getIdx l t) recE.dflt).2, (if getIdx l t + 1 < l.length then (l.getD (getIdx l t + 1) recE.dflt).2.id.val else 0), 0)
set_option maxRecDepth 100000 in
set_option maxHeartbeats 8000000 in
theorem lget_ok (w : World) (q : LogAt) (B first n : Nat) (pd : Value) (L : LogP) (h : IsLog w q B pd first n L) (hn : L.s.recs.length ≤ 100000) (t : Nat) :
    Calls Try.prog 30 #[.pointer (some ⟨q.b, 0, none⟩), .int .u16 (t : Nat)] w fun e w' => e = .returned (.tuple #[.agg (getR L.s.recs t).1.cells.toArray, .int .u16 ((getR L.s.recs t).2.1 : Nat), .int .i64 (getR L.s.recs t).2.2]) ∧ Mods [] w w' := by
  have c8 := (h.c 8).trans (show _ = some q.v from rfl)
  have HR := Lib.hid (h.own.rd recOk)
  have HLT := Lib.hid (show q.b < w.heap.size from lt_of_block h.blk)
  obtain ⟨l, hl⟩ : ∃ l, l = L.s.recs := ⟨_, rfl⟩
  rw [← hl] at HR hn ⊢
  clear h hl
  obtain ⟨ad, cap, hv⟩ := HR.out.len
  rw [hv] at HR c8
  clear hv
  have HC8 := Lib.hid c8
  have M1 := Lib.hid ((Mods.refl (S := []) (w := w)).alloc (.cells #[.int .u16 ((t : Nat) : Int)] 22))
  have BX := Lib.hid (heap_alloc_new w (.cells #[.int .u16 ((t : Nat) : Int)] 22))
  have M2 := Lib.hid (M1.out.alloc (.cells #[.int .u16 0, .int .u32 0, .int .u16 0, .int .u8 0, .int .u8 0, .int .u8 0, .bool false, .int .u8 0, .int .u8 0, .int .u8 0] 37))
  have BE := Lib.hid (heap_alloc_new (w.alloc (.cells #[.int .u16 ((t : Nat) : Int)] 22)) (.cells #[.int .u16 0, .int .u32 0, .int .u16 0, .int .u8 0, .int .u8 0, .int .u8 0, .bool false, .int .u8 0, .int .u8 0, .int .u8 0] 37))
  have BX2 := Lib.hid (heap_alloc (o' := .cells #[.int .u16 0, .int .u32 0, .int .u16 0, .int .u8 0, .int .u8 0, .int .u8 0, .bool false, .int .u8 0, .int .u8 0, .int .u8 0] 37) BX.out)
  go_enter Try.func30, Try.ntmps30
  clear c8
  go_upto_region 1 with (fail)
  have HA : w.heap.size + 1 = (w.alloc (.cells #[.int .u16 ((t : Nat) : Int)] 22)).heap.size := by simp
  rw [HA]
  have HGE := Lib.hid (show w.heap.size < (w.alloc (.cells #[.int .u16 ((t : Nat) : Int)] 22)).heap.size from by rw [← HA]; omega)
  clear HA
  generalize (w.alloc (.cells #[.int .u16 ((t : Nat) : Int)] 22)).heap.size = ge at BE HGE ⊢
  generalize (w.alloc (.cells #[.int .u16 ((t : Nat) : Int)] 22)).alloc (.cells #[.int .u16 0, .int .u32 0, .int .u16 0, .int .u8 0, .int .u8 0, .int .u8 0, .bool false, .int .u8 0, .int .u8 0, .int .u8 0] 37) = w0 at M2 BE BX2 ⊢
  have HSZ := Lib.hid (show w.heap.size ≤ ge from by have := HGE.out; omega)
  have HMF := Lib.hid (show ∀ W, Mods [ge] w0 W → Mods [] w W from fun W M => M2.out.comp M (fun y hy => .inr (by simp at hy; subst hy; exact HSZ.out)))
  have HI := Lib.hid (getI_ok w0 w.heap.size t l BX2.out _ (HR.out.mods0 recOk M2.out))
  have hk := getIdx_le l t
  have cq := M2.out.cell HC8.out (by simp)
  clear M1 BX
  generalize w.heap.size = gx at BX2 HGE HI ⊢
  by_cases hc : getIdx l t = l.length
  · have HN := Lib.hid (show getI l t = -1 from if_pos hc)
    have HGR := Lib.hid (show getR l t = (zE, 0, 8) from if_pos hc)
    clear hc hk
    go_wp2_with (first
      | (go_at_call 60; refine HI.out.mono ?_; rw [HN.out]; rintro e w1 ⟨rfl, M⟩; have HM := Lib.hid M; have BE1 := Lib.hid (M.heap BE.out (by simp)); clear M)
      | (refine wpList_store_row (cs := zE.cells.toArray) rfl 37 (.tmp 4) (.tmp 16) rfl BE1.out (by rfl) (by rfl) (by rfl) Try.sizeEv (Evt.one _) ?_; intro w2 R2 M2; have HR2 := Lib.hid R2; have HM2 := Lib.hid (HM.out.nil.trans M2); clear R2 M2))
    refine bodyPost_ret (results_cell_row3 rfl _ _ ge _ _ _ _ rfl HR2.out Try.underlying37 rfl Try.sizeEv) rfl ?_
    exact ⟨by rw [HGR.out]; rfl, HMF.out _ HM2.out⟩
  · have hlt : getIdx l t < l.length := by omega
    have HN := Lib.hid (show getI l t = (getIdx l t : Int) from if_neg hc)
    have HGR := Lib.hid (show getR l t = ((l.getD (getIdx l t) recE.dflt).2, (if getIdx l t + 1 < l.length then (l.getD (getIdx l t + 1) recE.dflt).2.id.val else 0), 0) from if_neg hc)
    generalize getIdx l t = K at HN HGR hlt
    clear hc hk
    obtain ⟨bb, off, cp, hv2, hl1, hl2, hat⟩ := (HR.out).at (by omega)
    injection hv2 with hv3 _ hv5
    subst hv3 hv5
    have HK1 := hat K hlt
    have HRG := Lib.hid (rec_range hlt rfl HR.out)
    generalize hr : l.getD K recE.dflt = r at HK1 HGR HRG
    have HEV := Lib.hid (show w.rangeAt bb (off + K * 11 + 1) r.2.cells from fun i u hu => by
      have hi : i < 10 := (List.getElem?_eq_some_iff.1 hu).1
      have h1 := HK1 (1 + i) (by show 1 + i < 11; omega)
      rw [show off + K * 11 + 1 + i = off + K * 11 + (1 + i) by omega]
      refine h1.trans ?_
      show (Value.int .i64 ((r.1 : Nat) : Int) :: r.2.cells)[1 + i]? = _
      rw [Nat.add_comm]
      exact hu)
    have i0 : (0 : Int) ≤ (K : Int) := by omega
    have i1 : (K : Int) < (l.length : Int) := by omega
    have i2 : ¬ (K : Int) < 0 := by omega
    have i3 : decide ((K : Int) < 0) = false := decide_eq_false i2
    clear HK1 hr
    by_cases hnx : K + 1 < l.length
    · have j1 : (K : Int) + 1 < (l.length : Int) := by omega
      have HXC := Lib.hid (show w.cell? ⟨bb, off + (K + 1) * 11 + 1, none⟩ = some (Value.int .u16 (((l.getD (K + 1) recE.dflt).2.id.val : Nat) : Int)) from (hat (K + 1) hnx 1 (by show 1 < 11; omega)).trans rfl)
      rw [if_pos hnx] at HGR
      generalize (l.getD (K + 1) recE.dflt).2.id.val = nx at HXC HGR
      clear hat
      go_wp2_with (first
        | (go_at_call 60; refine HI.out.mono ?_; rw [HN.out]; rintro e w1 ⟨rfl, M⟩; have HM := Lib.hid M; have BE1 := Lib.hid (M.heap BE.out (by simp)); have cq1 := M.cell cq (by simp); have HX1 := (M2.out.trans M).cell HXC.out (by simp); have HE1 := Lib.hid (show w1.rangeAt bb (off + K * 11 + 1) r.2.cells from fun i u hu => (M2.out.trans M).cell (HEV.out i u hu) (by simp)); clear M)
        | (refine wpList_load_mid rfl 37 (.tmp 41) rfl bb (off + K * 11 + 1) (by rfl) r.2.cells _ HE1.out Try.underlying37 rfl Try.sizeEv ?_)
        | (refine wpList_store_row (cs := r.2.cells.toArray) rfl 37 (.tmp 4) (.tmp 42) rfl BE1.out (by rfl) (by rfl) (by rfl) Try.sizeEv (Evt.one _) ?_; intro w2 R2 M2; have HR2 := Lib.hid R2; have HM2 := Lib.hid (HM.out.nil.trans M2); clear R2 M2))
      refine bodyPost_ret (results_cell_row3 rfl _ _ ge _ _ _ _ rfl HR2.out Try.underlying37 rfl Try.sizeEv) rfl ?_
      exact ⟨by rw [HGR.out]; rfl, HMF.out _ HM2.out⟩
    · have j1 : ¬ (K : Int) + 1 < (l.length : Int) := by omega
      have j2 : decide ((K : Int) + 1 < (l.length : Int)) = false := decide_eq_false j1
      rw [if_neg hnx] at HGR
      clear hat
      go_wp2_with (first
        | (go_at_call 60; refine HI.out.mono ?_; rw [HN.out]; rintro e w1 ⟨rfl, M⟩; have HM := Lib.hid M; have BE1 := Lib.hid (M.heap BE.out (by simp)); have cq1 := M.cell cq (by simp); have HE1 := Lib.hid (show w1.rangeAt bb (off + K * 11 + 1) r.2.cells from fun i u hu => (M2.out.trans M).cell (HEV.out i u hu) (by simp)); clear M)
        | (refine wpList_load_mid rfl 37 (.tmp 41) rfl bb (off + K * 11 + 1) (by rfl) r.2.cells _ HE1.out Try.underlying37 rfl Try.sizeEv ?_)
        | (refine wpList_store_row (cs := r.2.cells.toArray) rfl 37 (.tmp 4) (.tmp 42) rfl BE1.out (by rfl) (by rfl) (by rfl) Try.sizeEv (Evt.one _) ?_; intro w2 R2 M2; have HR2 := Lib.hid R2; have HM2 := Lib.hid (HM.out.nil.trans M2); clear R2 M2))
      refine bodyPost_ret (results_cell_row3 rfl _ _ ge _ _ _ _ rfl HR2.out Try.underlying37 rfl Try.sizeEv) rfl ?_
      exact ⟨by rw [HGR.out]; rfl, HMF.out _ HM2.out⟩
end Go.Proofs.Ytkdadnlleepkfaa

namespace Go.Proofs.Ytkdadnlleepkfaa
open Go.RowKit
set_option linter.unusedVariables false
set_option linter.unusedSimpArgs false
theorem ladd_end (w : World) (b B : Nat) (h : IsEnd w b B) (x : Evt) :
    Calls Try.prog 15 #[.pointer (some ⟨b, 0, none⟩), .agg x.cells.toArray] w fun e w' => e = .returned (.tuple #[.int .u16 0, .int .i64 10]) ∧ IsEnd w' b B ∧ Mods [b] w w' := by
  have M0 := Lib.hid ((Mods.refl (S := []) (w := w)).alloc (.cells x.cells.toArray 37))
  have HD := Lib.hid (ldown_end _ b B (IsLog.mods0 h M0.out))
  go_enter Try.func15, Try.ntmps15
  go_wp2_with fail
  refine HD.out.mono ?_
  rintro e w1 ⟨rfl, h1, M1⟩
  have H1 := Lib.hid (And.intro h1 M1)
  clear h1 M1
  go_wp2_with fail
  go_ret2
  exact ⟨rfl, H1.out.1, M0.out.nil.trans H1.out.2⟩
theorem lclear_end (w : World) (b B : Nat) (h : IsEnd w b B) (r : Nat) :
    Calls Try.prog 39 #[.pointer (some ⟨b, 0, none⟩), .int .u16 (r : Nat)] w fun e w' => e = .returned (.int .i64 10) ∧ IsEnd w' b B ∧ Mods [b] w w' := by
  have HD := Lib.hid (ldown_end _ b B h)
  go_enter Try.func39, Try.ntmps39
  go_wp2_with fail
  refine HD.out.mono ?_
  rintro e w1 ⟨rfl, h1, M1⟩
  have H1 := Lib.hid (And.intro h1 M1)
  clear h1 M1
  go_wp2_with fail
  go_ret
  exact ⟨rfl, H1.out.1, H1.out.2⟩
def ClearPost (w : World) (q : LogAt) (B : Nat) (p : DevAt) (G : Geo) (D : Dev) (L : LogP) (r : Nat) (e : Ending) (w' : World) : Prop :=
  ∃ v', e = .returned (.int .i64 (clearL G D L r).1) ∧ IsDev w' p (clearL G D L r).2.1 ∧ Here w' ⟨q.b, v'⟩ B p G (clearL G D L r).2.2 ∧
    Mods (p.foot ++ q.foot) w w' ∧ ∀ y, v'.ownBlock = some y → q.v.ownBlock = some y ∨ w.heap.size ≤ y
set_option maxRecDepth 100000 in
set_option maxHeartbeats 8000000 in
theorem lclear_ok (w : World) (q : LogAt) (B : Nat) (p : DevAt) (G : Geo) (D : Dev) (L : LogP) (h : Well w q B p G D L) (he : L.ended = false) (r : Nat) :
    Calls Try.prog 39 #[.pointer (some ⟨q.b, 0, none⟩), .int .u16 (r : Nat)] w fun e w' => ClearPost w q B p G D L r e w' := by
  have H := Lib.hid h
  have HDW := Lib.hid (ldown_ok _ q B p D h.dev G.first G.n L h.log he)
  have HE := Lib.hid he
  have HQP := Lib.hid (show ∀ k ∈ p.foot, k ∉ [q.b] from fun k hk hm => by simp at hm; subst hm; exact h.apart _ hk (by simp [LogAt.foot]))
  obtain ⟨dn, hdn⟩ : ∃ b, b = D.down := ⟨_, rfl⟩
  have HDN := Lib.hid hdn
  rw [← hdn] at HDW
  clear h he hdn
  cases dn with
  | true =>
    have HA := Lib.hid (show clearL G D L r = (10, D, endL) by unfold clearL; rw [if_pos (by rw [← HDN.out]; simp)])
    go_enter Try.func39, Try.ntmps39
    go_wp2_with fail
    refine HDW.out.mono ?_
    rintro e w1 ⟨rfl, h1⟩
    have H1 := Lib.hid (show IsEnd w1 q.b B ∧ Mods [q.b] _ w1 from by simpa using h1)
    clear h1
    go_wp2_with fail
    go_ret
    refine ⟨.slice none 0 0, by rw [HA.out]; rfl, by rw [HA.out]; exact H.out.dev.mods H1.out.2 HQP.out, by rw [HA.out]; exact .inr ⟨rfl, rfl, H1.out.1⟩, H1.out.2.mono (fun y hy => .inl (by simp at hy; subst hy; simp [LogAt.foot])), fun y hy => by simp [Value.ownBlock] at hy⟩
  | false =>
    have HCL := Lib.hid (show clearL G D L r = if (L.held && decide (r = L.num)) = false then (11, D, L)
        else if L.s.recs = [] then (0, D, { L with held := false, full := false })
        else if (openL G D L.s (L.s.newest + 1)).1 ≠ 0 then ((openL G D L.s (L.s.newest + 1)).1, (openL G D L.s (L.s.newest + 1)).2.1, orEnd (openL G D L.s (L.s.newest + 1)).2.1 { L with s := (openL G D L.s (L.s.newest + 1)).2.2 })
        else (0, (openL G D L.s (L.s.newest + 1)).2.1, { L with s := (openL G D L.s (L.s.newest + 1)).2.2, held := false, full := false }) by
      unfold clearL; rw [if_neg (by rw [HE.out, ← HDN.out]; decide)])
    have c11 := (H.out.log.c 11).trans (show _ = some (Value.bool L.held) from rfl)
    have c10 := (H.out.log.c 10).trans (show _ = some (Value.int .u16 (L.num : Nat)) from rfl)
    go_enter Try.func39, Try.ntmps39
    go_wp2_with fail
    refine HDW.out.mono ?_
    rintro e w1 ⟨rfl, h1⟩
    obtain rfl : w = w1 := by simpa using h1
    clear h1 HDW
    go_upto_region 3 with (fail)
    go_cut [20] (fun u wx => u = .bool (!(L.held && decide (r = L.num))) ∧ Mods [] w wx)
    case first =>
      obtain ⟨hh, hhh⟩ : ∃ b, b = L.held := ⟨_, rfl⟩
      have HH := Lib.hid hhh
      rw [← hhh] at c11
      clear hhh
      cases hh with
      | false =>
        go_wp2_with fail
        go_meet
        exact ⟨by rw [← HH.out]; rfl, Mods.refl⟩
      | true =>
        by_cases hr : r = L.num
        · have h1 : ((r : Nat) : Int) = ((L.num : Nat) : Int) := by omega
          go_wp2_with fail
          go_meet
          exact ⟨by rw [← HH.out]; simp [hr], Mods.refl⟩
        · have h1 : ¬ ((r : Nat) : Int) = ((L.num : Nat) : Int) := by omega
          go_wp2_with fail
          go_meet
          exact ⟨by rw [← HH.out]; simp [hr, h1], Mods.refl⟩
    case rest =>
      obtain ⟨rfl, MC⟩ := hcut
      have HW := Lib.hid (H.out.mods0 MC)
      have HMC := Lib.hid MC
      clear MC c10 c11
      generalize wc = w1 at HW HMC ⊢
      obtain ⟨ok, hok⟩ : ∃ b, b = (L.held && decide (r = L.num)) := ⟨_, rfl⟩
      rw [← hok] at HCL ⊢
      clear hok
      cases ok with
      | false =>
        have HA := Lib.hid (HCL.out.trans (if_pos rfl))
        go_wp2_with fail
        go_ret
        exact ⟨q.v, by rw [HA.out]; rfl, by rw [HA.out]; exact HW.out.dev, by rw [HA.out]; exact .inl ⟨HE.out, HW.out.log⟩, HMC.out.nil, fun y hy => .inl hy⟩
      | true =>
        have hclx := HCL.out
        rw [if_neg (by decide)] at hclx
        have HCL2 := Lib.hid hclx
        clear hclx HCL
        obtain ⟨ad, cap, hv, hcp1, hcp2, -⟩ := HW.out.log.own.rd recOk
        have c8 := (HW.out.log.c 8).trans (show _ = some (Value.slice ad L.s.recs.length cap) from congrArg some hv)
        have c4 := (HW.out.log.c 4).trans (show _ = some (Value.int .i64 (L.s.newest : Nat)) from rfl)
        have HN := Lib.hid HW.out.newest
        have HOPN := Lib.hid (lopen_ok w1 q B p D HW.out.dev G HW.out.fit HW.out.size HW.out.secs HDN.out.symm HW.out.few.st HW.out.few.wr L HW.out.log HW.out.base HW.out.apart HW.out.newest HW.out.recs HW.out.next (L.s.newest + 1) (by have := HN.out; omega))
        clear hcp1 hcp2 hv
        go_upto_if 26 with (fail)
        go_cut [] (fun wx => ∃ v1 D1 S1, clearL G D L r = (0, D1, { L with s := S1, held := false, full := false }) ∧ IsDev wx p D1 ∧ IsLog wx ⟨q.b, v1⟩ B (.pointer (some ⟨p.b, 0, none⟩)) G.first G.n { L with s := S1 } ∧ Mods (p.foot ++ q.foot) w wx ∧ ∀ y, v1.ownBlock = some y → q.v.ownBlock = some y ∨ w.heap.size ≤ y)
        case first =>
          by_cases hr : L.s.recs = []
          · have h0 : L.s.recs.length = 0 := by rw [hr]; rfl
            have HA := Lib.hid (HCL2.out.trans (if_pos hr))
            have i0 : ((L.s.recs.length : Nat) : Int) = 0 := by omega
            have i1 : ¬ (0 : Int) < ((L.s.recs.length : Nat) : Int) := by omega
            clear h0 hr
            go_wp2_with fail
            go_meet
            exact ⟨q.v, D, L.s, HA.out, HW.out.dev, HW.out.log, HMC.out.nil, fun y hy => .inl hy⟩
          · have h0 : 0 < L.s.recs.length := List.length_pos_iff.2 hr
            have HCL3 := Lib.hid (HCL2.out.trans (if_neg hr))
            have i1 : (0 : Int) < ((L.s.recs.length : Nat) : Int) := by omega
            have e0 : (0 : Int) ≤ ((L.s.newest : Nat) : Int) := by omega
            have e2 : ((L.s.newest : Nat) : Int) ≤ 2147483648 := by have := HN.out; omega
            clear h0 hr HCL2
            have HO2 := Lib.hid (show Calls Try.prog 79 #[.pointer (some ⟨q.b, 0, none⟩), .int .i64 (((L.s.newest : Nat) : Int) + 1)] w1 fun e w' => LopenPost w1 q B p G D L (L.s.newest + 1) e w' from HOPN.out)
            by_cases hc : (openL G D L.s (L.s.newest + 1)).1 = 0
            · have HC := Lib.hid hc
              have HA := Lib.hid (HCL3.out.trans (if_neg (by rw [hc]; decide)))
              go_wp2_with (go_at_call 79; refine HO2.out.mono ?_; intro e w3 hp; obtain ⟨v1, he, hd, hl, hm, hy⟩ := hp; rw [HC.out] at he; subst he; have H3 := Lib.hid (And.intro hd (And.intro hl (And.intro hm hy))); clear hd hl hm hy)
              go_meet
              obtain ⟨hd, hl, hm, hy⟩ := H3.out
              exact ⟨v1, _, _, HA.out, hd, hl, HMC.out.nil.trans hm, fun y h => (hy y h).imp id (fun h => Nat.le_trans HMC.out.size h)⟩
            · have HA := Lib.hid (HCL3.out.trans (if_pos hc))
              have HO3 := Lib.hid (show Calls Try.prog 79 #[.pointer (some ⟨q.b, 0, none⟩), .int .i64 (((L.s.newest : Nat) : Int) + 1)] w1 fun e w' => ∃ v', e = .returned (.int .i64 (openL G D L.s (L.s.newest + 1)).1) ∧ IsDev w' p (openL G D L.s (L.s.newest + 1)).2.1 ∧ IsLog w' ⟨q.b, v'⟩ B (.pointer (some ⟨p.b, 0, none⟩)) G.first G.n { L with s := (openL G D L.s (L.s.newest + 1)).2.2 } ∧ Mods (p.foot ++ q.foot) w1 w' ∧ ∀ y, v'.ownBlock = some y → q.v.ownBlock = some y ∨ w1.heap.size ≤ y from HO2.out)
              clear HCL3 HO2 HOPN
              generalize openL G D L.s (L.s.newest + 1) = R at hc HA HO3
              obtain ⟨cd, D1, S1⟩ := R
              simp only at hc HA HO3
              have hcb : (cd != 0) = true := by simpa using hc
              go_wp2_with (go_at_call 79; refine HO3.out.mono ?_; rintro e w3 ⟨v1, rfl, hd, hl, hm, hy⟩; have H3 := Lib.hid (And.intro hd (And.intro hl (And.intro hm hy))); clear hd hl hm hy)
              have HDN3 := Lib.hid (ldown_ok w3 ⟨q.b, v1⟩ B p D1 H3.out.1 G.first G.n { L with s := S1 } H3.out.2.1 HE.out)
              refine HDN3.out.mono ?_
              rintro e w4 ⟨rfl, h4⟩
              have H4 := Lib.hid h4
              clear h4
              go_wp2_with fail
              go_ret
              obtain ⟨hd, hl, hm, hy⟩ := H3.out
              have h4 := H4.out
              by_cases hdn1 : D1.down = true
              · rw [if_pos hdn1] at h4
                have ho : orEnd D1 { L with s := S1 } = endL := if_pos hdn1
                refine ⟨.slice none 0 0, by rw [HA.out]; rfl, by rw [HA.out]; exact hd.mods h4.2 HQP.out, by rw [HA.out]; exact .inr ⟨ho, rfl, h4.1⟩, HMC.out.nil.trans (hm.trans (h4.2.mono (fun y hy => .inl (by simp at hy; subst hy; simp [LogAt.foot])))), fun y hy => by simp [Value.ownBlock] at hy⟩
              · rw [if_neg hdn1] at h4
                subst h4
                have ho : orEnd D1 { L with s := S1 } = { L with s := S1 } := if_neg hdn1
                refine ⟨v1, by rw [HA.out]; rfl, by rw [HA.out]; exact hd, by rw [HA.out]; exact .inl ⟨by show (orEnd D1 { L with s := S1 }).ended = false; rw [ho]; exact HE.out, by show IsLog _ _ _ _ _ _ (orEnd D1 { L with s := S1 }); rw [ho]; exact hl⟩, HMC.out.nil.trans hm, fun y h => (hy y h).imp id (fun h => Nat.le_trans HMC.out.size h)⟩
        case rest =>
          obtain ⟨v1, D1, S1, hA, hd, hl, hm, hy⟩ := hcut
          have HA := Lib.hid hA
          have HD := Lib.hid hd
          have HM := Lib.hid hm
          have HY := Lib.hid hy
          have HL := Lib.hid hl
          clear hA hd hl hm hy c8 c4 HCL2 HOPN HW HMC
          generalize wc = w5 at HD HM HL ⊢
          have c11 := (HL.out.c 11).trans (show _ = some (Value.bool L.held) from rfl)
          have f11 := HL.out.f 11
          have HS11 := Lib.hid (HL.out.set 11 (.bool false) { L with s := S1, held := false } rfl rfl)
          have c9 := (HS11.out.1.c 9).trans (show _ = some (Value.bool L.full) from rfl)
          have f9 := HS11.out.1.f 9
          have HS9 := Lib.hid (HS11.out.1.set 9 (.bool false) { L with s := S1, held := false, full := false } rfl rfl)
          go_wp2_with fail
          go_ret
          have hms := (HS11.out.2.trans HS9.out.2)
          refine ⟨v1, by rw [HA.out]; rfl, by rw [HA.out]; exact HD.out.mods hms HQP.out, by rw [HA.out]; exact .inl ⟨HE.out, HS9.out.1⟩, HM.out.trans (hms.mono (fun y hy => .inl (by simp at hy; subst hy; simp [LogAt.foot]))), HY.out⟩
end Go.Proofs.Ytkdadnlleepkfaa
