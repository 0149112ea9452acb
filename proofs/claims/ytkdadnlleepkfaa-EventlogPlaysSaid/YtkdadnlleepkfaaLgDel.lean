/- slices.IndexFunc and slices.DeleteFunc over records, with the closure of the method open: contracts. -/
import Derived.Test.YtkdadnlleepkfaaLgGK
import Derived.Lib.SliceRun
namespace Go.Proofs.Ytkdadnlleepkfaa
open Go.RowKit
set_option linter.unusedVariables false
set_option linter.unusedSimpArgs false
section
variable {P : Program}
theorem run_clear_row (w : World) (t e ty : TypeId) (z : Value) (ht : P.underlying t = some (.slice e)) (hv : (zeroValue e).run P w = .ok z w) (hp : 0 < z.cells.size) (h1 : ∀ u ∈ z.cells.toList, u.oneCell' = true) (b o n c : Nat) (hn : 0 < n)
    (hc : ∀ j, j < n * z.cells.size → (w.cell? ⟨b, o + j, none⟩).isSome = true) (hf : ∀ j, w.frozen? ⟨b, j, none⟩ = false) :
    (Builtin.clear_ #[t] ty #[.slice (some ⟨b, o, none⟩) n c]).run P w = .ok (.tuple #[]) (w.setCells b o (Builtin.zeroCells z.cells n).toList) := by
  have hl : (Builtin.zeroCells z.cells n).toList.length = n * z.cells.size := by simp [Builtin.zeroCells]
  have hst := run_storeCells_cells (P := P) b o (Builtin.zeroCells z.cells n).toList 0 w (fun j hj => by rw [Nat.add_zero]; exact hc j (by omega)) (fun j _ => hf _) (by
    intro v hv'
    obtain ⟨i, hi, rfl⟩ := List.mem_iff_getElem.1 hv'
    simp only [Builtin.zeroCells, Array.getElem_toList, Array.getElem_map, Array.getElem_range]
    rw [getElem!_pos z.cells (i % z.cells.size) (Nat.mod_lt _ hp)]
    exact h1 _ (by simp))
  simp only [Nat.add_zero] at hst
  obtain ⟨m, rfl⟩ : ∃ m, n = m + 1 := ⟨n - 1, by omega⟩
  simp [Builtin.clear_, run_underlying ht, hv, hst]
theorem wpList_storeAt {T : TypeId} {ops : Array Oper} {rest : List Oper} {o : Oper} {a : Act} {w : World} {Q : Exit → Act → World → Prop} (hgd : o.guard = none) (ty : TypeId) (x y : Operand) (ho : o.op = .store ty x y)
    {g : Nat} (off : Nat) {c0 cs : Array Value} (hg : w.heap[g]? = some (.cells c0 T (0, 0))) (hx : a.eval x = .pointer (some ⟨g, off, none⟩)) (hy : a.eval y = .agg cs) (hs : off + cs.size ≤ c0.size)
    (hi : (P.info? ty).map (·.size) = some cs.size) (h1 : cs.all (·.oneCell') = true) (h : ∀ W, W.heap[g]? = some (.cells (setAll c0 off cs.toList) T (0, 0)) → Mods [g] w W → wpList P ops Q rest (a.put o.dst undef) W) : wpList P ops Q (o :: rest) a w := by
  refine wpList_store_mid hgd ty x y ho g off cs hx hy ?_ hi h1 (h _ (heap_setCells _ _ _ _ hg) (Mods.setCells _ _ _))
  intro j hj
  refine ⟨?_, froz_blk hg _⟩
  rw [cell_blk hg, Array.getElem?_eq_getElem (by omega)]
  rfl
end
theorem take_setAll {c : Array Value} {vs : List Value} {o : Nat} (h : o + vs.length ≤ c.size) : (setAll c o vs).toList.take (o + vs.length) = c.toList.take o ++ vs := by
  have hl : (c.toList.take o).length = o := by simp; omega
  have e1 : ∀ i, (setAll c o vs).toList[i]? = (setAll c o vs)[i]? := fun i => Array.getElem?_toList
  have e2 : ∀ i, c.toList[i]? = c[i]? := fun i => Array.getElem?_toList
  refine List.ext_getElem? fun i => ?_
  by_cases hi : i < o + vs.length
  · rw [List.getElem?_take, if_pos hi, e1, get_setAll _ _ _ _ (by omega)]
    by_cases h2 : i < o
    · rw [if_neg (by omega), List.getElem?_append_left (by omega), List.getElem?_take, if_pos h2, e2]
    · rw [if_pos ⟨by omega, hi⟩, List.getElem?_append_right (by omega), hl]
  · rw [List.getElem?_take, if_neg hi, List.getElem?_eq_none (by rw [List.length_append, hl]; omega)]
theorem take_setAll0 {c : Array Value} {vs : List Value} {o : Nat} (h : o + vs.length ≤ c.size) : (setAll c o vs).toList.take o = c.toList.take o := by
  have e1 : ∀ i, (setAll c o vs).toList[i]? = (setAll c o vs)[i]? := fun i => Array.getElem?_toList
  have e2 : ∀ i, c.toList[i]? = c[i]? := fun i => Array.getElem?_toList
  refine List.ext_getElem? fun i => ?_
  rw [List.getElem?_take, List.getElem?_take]
  by_cases hi : i < o
  · rw [if_pos hi, if_pos hi, e1, get_setAll _ _ _ _ (by omega), if_neg (by omega), e2]
  · rw [if_neg hi, if_neg hi]
set_option maxHeartbeats 400000 in
theorem open1_ok (w : World) (g t : Nat) (r : Nat × Evt) (hg : w.heap[g]? = some (.cells #[.int .i64 (t : Nat)] 3 (0, 0))) :
    Calls Try.prog 98 #[.agg (recC r), .pointer (some ⟨g, 0, none⟩)] w fun e w' => e = .returned (.bool (decide (r.1 < t))) ∧ Mods [] w w' := by
  have M0 := Lib.hid ((Mods.refl (S := []) (w := w)).alloc (.cells (recC r) 101))
  have h0 := (cell_blk (M0.out.heap hg (by simp)) 0).trans (show _ = some (Value.int .i64 ((t : Nat) : Int)) from rfl)
  have hd : decide (((r.1 : Nat) : Int) < ((t : Nat) : Int)) = decide (r.1 < t) := by simp
  rw [← hd]
  clear hd hg
  obtain ⟨s, x⟩ := r
  simp only [recC, Evt.cells] at *
  go_enter Try.func98, Try.ntmps98
  go_wp2
  all_goals (go_ret; exact ⟨by simp_all, M0.out⟩)
/-- The place of the first record of a sector ahead of t. -/
def cutIdx (l : List (Nat × Evt)) (t : Nat) : Nat := l.findIdx fun r => decide (r.1 < t)
theorem cutIdx_le (l : List (Nat × Evt)) (t : Nat) : cutIdx l t ≤ l.length := List.findIdx_le_length
def cutI (l : List (Nat × Evt)) (t : Nat) : Int := if cutIdx l t = l.length then -1 else (cutIdx l t : Nat)
theorem rec_range {w : World} {bb off cap : Nat} {l : List (Nat × Evt)} {r : Nat × Evt} {k : Nat} (hk : k < l.length) (hr : l.getD k recE.dflt = r) (h : RdE recE w (.slice (some ⟨bb, off, none⟩) l.length cap) l) : w.rangeAt bb (off + k * 11) (recC r).toList := by
  have := h.range hk recOk.len
  rw [hr] at this
  exact this
set_option maxRecDepth 100000 in
set_option maxHeartbeats 2000000 in
theorem cutI_ok (w : World) (g t : Nat) (l : List (Nat × Evt)) (hg : w.heap[g]? = some (.cells #[.int .i64 (t : Nat)] 3 (0, 0))) (v : Value) (hv : RdE recE w v l) :
    Calls Try.prog 60 #[v, .func (.func 98) #[] #[.pointer (some ⟨g, 0, none⟩)]] w fun en w' => en = .returned (.int .i64 (cutI l t)) ∧ Mods [] w w' := by
  obtain ⟨ad, cap, rfl⟩ := hv.len
  have HV := Lib.hid hv
  have HG := Lib.hid hg
  obtain ⟨K, hK⟩ : ∃ K, K = cutIdx l t := ⟨_, rfl⟩
  have HB := Lib.hid (fun j (hj : j < K) => show decide ((l.getD j recE.dflt).1 < t) = false from by
    have hj2 : j < l.length := by have := cutIdx_le l t; omega
    have := List.not_of_lt_findIdx (p := fun r : Nat × Evt => decide (r.1 < t)) (xs := l) (i := j) (by rw [hK] at hj; exact hj)
    rw [List.getD_eq_getElem?_getD, List.getElem?_eq_getElem hj2]
    simpa using this)
  have HA := Lib.hid (fun (h : K < l.length) => show decide ((l.getD K recE.dflt).1 < t) = true from by
    have := List.findIdx_getElem (p := fun r : Nat × Evt => decide (r.1 < t)) (xs := l) (w := by rw [hK] at h; exact h)
    rw [List.getD_eq_getElem?_getD, List.getElem?_eq_getElem h]
    subst hK
    exact this)
  have hKl : K ≤ l.length := hK ▸ cutIdx_le _ _
  have HI := Lib.hid (show cutI l t = if K = l.length then -1 else (K : Int) by unfold cutI; rw [← hK])
  generalize cutI l t = V at HI ⊢
  have hcap : l.length ≤ 9223372036854775807 := by obtain ⟨_, _, he, h1, h2, _⟩ := hv; exact Nat.le_trans h1 h2
  clear hv hg hK
  go_enter Try.func60, Try.ntmps60
  go_wp2_with fail
  go_loopw [8] (fun i wr => ∃ k : Nat, k ≤ K ∧ i = .int .i64 k ∧ Mods [] w wr) (fun i _ => K - (intOf i).toNat)
  case atStart => exact ⟨0, Nat.zero_le _, rfl, Mods.refl⟩
  case round =>
    obtain ⟨k, hk, rfl, M⟩ := hrel
    have i0 : (0 : Int) ≤ (k : Int) := by omega
    by_cases hlt : k < l.length
    · have i1 : (k : Int) < (l.length : Int) := by omega
      have HRW := HV.out.mods0 recOk M
      obtain ⟨bb, off, cp, hv2, _, _, -⟩ := HRW.at (by omega)
      injection hv2 with hv3 _ hv4
      subst hv3 hv4
      have BF := Lib.hid (fun r => open1_ok wr g t r (M.heap HG.out (by simp)))
      have HBk := Lib.hid (HB.out k)
      have HAk := Lib.hid (fun h : k = K => show decide ((l.getD k recE.dflt).1 < t) = true from by rw [h]; exact HA.out (h ▸ hlt))
      have HRG := Lib.hid (rec_range hlt rfl HRW)
      generalize (l.getD k recE.dflt) = r at HBk HAk HRG
      have HM := Lib.hid M
      clear HRW M
      by_cases hkK : k < K
      · have HD := Lib.hid (HBk.out hkK)
        go_wp2_with (refine wpList_load_mid rfl 101 (.tmp 14) rfl bb (off + k * 11) (by rfl) (recC r).toList _ HRG.out Try.underlying101 rfl Try.sizeRec ?_)
        refine (BF.out r).mono ?_
        rw [HD.out]
        rintro en w2 ⟨rfl, M2⟩
        have HM2 := Lib.hid (HM.out.trans M2)
        clear M2
        go_wp2_with fail
        go_roundw
        case rel => exact ⟨k + 1, by omega, by go_num, HM2.out⟩
        case measure => simp [intOf]; omega
      · obtain rfl : k = K := by omega
        have HD := Lib.hid (HAk.out rfl)
        have HRES := Lib.hid (show V = (k : Int) by rw [HI.out, if_neg (by omega)])
        go_wp2_with (refine wpList_load_mid rfl 101 (.tmp 14) rfl bb (off + k * 11) (by rfl) (recC r).toList _ HRG.out Try.underlying101 rfl Try.sizeRec ?_)
        refine (BF.out r).mono ?_
        rw [HD.out]
        rintro en w2 ⟨rfl, M2⟩
        have HM2 := Lib.hid (HM.out.trans M2)
        clear M2
        go_wp2_with fail
        go_ret
        exact ⟨ret_int HRES.out.symm, HM2.out⟩
    · have HRES := Lib.hid (show V = -1 by rw [HI.out, if_pos (by omega)])
      have i1 : ¬ (k : Int) < (l.length : Int) := by omega
      go_wp2_with fail
      go_ret
      exact ⟨ret_int HRES.out.symm, M⟩
/-- The row while records are deleted: i of the first j kept ones lie ahead, those from j on are as they were. -/
structure Cutting (A : List (Nat × Evt)) (t j i : Nat) (cur : Array Value) : Prop where
  head : cur.toList.take (i * 11) = cellsE recE ((A.take j).filter fun x => decide (t ≤ x.1))
  len : i = ((A.take j).filter fun x => decide (t ≤ x.1)).length
  tail : ∀ k, j ≤ k → k < A.length → ∀ c, c < 11 → cur[k * 11 + c]? = (recE.enc (A.getD k recE.dflt))[c]?
theorem Cutting.skip {A : List (Nat × Evt)} {t j i : Nat} {cur : Array Value} (h : Cutting A t j i cur) (hj : j < A.length) (hd : (A.getD j recE.dflt).1 < t) : Cutting A t (j + 1) i cur := by
  have e : (A.take (j + 1)).filter (fun x => decide (t ≤ x.1)) = (A.take j).filter fun x => decide (t ≤ x.1) := by
    rw [List.getD_eq_getElem?_getD, List.getElem?_eq_getElem hj] at hd
    rw [List.take_succ_eq_append_getElem hj, List.filter_append, List.filter_cons_of_neg (by simpa using hd)]
    simp
  exact ⟨by rw [e]; exact h.head, by rw [e]; exact h.len, fun k hk => h.tail k (by omega)⟩
theorem Cutting.keep {A : List (Nat × Evt)} {t j i : Nat} {cur : Array Value} (h : Cutting A t j i cur) (hj : j < A.length) (hij : i < j) (hs : A.length * 11 ≤ cur.size) (hd : ¬ (A.getD j recE.dflt).1 < t) : Cutting A t (j + 1) (i + 1) (setAll cur (i * 11) (recC (A.getD j recE.dflt)).toList) := by
  have e : (A.take (j + 1)).filter (fun x => decide (t ≤ x.1)) = ((A.take j).filter fun x => decide (t ≤ x.1)) ++ [A.getD j recE.dflt] := by
    rw [List.getD_eq_getElem?_getD, List.getElem?_eq_getElem hj, Option.getD_some] at hd ⊢
    rw [List.take_succ_eq_append_getElem hj, List.filter_append, List.filter_cons_of_pos (by simpa using hd)]
    simp
  have hl : (recC (A.getD j recE.dflt)).toList.length = 11 := rfl
  refine ⟨?_, by rw [e, List.length_append, ← h.len]; rfl, fun k hk hkl c hc => ?_⟩
  · have := take_setAll (c := cur) (vs := (recC (A.getD j recE.dflt)).toList) (o := i * 11) (by rw [hl]; omega)
    rw [hl, h.head] at this
    rw [show (i + 1) * 11 = i * 11 + 11 by omega, this, e, cellsE_append]
    simp [cellsE, recE, recC]
  · rw [get_setAll _ _ _ _ (by omega), if_neg (by rw [hl]; omega)]
    exact h.tail k (by omega) hkl c hc
theorem cellsE_take {A : List (Nat × Evt)} {k : Nat} (hk : k ≤ A.length) : (cellsE recE A).take (k * 11) = cellsE recE (A.take k) := by
  have h1 : cellsE recE A = cellsE recE (A.take k) ++ cellsE recE (A.drop k) := by rw [← cellsE_append, List.take_append_drop]
  have h2 : (cellsE recE (A.take k)).length = k * 11 := by rw [cellsE_length recOk.len, List.length_take, Nat.min_eq_left hk]; rfl
  rw [h1, List.take_left' h2]
theorem Cutting.start {A : List (Nat × Evt)} {t : Nat} {w : World} {B gr cap : Nat} (h : OwnE recE w B (.slice (some ⟨gr, 0, none⟩) A.length cap) A) (hc : cutIdx A t < A.length) :
    ∃ cur, w.heap[gr]? = some (.cells cur 101 (0, 0)) ∧ cur.size = cap * 11 ∧ Cutting A t (cutIdx A t + 1) (cutIdx A t) cur := by
  have hrd := h.rd recOk
  rcases h.2 with ⟨hx, _⟩ | ⟨g', cap', cur, hx, _, hg, h1, h2, h3, h4⟩
  · cases hx
  · injection hx with hx1 hx2 hx3
    injection hx1 with hx1
    injection hx1 with hx1
    subst hx1 hx3
    have hsz : A.length * 11 ≤ cur.size := by rw [h3]; exact Nat.mul_le_mul_right _ h1
    refine ⟨cur, hg, h3, Cutting.skip ⟨?_, ?_, ?_⟩ hc ?_⟩
    · have e : (A.take (cutIdx A t)).filter (fun x => decide (t ≤ x.1)) = A.take (cutIdx A t) := by
        refine List.filter_eq_self.2 fun x hx => ?_
        obtain ⟨i, hi, rfl⟩ := List.mem_iff_getElem.1 hx
        rw [List.length_take] at hi
        have := List.not_of_lt_findIdx (p := fun r : Nat × Evt => decide (r.1 < t)) (xs := A) (i := i) (by show i < cutIdx A t; omega)
        rw [List.getElem_take]
        simpa using this
      rw [e, ← cellsE_take (by omega), ← h4, List.take_take]
      congr 1
      show cutIdx A t * 11 = min (cutIdx A t * 11) (A.length * 11)
      omega
    · have e : (A.take (cutIdx A t)).filter (fun x => decide (t ≤ x.1)) = A.take (cutIdx A t) := by
        refine List.filter_eq_self.2 fun x hx => ?_
        obtain ⟨i, hi, rfl⟩ := List.mem_iff_getElem.1 hx
        rw [List.length_take] at hi
        have := List.not_of_lt_findIdx (p := fun r : Nat × Evt => decide (r.1 < t)) (xs := A) (i := i) (by show i < cutIdx A t; omega)
        rw [List.getElem_take]
        simpa using this
      rw [e, List.length_take]
      omega
    · intro k hk hkl c hcc
      obtain ⟨bb, off, cp, hy, _, _, hat⟩ := hrd.at (by omega)
      injection hy with hy1 hy2 hy3
      injection hy1 with hy1
      injection hy1 with hy4 hy5
      have := hat k hkl c hcc
      rw [← hy4, ← hy5, cell_blk hg, Nat.zero_add] at this
      exact this
    · have := List.findIdx_getElem (p := fun r : Nat × Evt => decide (r.1 < t)) (xs := A) (w := hc)
      rw [List.getD_eq_getElem?_getD, List.getElem?_eq_getElem hc, Option.getD_some]
      exact of_decide_eq_true this
def DelPost (w : World) (B : Nat) (v : Value) (A : List (Nat × Evt)) (t : Nat) (e : Ending) (w' : World) : Prop :=
  ∃ ad n cap, e = .returned (.slice ad n cap) ∧ OwnE recE w' B (.slice ad n cap) (A.filter fun x => decide (t ≤ x.1)) ∧ Mods v.ownBlock.toList w w' ∧ ∀ y, (Value.slice ad n cap).ownBlock = some y → v.ownBlock = some y
theorem zeroRec (w : World) : (zeroValue 101).run Try.prog w = .ok (.agg #[.int .i64 0, .int .u16 0, .int .u32 0, .int .u16 0, .int .u8 0, .int .u8 0, .int .u8 0, .bool false, .int .u8 0, .int .u8 0, .int .u8 0]) w := by
  obtain ⟨i0, hi, hz0, hz1, hz2⟩ := info_parts Try.infoRec
  simp [zeroValue, typeInfo, hi, hz0]
set_option maxRecDepth 100000 in
set_option maxHeartbeats 4000000 in
theorem delete_ok (w : World) (B : Nat) (v : Value) (A : List (Nat × Evt)) (hv : OwnE recE w B v A) (hl : A.length ≤ 100000) (hB : B ≤ w.heap.size) (g t : Nat) (hg : w.heap[g]? = some (.cells #[.int .i64 (t : Nat)] 3 (0, 0))) :
    Calls Try.prog 97 #[v, .func (.func 98) #[] #[.pointer (some ⟨g, 0, none⟩)]] w fun e w' => DelPost w B v A t e w' := by
  have HG := Lib.hid hg
  have HO := Lib.hid hv
  have HI := Lib.hid (cutI_ok w g t A hg v (hv.rd recOk))
  obtain ⟨ad, cap, hve⟩ := (hv.rd recOk).len
  have HVE := Lib.hid hve
  subst hve
  clear hg hv
  by_cases hc : cutIdx A t = A.length
  · have HN := Lib.hid (show cutI A t = -1 from if_pos hc)
    have HF := Lib.hid (show A.filter (fun x => decide (t ≤ x.1)) = A from by
      refine List.filter_eq_self.2 fun x hx => ?_
      have := List.findIdx_eq_length.1 hc x hx
      simpa using this)
    clear hc
    go_enter Try.func97, Try.ntmps97
    go_wp2_with (go_at_call 60; refine HI.out.mono ?_; rw [HN.out]; rintro e w' ⟨rfl, M⟩; have HM := Lib.hid M; clear M)
    go_ret
    exact ⟨ad, _, cap, rfl, by rw [HF.out]; exact HO.out.mods0 HM.out, HM.out.nil, fun y hy => hy⟩
  · have hk := cutIdx_le A t
    have hlt0 : cutIdx A t < A.length := by omega
    have HN := Lib.hid (show cutI A t = (cutIdx A t : Int) from if_neg hc)
    obtain ⟨gr, cp, hve, hgrB, hgrw, hcp1, hcp2⟩ := HO.out.form (by omega)
    injection hve with hv1 hv2 hv3
    subst hv1 hv3
    have HCP2 := Lib.hid hcp2
    clear hcp2
    obtain ⟨cur0, hr0, hs0, hC0⟩ := Cutting.start HO.out hlt0
    have HC0 := Lib.hid hC0
    have HR0 := Lib.hid hr0
    have HS0 := Lib.hid hs0
    have HNE := Lib.hid (show g ≠ gr from fun h => by
      have h1 := HG.out
      rw [h, hr0] at h1
      injection h1 with h1
      injection h1 with _ h2 _
      exact absurd h2 (by decide))
    generalize hK : cutIdx A t = K at HN HC0 hlt0
    clear hC0 hr0 hs0 hc hk hK hv2
    have i1 : (K : Int) < (A.length : Int) := by omega
    have i2 : (0 : Int) ≤ (K : Int) := by omega
    have i3 : ¬ (K : Int) = -1 := by omega
    have HLN := Lib.hid hl
    clear hB
    go_enter Try.func97, Try.ntmps97
    go_wp2_with (go_at_call 60; refine HI.out.mono ?_; rw [HN.out]; rintro e w' ⟨rfl, M⟩; have HM := Lib.hid M; clear M)
    rename ((K : Int) == -1) = false => hK1
    rw [hK1]
    clear hK1 i1 i2 i3
    go_loopw [5, 6] (fun i' j' wx => ∃ (i j : Nat) (cur : Array Value), i' = .int .i64 (i : Nat) ∧ j' = .int .i64 (j : Nat) ∧ i < j ∧ j ≤ A.length ∧ wx.heap[gr]? = some (.cells cur 101 (0, 0)) ∧ cur.size = cap * 11 ∧ Cutting A t j i cur ∧ Mods [gr] w wx) (fun _ j' _ => A.length - (intOf j').toNat)
    case atStart => exact ⟨K, K + 1, cur0, rfl, by go_num, by omega, by omega, HM.out.heap HR0.out (by simp), HS0.out, HC0.out, HM.out.nil⟩
    case round =>
      obtain ⟨i, j, cur, rfl, rfl, hij, hjl, hr, hs, hC, M⟩ := hrel
      have HR := Lib.hid hr
      have HSZ := Lib.hid hs
      have HS := Lib.hid (show A.length * 11 ≤ cur.size by rw [hs]; exact Nat.mul_le_mul_right _ hcp1)
      have HC := Lib.hid hC
      have HMX := Lib.hid M
      clear hr hs hC M
      have j0 : (0 : Int) ≤ (j : Int) := by omega
      have k0 : (0 : Int) ≤ (i : Int) := by omega
      by_cases hlt : j < A.length
      · have j1 : (j : Int) < (A.length : Int) := by omega
        have k1 : (i : Int) < (A.length : Int) := by omega
        have HT := Lib.hid (HC.out.tail j (Nat.le_refl _) hlt)
        have HSK := Lib.hid (fun h => HC.out.skip hlt h)
        have HKP := Lib.hid (fun h => HC.out.keep hlt hij HS.out h)
        generalize (A.getD j recE.dflt) = r at HT HSK HKP
        have HRG := Lib.hid (show wr.rangeAt gr (j * 11) (recC r).toList from fun c u hu => by
          have hc : c < 11 := (List.getElem?_eq_some_iff.1 hu).1
          rw [cell_blk HR.out, HT.out c hc]
          exact hu)
        clear HT
        go_upto_region 8 with (first
          | (refine wpList_load_mid rfl 101 (.tmp 24) rfl gr (j * 11) (by rfl) (recC r).toList _ HRG.out Try.underlying101 rfl Try.sizeRec ?_)
          | (refine wpList_store_row (cs := recC r) rfl 101 (.tmp 7) (.tmp 25) rfl (heap_alloc_new wr _) (by rfl) (by rfl) (by rfl) Try.sizeRec (recC_one r) ?_; intro w4 R4 M4; have HF4 := Lib.hid (freshA M4); have HR4 := Lib.hid R4; clear R4 M4))
        have HF := Lib.hid (HMX.out.comp0 HF4.out)
        have HR4c := Lib.hid (HF4.out.heap HR.out (by simp))
        have HG4 := Lib.hid (HF.out.heap HG.out (by have := HNE.out; simpa using this))
        have HZ4 := Lib.hid (lt_of_block HR.out)
        generalize wr.heap.size = g7 at HR4 HZ4 ⊢
        have BF := Lib.hid (open1_ok w4 g t r HG4.out)
        by_cases hd : r.1 < t
        · have HD := Lib.hid (decide_eq_true hd)
          go_wp2_with (refine wpList_load_rowG (by rfl) 101 (.tmp 7) rfl g7 (by rfl) _ _ _ _ HR4.out Try.underlying101 rfl Try.sizeRec ?_)
          refine BF.out.mono ?_
          rw [HD.out]
          rintro en w5 ⟨rfl, M5⟩
          have HM5 := Lib.hid M5
          clear M5
          go_wp2_with fail
          go_roundw
          case rel =>
            exact ⟨i, j + 1, cur, rfl, by go_num, by omega, by omega, HM5.out.heap HR4c.out (by simp), HSZ.out, HSK.out hd, HF.out.comp0 HM5.out⟩
          case measure => simp [intOf]; omega
        · have HD := Lib.hid (decide_eq_false hd)
          go_wp2_with (refine wpList_load_rowG (by rfl) 101 (.tmp 7) rfl g7 (by rfl) _ _ _ _ HR4.out Try.underlying101 rfl Try.sizeRec ?_)
          refine BF.out.mono ?_
          rw [HD.out]
          rintro en w5 ⟨rfl, M5⟩
          have HM5 := Lib.hid (HF.out.comp0 M5)
          have HR5 := Lib.hid (M5.heap HR4c.out (by simp))
          have HB5 := Lib.hid (M5.heap HR4.out (by simp))
          have HS5 := Lib.hid (show i * 11 + (recC r).size ≤ cur.size by have := HS.out; show i * 11 + 11 ≤ _; omega)
          have HC5 := Lib.hid (HKP.out hd)
          clear M5
          go_wp2_with (first
            | (refine wpList_load_rowG (by rfl) 101 (.tmp 7) rfl g7 (by rfl) _ _ _ _ HB5.out Try.underlying101 rfl Try.sizeRec ?_)
            | (refine wpList_storeAt rfl 101 (.tmp 33) (.tmp 32) rfl (i * 11) HR5.out (by rfl) (by rfl) HS5.out Try.sizeRec (recC_one r) ?_; intro w6 R6 M6; have HR6 := Lib.hid R6; have HM6 := Lib.hid (HM5.out.trans M6); clear R6 M6))
          go_roundw
          case rel => exact ⟨i + 1, j + 1, _, by go_num, by go_num, by omega, by omega, HR6.out, by rw [size_setAll]; exact HSZ.out, HC5.out, HM6.out⟩
          case measure => simp [intOf]; omega
      · have j1 : ¬ (j : Int) < (A.length : Int) := by omega
        obtain rfl : j = A.length := by omega
        have k1 : (i : Int) ≤ (A.length : Int) := by omega
        have k2 : i ≤ cap := by omega
        have hcl : ∀ ty, (Builtin.clear_ #[84] ty #[.slice (some ⟨gr, i * 11, none⟩) (A.length - i) (cap - i)]).run Try.prog wr = .ok (.tuple #[]) (wr.setCells gr (i * 11) (Builtin.zeroCells (Value.agg #[.int .i64 0, .int .u16 0, .int .u32 0, .int .u16 0, .int .u8 0, .int .u8 0, .int .u8 0, .bool false, .int .u8 0, .int .u8 0, .int .u8 0]).cells (A.length - i)).toList) := fun ty =>
          run_clear_row wr _ _ ty _ Try.underlying84 (zeroRec wr) (by decide) (by simp [Value.cells, Value.oneCell']) gr (i * 11) _ _ (by omega) (fun c hc => by
            have h11 : (Value.agg #[.int .i64 0, .int .u16 0, .int .u32 0, .int .u16 0, .int .u8 0, .int .u8 0, .int .u8 0, .bool false, .int .u8 0, .int .u8 0, .int .u8 0]).cells.size = 11 := rfl
            rw [h11] at hc
            have := HS.out
            rw [cell_blk HR.out, Array.getElem?_eq_getElem (by omega)]
            rfl) (froz_blk HR.out)
        go_wp2
        go_ret
        generalize hzs : (Builtin.zeroCells #[Value.int IntKind.i64 0, Value.int IntKind.u16 0, Value.int IntKind.u32 0, Value.int IntKind.u16 0, Value.int IntKind.u8 0, Value.int IntKind.u8 0, Value.int IntKind.u8 0, Value.bool false, Value.int IntKind.u8 0, Value.int IntKind.u8 0, Value.int IntKind.u8 0] (A.length - i)).toList = zs
        have hzl : zs.length = (A.length - i) * 11 := by rw [← hzs]; simp [Builtin.zeroCells]
        have hCh := HC.out.head
        have hCl := HC.out.len
        rw [List.take_length] at hCh hCl
        refine ⟨some ⟨gr, 0, none⟩, i, cap, rfl, ⟨?_, .inr ⟨gr, cap, setAll cur (i * 11) zs, ?_, hgrB, heap_setCells _ _ _ _ HR.out, ?_, HCP2.out, ?_, ?_⟩⟩, HMX.out.trans ((Mods.setCells _ _ _).mono (fun y hy => .inl (by simpa [Value.ownBlock] using hy))), fun y hy => hy⟩
        · exact cellsE_length recOk.len _
        · rw [← hCl]
        · rw [← hCl]; exact k2
        · rw [size_setAll]; exact HSZ.out
        · rw [← hCl, ← hCh]
          exact take_setAll0 (show i * 11 + zs.length ≤ cur.size by rw [hzl]; have := HS.out; omega)
end Go.Proofs.Ytkdadnlleepkfaa
