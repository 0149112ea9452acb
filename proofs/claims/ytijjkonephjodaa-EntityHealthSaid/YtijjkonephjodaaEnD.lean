/- Joined texts. Presence of entities: contracts. | The order of entities, and slices.SortFunc of entities by it: contracts (the sort by the shelf's contract, laid in plain words by the kit's own program). -/
import Derived.Test.YtijjkonephjodaaEnC
import Derived.Test.YtijjkonephjodaaCallBoxes
import Derived.Shelf.SlSortCmp.WholeK
namespace Go.Proofs.Ytijjkonephjodaa
open Go.RowKit

section
variable {P : Program} {ops : Array Oper} {Q : Exit → Act → World → Prop} {S : World → Prop} {md : Region.Mode} {T : TypeId}
/-- A call and a new block whose value is any function of its place, in a region that draws its order: in either order. -/
theorem callLitH {lst : Array Bool} {iC iA : Nat} {oC oA : Oper} {dC dA : Nat} {f : FuncId} {args z : Array Value} {a : Act} {w : World} {fuel : Nat} {R : Value → World → Prop} {vA : Nat → Value}
    (hC : ops[iC]? = some oC) (hA : ops[iA]? = some oA) (gC : oC.guard = none) (gA : oA.guard = none) (eC : oC.dst = some dC) (eA : oA.dst = some dA) (hd : dC ≠ dA) (hi : iC ≠ iA)
    (rC0 : ∀ w, (execOp a.eval oC).run P w = .ok (.enter f args) w) (rC1 : ∀ (u : Value) w, (execOp ({ a with tmps := a.tmps.setIfInBounds dA u } : Act).eval oC).run P w = .ok (.enter f args) w)
    (rA0 : ∀ w, (execOp a.eval oA).run P w = .ok (.value (vA w.heap.size)) (w.alloc (.cells z T))) (rA1 : ∀ (u : Value) w, (execOp ({ a with tmps := a.tmps.setIfInBounds dC u } : Act).eval oA).run P w = .ok (.value (vA w.heap.size)) (w.alloc (.cells z T)))
    (t0 : Region.ready md ops lst = [iC, iA]) (t1 : Region.ready md ops (lst.setIfInBounds iC true) = [iA]) (t2 : Region.ready md ops (lst.setIfInBounds iA true) = [iC])
    (hS : ∀ W, Mods [] w W → S W) (hcall : ∀ W, Mods [] w W → Calls P f args W fun e W' => ∃ u, e = .returned u ∧ R u W' ∧ Mods [] W W') (hR : ∀ u W, R u W → R u (W.alloc (.cells z T)))
    (h : ∀ u g W', R u W' → Mods [] w W' → W'.heap[g]? = some (.cells z T (0, 0)) → w.heap.size ≤ g → wpAnyH P md ops Q S fuel ((lst.setIfInBounds iC true).setIfInBounds iA true) { a with tmps := (a.tmps.setIfInBounds dC u).setIfInBounds dA (vA g) } W') :
    wpAnyH P md ops Q S (fuel + 2) lst a w := by
  refine wpAnyH_ready t0 (by simp) (AllReadyH.cons hC (fun K hK => ?_) (AllReadyH.cons hA (fun K hK => ?_) AllReadyH.nil))
  · refine exec_call gC eC (rC0 w) (R := fun u W' => R u W' ∧ Mods [] w W') ((hcall w Mods.refl).mono fun e W' ⟨u, he, hu, M⟩ => ⟨u, he, hu, M⟩) (fun u W' ⟨hu, M⟩ => ?_)
    refine hK.out _ _ (hS _ M) (fun _ => ?_)
    refine wpAnyH_ready t1 (by simp) (AllReadyH.cons hA (fun K' hK' => ?_) AllReadyH.nil)
    refine exec_value gA eA (rA1 _ _) ?_
    exact hK'.out _ _ (hS _ (M.alloc _)) (fun _ => h u _ _ (hR u W' hu) (M.alloc _) (heap_alloc_new W' _) M.size)
  · refine exec_value gA eA (rA0 _) ?_
    have M0 := (Mods.refl (S := []) (w := w)).alloc (.cells z T)
    refine hK.out _ _ (hS _ M0) (fun _ => ?_)
    refine wpAnyH_ready t2 (by simp) (AllReadyH.cons hC (fun K' hK' => ?_) AllReadyH.nil)
    refine exec_call gC eC (rC1 _ _) (R := fun u W' => R u W' ∧ Mods [] (w.alloc (.cells z T)) W') ((hcall _ M0).mono fun e W' ⟨u, he, hu, M⟩ => ⟨u, he, hu, M⟩) (fun u W' ⟨hu, M⟩ => ?_)
    refine hK'.out _ _ (hS _ (M0.trans M)) (fun _ => ?_)
    have := h u w.heap.size W' hu (M0.trans M) (M.heap (heap_alloc_new w _) (by simp)) (Nat.le_refl _)
    rw [Array.setIfInBounds_comm _ _ hi] at this
    rw [Array.setIfInBounds_comm _ _ hd] at this
    exact this
end
theorem pres_arnd {l : List Asc} {ab : List Ent} {e : Ent} {A : List Ent} (h : Arnd l e A) : presB l ab e = true ↔ ∀ x ∈ e :: A, x ∉ ab := by
  rw [presB_iff]
  constructor
  · rintro ⟨h1, h2⟩ x hx
    rcases List.mem_cons.1 hx with rfl | hx
    · exact h1
    · obtain ⟨k, hk⟩ := (h.mem x).1 hx
      exact h2 k x hk
  · intro h1
    exact ⟨h1 e (.head _), fun k x hk => h1 x (.tail _ ((h.mem x).2 ⟨k, hk⟩))⟩
theorem pres_any {l : List Asc} {ab : List Ent} {e : Ent} {A : List Ent} (h : Arnd l e A) : (!((A ++ [e]).any fun x => decide (x ∈ ab))) = presB l ab e := by
  rw [Bool.eq_iff_iff, pres_arnd h, Bool.not_eq_true', List.any_eq_false]
  constructor
  · intro h1 x hx
    have := h1 x (by rcases List.mem_cons.1 hx with rfl | hx <;> simp [*])
    simpa using this
  · intro h1 x hx
    have := h1 x (by rcases List.mem_append.1 hx with hx | hx <;> simp_all)
    simpa using this
set_option maxHeartbeats 400000 in
theorem present1_ok (w : World) (gb : Nat) (vab : Value) (ab : List Ent) (x : Ent) (hg : w.heap[gb]? = some (.cells #[vab] 64 (0, 0))) (hv : RdE entE w vab ab) :
    Calls Try.prog 99 #[.agg x.cells.toArray, .pointer (some ⟨gb, 0, none⟩)] w fun en w' => en = .returned (.bool (decide (x ∈ ab))) ∧ Mods [] w w' := by
  obtain ⟨ad, cap, rfl⟩ := hv.len
  have M0 := ((Mods.refl (S := []) (w := w)).alloc (.cells x.cells.toArray 23))
  have B0 := EntBox.new w x
  have e0 := B0.c0
  have e1 := B0.c1
  have g0 := (cell_blk (M0.heap hg (by simp)) 0).trans (show _ = some (Value.slice ad ab.length cap) from rfl)
  have HC := Lib.hid (contains_ok _ ab x _ (hv.mods0 entOk M0))
  have HM := Lib.hid M0
  generalize decide (x ∈ ab) = r at HC ⊢
  clear hv hg M0 B0
  go_enter Try.func99, Try.ntmps99
  go_wp2_with fail
  refine HC.out.mono ?_
  rintro en w' ⟨rfl, M⟩
  have HM2 := Lib.hid (HM.out.trans M)
  clear M
  go_wp2_with fail
  go_ret
  exact ⟨rfl, HM2.out⟩
def anyIdx (l ab : List Ent) : Nat := l.findIdx fun x => decide (x ∈ ab)
def anyI (l ab : List Ent) : Int := if anyIdx l ab = l.length then (-1 : Int) else ((anyIdx l ab : Nat) : Int)
theorem anyI_any (l ab : List Ent) : decide (0 ≤ anyI l ab) = l.any fun x => decide (x ∈ ab) := by
  have hle : anyIdx l ab ≤ l.length := List.findIdx_le_length
  have : anyIdx l ab < l.length ↔ (l.any fun x => decide (x ∈ ab)) = true := by
    unfold anyIdx
    rw [List.findIdx_lt_length, List.any_eq_true]
  rw [Bool.eq_iff_iff, decide_eq_true_eq, ← this]
  unfold anyI
  split <;> omega
set_option maxRecDepth 100000 in
set_option maxHeartbeats 2000000 in
theorem idxP_ok (w : World) (gb : Nat) (vab : Value) (ab l : List Ent) (hg : w.heap[gb]? = some (.cells #[vab] 64 (0, 0))) (hab : RdE entE w vab ab) (v : Value) (hv : RdE entE w v l) :
    Calls Try.prog 113 #[v, .func (.func 99) #[] #[.pointer (some ⟨gb, 0, none⟩)]] w fun en w' => en = .returned (.int .i64 (anyI l ab)) ∧ Mods [] w w' := by
  obtain ⟨ad, cap, rfl⟩ := hv.len
  have HV := Lib.hid hv
  have HG := Lib.hid hg
  have HAB := Lib.hid hab
  have hcap := hv.bound
  obtain ⟨K, hK⟩ : ∃ K, K = anyIdx l ab := ⟨_, rfl⟩
  have hKl : K ≤ l.length := hK ▸ List.findIdx_le_length
  have HB := Lib.hid (fun j (hj : j < K) => show decide (l.getD j default ∈ ab) = false from by
    have hj2 : j < l.length := by omega
    have := List.not_of_lt_findIdx (p := fun x : Ent => decide (x ∈ ab)) (xs := l) (i := j) (by rw [hK] at hj; exact hj)
    rw [List.getD_eq_getElem?_getD, List.getElem?_eq_getElem hj2]
    simpa using this)
  have HA := Lib.hid (fun (h : K < l.length) => show decide (l.getD K default ∈ ab) = true from by
    have := List.findIdx_getElem (p := fun x : Ent => decide (x ∈ ab)) (xs := l) (w := by rw [hK] at h; exact h)
    rw [List.getD_eq_getElem?_getD, List.getElem?_eq_getElem h]
    subst hK
    exact this)
  have HI := Lib.hid (show anyI l ab = if K = l.length then (-1 : Int) else (K : Int) by unfold anyI; rw [← hK])
  generalize anyI l ab = V at HI ⊢
  clear hv hg hK hab
  go_enter Try.func113, Try.ntmps113
  go_wp2_with fail
  go_loopw [8] (fun i wr => ∃ k : Nat, k ≤ K ∧ i = .int .i64 k ∧ Mods [] w wr) (fun i _ => K - (intOf i).toNat)
  case atStart => exact ⟨0, Nat.zero_le _, rfl, Mods.refl⟩
  case round =>
    obtain ⟨k, hk, rfl, M⟩ := hrel
    have i0 : (0 : Int) ≤ (k : Int) := by omega
    by_cases hlt : k < l.length
    · have i1 : (k : Int) < (l.length : Int) := by omega
      obtain ⟨bb, off, cap, hv2, _, _, hc⟩ := (HV.out.mods0 entOk M).ent (by omega)
      injection hv2 with hv3 _ hv4
      subst hv3 hv4
      obtain ⟨y0, y1⟩ := hc k hlt
      have BF := Lib.hid (present1_ok wr gb vab ab (l.getD k default) (M.heap HG.out (by simp)) (HAB.out.mods0 entOk M))
      have HBk := Lib.hid (HB.out k)
      have HAk := Lib.hid (fun h : k = K => show decide (l.getD k default ∈ ab) = true from by rw [h]; exact HA.out (h ▸ hlt))
      generalize (l.getD k default) = x at y0 y1 BF HBk HAk
      have HM := Lib.hid M
      clear hc M
      by_cases hkK : k < K
      · have HD := Lib.hid (HBk.out hkK)
        go_wp2_with fail
        refine BF.out.mono ?_
        rw [HD.out]
        rintro en w2 ⟨rfl, M2⟩
        have HM2 := Lib.hid (HM.out.trans M2)
        clear M2
        go_wp2_with fail
        go_roundw
        case rel => exact ⟨k + 1, by omega, by go_num, HM2.out⟩
        case measure => simp [intOf]; omega
      · obtain rfl : k = K := by omega
        have HD := Lib.hid (HAk.out rfl)
        have HRES := Lib.hid (show V = (k : Int) by rw [HI.out, if_neg (by omega)])
        go_wp2_with fail
        refine BF.out.mono ?_
        rw [HD.out]
        rintro en w2 ⟨rfl, M2⟩
        have HM2 := Lib.hid (HM.out.trans M2)
        clear M2
        go_wp2_with fail
        go_ret
        exact ⟨ret_int HRES.out.symm, HM2.out⟩
    · have HRES := Lib.hid (show V = -1 by rw [HI.out, if_pos (by omega)])
      have i1 : ¬ (k : Int) < (l.length : Int) := by omega
      go_wp2_with fail
      go_ret
      exact ⟨ret_int HRES.out.symm, M⟩
set_option maxHeartbeats 400000 in
theorem anyP_ok (w : World) (gb : Nat) (vab : Value) (ab l : List Ent) (hg : w.heap[gb]? = some (.cells #[vab] 64 (0, 0))) (hab : RdE entE w vab ab) (v : Value) (hv : RdE entE w v l) :
    Calls Try.prog 98 #[v, .func (.func 99) #[] #[.pointer (some ⟨gb, 0, none⟩)]] w fun en w' => en = .returned (.bool (l.any fun x => decide (x ∈ ab))) ∧ Mods [] w w' := by
  have H1 := Lib.hid (idxP_ok w gb vab ab l hg hab v hv)
  have HD := Lib.hid (anyI_any l ab)
  obtain ⟨ad, cap, rfl⟩ := hv.len
  generalize anyI l ab = i at H1 HD
  generalize (l.any fun x => decide (x ∈ ab)) = r at HD ⊢
  clear hv hg hab
  go_enter Try.func98, Try.ntmps98
  go_wp2_with fail
  refine H1.out.mono ?_
  rintro en w' ⟨rfl, M⟩
  go_wp2_with fail
  go_ret
  exact ⟨ret_bool HD.out, M⟩
set_option maxRecDepth 100000 in
set_option maxHeartbeats 4000000 in
theorem presentIn_ok (w : World) (l : List Asc) (hl : l.length ≤ 1000) (v : Value) (hv : RdE ascE w v l) (vab : Value) (ab : List Ent) (hab : RdE entE w vab ab) (e : Ent) :
    Calls Try.prog 71 #[v, vab, .agg e.cells.toArray] w fun en w' => en = .returned (.bool (presB l ab e)) ∧ Mods [] w w' := by
  obtain ⟨ad, cap, rfl⟩ := hv.len
  obtain ⟨ad2, cap2, rfl⟩ := hab.len
  have HV := Lib.hid hv
  have HAB := Lib.hid hab
  have M0 := ((Mods.refl (S := []) (w := w)).alloc (.cells #[.slice ad2 ab.length cap2] 64)).alloc (.cells e.cells.toArray 23)
  have B0 := EntBox.new (w.alloc (.cells #[.slice ad2 ab.length cap2] 64)) e
  rw [World.size_alloc] at B0
  have G0 := heap_alloc (o' := .cells e.cells.toArray 23) (heap_alloc_new w (.cells #[.slice ad2 ab.length cap2] 64))
  clear hv hab
  go_enter Try.func71, Try.ntmps71
  go_wp2_with fail
  generalize ((w.alloc (.cells #[.slice ad2 ab.length cap2] 64)).alloc (.cells e.cells.toArray 23)) = w1 at M0 B0 G0 ⊢
  have HM1 := Lib.hid M0
  generalize w.heap.size + 1 = g at B0 ⊢
  generalize w.heap.size = gb at G0 ⊢
  have HG0 := Lib.hid G0
  refine heldStart (S := fun W => EntBox W g e) 10 rfl (by kernel_rfl) B0 (fun hHeld => ?_)
  have HM2 := Lib.hid (HM1.out.drew)
  have HG2 := Lib.hid (show w1.drew.heap[gb]? = _ from HG0.out)
  clear HM1 HG0 M0 B0 G0
  generalize w1.drew = w2 at HM2 HG2 hHeld ⊢
  refine takeD (i := 0) (d := 7) (v := ?_) rfl rfl (by kernel_rfl) (by kernel_rfl) (by kernel_rfl) (fun _ _ _ h => h) (Or.inl ⟨by rfl, ?_⟩) hHeld ?_
  rotate_left 1
  · (intro w hSw; (try dsimp only at hSw); go_simp; (try with_reducible rfl))
  simp only [List.setIfInBounds_toArray, List.set_cons_zero, List.set_cons_succ]
  refine takeD (i := 1) (d := 8) (v := .agg #[.int .u8 ((e.id.val : Nat) : Int), .int .u8 ((e.inst.val : Nat) : Int)]) rfl rfl (by kernel_rfl) (by kernel_rfl) (by kernel_rfl) (fun _ _ _ h => h) (yieldsIf_load_row rfl 23 (.tmp 5) rfl g rfl 23 #[.int .u8 ((e.id.val : Nat) : Int), .int .u8 ((e.inst.val : Nat) : Int)] (0, 0) _ (fun _ h=>h) Try.underlying23 rfl Try.sizeEnt) hHeld ?_
  simp only [List.setIfInBounds_toArray, List.set_cons_zero, List.set_cons_succ]
  refine takeD (i := 3) (d := 10) (v := .agg #[.int .u8 ((e.id.val : Nat) : Int), .int .u8 ((e.inst.val : Nat) : Int)]) rfl rfl (by kernel_rfl) (by kernel_rfl) (by kernel_rfl) (fun _ _ _ h => h) (yieldsIf_load_row rfl 23 (.tmp 5) rfl g rfl 23 #[.int .u8 ((e.id.val : Nat) : Int), .int .u8 ((e.inst.val : Nat) : Int)] (0, 0) _ (fun _ h=>h) Try.underlying23 rfl Try.sizeEnt) hHeld ?_
  simp only [List.setIfInBounds_toArray, List.set_cons_zero, List.set_cons_succ]
  refine takeD (i := 6) (d := 13) (v := ?_) rfl rfl (by kernel_rfl) (by kernel_rfl) (by kernel_rfl) (fun _ _ _ h => h) (Or.inl ⟨by rfl, ?_⟩) hHeld ?_
  rotate_left 1
  · (intro w hSw; (try dsimp only at hSw); go_simp; (try with_reducible rfl))
  simp only [List.setIfInBounds_toArray, List.set_cons_zero, List.set_cons_succ]
  refine callLitH (iC := 2) (iA := 4) (dC := 9) (dA := 11) (f := 66) (T := 23) (z := e.cells.toArray) (vA := fun g => .slice (some ⟨g, 0, none⟩) 1 1) (args := #[.slice ad l.length cap, .agg e.cells.toArray])
    (R := fun u W => ∃ A, OwnE entE W w2.heap.size u A ∧ Arnd l e A) rfl rfl rfl rfl rfl rfl (by decide) (by decide) (fun _ => ?_) (fun _ _ => ?_) (fun _ => ?_) (fun _ _ => ?_) (by kernel_rfl) (by kernel_rfl) (by kernel_rfl) (fun W M => EntBox.mods0 hHeld M)
    (fun W M => (around_ok W l hl e _ ((HV.out.mods0 ascOk HM2.out).mods0 ascOk M)).mono fun en W' ⟨u, A, h1, h2, h3, h4⟩ => ⟨u, h1, ⟨A, h2.down M.size, h3⟩, h4⟩)
    (fun u W ⟨A, h1, h2⟩ => ⟨A, h1.mods0 (Mods.refl.alloc _), h2⟩) (fun u g2 W3 hR M3 hg3 hgl => ?_)
  · first | rfl | (go_simp; done) | (go_simp; rfl)
  · first | rfl | (go_simp; done) | (go_simp; rfl)
  · first | rfl | (go_simp; done) | (go_simp; rfl)
  · first | rfl | (go_simp; done) | (go_simp; rfl)
  · obtain ⟨A, hO, hA⟩ := hR
    have hgbl : gb < w2.heap.size := lt_of_block HG2.out
    have hgl2 : g < w2.heap.size := EntBox.lt hHeld
    have hzw : w.heap.size ≤ w2.heap.size := HM2.out.size
    replace hHeld := EntBox.mods0 hHeld M3
    have HM3 := Lib.hid (HM2.out.trans M3)
    have HG3 := Lib.hid (M3.heap HG2.out (by simp))
    have HAl := Lib.hid hA.len
    have HPA := Lib.hid (pres_any (ab := ab) hA)
    have hz3 : w2.heap.size ≤ W3.heap.size := M3.size
    have HO := Lib.hid hO
    clear M3 HM2 HG2 hA hO
    simp only [List.setIfInBounds_toArray, List.set_cons_zero, List.set_cons_succ]
    refine wpAnyH_ready (rs := [5]) (by kernel_rfl) (by simp) ?_
    refine AllReadyH.cons rfl (fun K hK => ?_) AllReadyH.nil
    refine step_appE entOk (by rfl) 12 rfl (.tmp 9) (.tmp 11) rfl (by rfl) HO.out (by rfl) (RdE.one (a := e) hg3 rfl) (by have := HAl.out; simp; omega) hz3 (fun VB WB OB MB => ?_)
    have hgb : gb ∉ u.ownBlock.toList := fun hk => by have := HO.out.back hk; omega
    have hgg : g ∉ u.ownBlock.toList := fun hk => by have := HO.out.back hk; omega
    refine hK.out _ _ (EntBox.mods hHeld MB hgg) (fun hHeld => ?_)
    have HMB := Lib.hid (HM3.out.comp MB (fun k hk => .inr (by have := HO.out.back hk; omega)))
    have HGB := Lib.hid (MB.heap HG3.out hgb)
    have HOB := Lib.hid (OB.rd entOk)
    clear hK K OB MB
    simp only [List.setIfInBounds_toArray, List.set_cons_zero, List.set_cons_succ]
    have HAN := Lib.hid (anyP_ok WB gb _ ab _ HGB.out (HAB.out.mods0 entOk HMB.out) VB HOB.out)
    generalize (A ++ [e]).any (fun x => decide (x ∈ ab)) = r at HAN HPA
    refine wpAnyH_ready (rs := [7]) (by kernel_rfl) (by simp) ?_
    refine AllReadyH.cons rfl (fun K hK => ?_) AllReadyH.nil
    go_simp
    go_wp2_with (refine HAN.out.mono ?_; rintro en w5 ⟨rfl, M5⟩)
    refine hK.out _ _ ?_ (fun hHeld => ?_)
    · exact EntBox.mods0 hHeld M5
    clear hK K
    have HM5 := Lib.hid (HMB.out.trans M5)
    clear M5 HAN
    refine takeD (i := 8) (d := 15) (v := ?_) rfl rfl (by kernel_rfl) (by kernel_rfl) (by kernel_rfl) (fun _ _ _ h => h) (Or.inl ⟨by rfl, ?_⟩) hHeld ?_
    rotate_left 1
    · (intro w hSw; (try dsimp only at hSw); go_simp; (try with_reducible rfl))
    simp only [List.setIfInBounds_toArray, List.set_cons_zero, List.set_cons_succ]
    refine takeD (i := 9) (d := 6) (v := ?_) rfl rfl (by kernel_rfl) (by kernel_rfl) (by kernel_rfl) (fun _ _ _ h => h) (Or.inl ⟨by rfl, ?_⟩) hHeld ?_
    rotate_left 1
    · (intro w hSw; (try dsimp only at hSw); go_simp; (try with_reducible rfl))
    simp only [List.setIfInBounds_toArray, List.set_cons_zero, List.set_cons_succ]
    refine wpAnyH_done (by kernel_rfl) ?_ _
    go_wp2_with fail
    go_ret
    exact ⟨ret_bool HPA.out, HM5.out⟩
end Go.Proofs.Ytijjkonephjodaa

namespace Go.Proofs.Ytijjkonephjodaa
open Go.RowKit Go.Shelf Go.Sort

def layS6E_ren : Go.Shelf.Ren := ⟨fun | 6 => 94 | 15 => 111 | 14 => 110 | 28 => 127 | 29 => 128 | 20 => 119 | 21 => 120 | 22 => 121 | 23 => 122 | 24 => 123 | 25 => 124 | 26 => 125 | 27 => 126 | 46 => 130 | 47 => 131 | 48 => 132 | 49 => 133 | 50 => 134 | 57 => 136 | n => n, fun | 22 => 64 | 24 => 23 | 25 => 128 | 3 => 3 | 39 => 119 | 0 => 0 | 53 => 156 | 55 => 94 | 4 => 4 | 46 => 149 | 45 => 148 | 50 => 153 | 5 => 5 | 9 => 9 | 66 => 159 | 70 => 163 | 76 => 165 | 77 => 166 | n => n, fun | n => n⟩
theorem layS6E : _root_.Go.Proofs.SlLaysF0.n6 Try.prog layS6E_ren := {
  mixed := by kernel_rfl
  f6 := ⟨Try.f94.name, by decide, Try.func94.trans (congrArg some (by kernel_rfl))⟩
  f14 := ⟨Try.f110.name, by decide, Try.func110.trans (congrArg some (by kernel_rfl))⟩
  f15 := Try.func111.trans (congrArg some (by kernel_rfl))
  f20 := ⟨Try.f119.name, by decide, Try.func119.trans (congrArg some (by kernel_rfl))⟩
  f21 := ⟨Try.f120.name, by decide, Try.func120.trans (congrArg some (by kernel_rfl))⟩
  f22 := ⟨Try.f121.name, by decide, Try.func121.trans (congrArg some (by kernel_rfl))⟩
  f23 := ⟨Try.f122.name, by decide, Try.func122.trans (congrArg some (by kernel_rfl))⟩
  f24 := ⟨Try.f123.name, by decide, Try.func123.trans (congrArg some (by kernel_rfl))⟩
  f25 := ⟨Try.f124.name, by decide, Try.func124.trans (congrArg some (by kernel_rfl))⟩
  f26 := ⟨Try.f125.name, by decide, Try.func125.trans (congrArg some (by kernel_rfl))⟩
  f27 := ⟨Try.f126.name, by decide, Try.func126.trans (congrArg some (by kernel_rfl))⟩
  f28 := Try.func127.trans (congrArg some (by kernel_rfl))
  f29 := Try.func128.trans (congrArg some (by kernel_rfl))
  f46 := ⟨Try.f130.name, by decide, Try.func130.trans (congrArg some (by kernel_rfl))⟩
  f47 := Try.func131.trans (congrArg some (by kernel_rfl))
  f48 := Try.func132.trans (congrArg some (by kernel_rfl))
  f49 := ⟨Try.f133.name, by decide, Try.func133.trans (congrArg some (by kernel_rfl))⟩
  f50 := ⟨Try.f134.name, by decide, Try.func134.trans (congrArg some (by kernel_rfl))⟩
  f57 := ⟨Try.f136.name, by decide, Try.func136.trans (congrArg some (by kernel_rfl))⟩
  t0 := Try.underlying0
  a0 := Try.isAgg0
  z0 := Try.sizeOf0
  v0 := Try.zeroValue0
  t3 := Try.underlying3
  a3 := Try.isAgg3
  z3 := Try.sizeOf3
  v3 := Try.zeroValue3
  t4 := Try.underlying4
  a4 := Try.isAgg4
  z4 := Try.sizeOf4
  v4 := Try.zeroValue4
  t5 := Try.underlying5
  a5 := Try.isAgg5
  z5 := Try.sizeOf5
  v5 := Try.zeroValue5
  t9 := Try.underlying9
  a9 := Try.isAgg9
  z9 := Try.sizeOf9
  v9 := Try.zeroValue9
  t22 := Try.underlying64
  a22 := Try.isAgg64
  z22 := Try.sizeOf64
  v22 := Try.zeroValue64
  t25 := Try.underlying128
  a25 := Try.isAgg128
  z25 := Try.sizeOf128
  v25 := Try.zeroValue128
  t39 := Try.underlying119
  a39 := Try.isAgg119
  z39 := Try.sizeOf119
  v39 := Try.zeroValue119
  t45 := Try.underlying148
  a45 := Try.isAgg148
  z45 := Try.sizeOf148
  v45 := Try.zeroValue148
  t46 := Try.underlying149
  a46 := Try.isAgg149
  z46 := Try.sizeOf149
  v46 := Try.zeroValue149
  t50 := Try.underlying153
  a50 := Try.isAgg153
  z50 := Try.sizeOf153
  v50 := Try.zeroValue153
  t53 := Try.underlying156
  a53 := Try.isAgg156
  z53 := Try.sizeOf156
  v53 := Try.zeroValue156
  t55 := Try.underlying94
  a55 := Try.isAgg94
  z55 := Try.sizeOf94
  v55 := Try.zeroValue94
  t66 := Try.underlying159
  a66 := Try.isAgg159
  z66 := Try.sizeOf159
  v66 := Try.zeroValue159
  t70 := Try.underlying163
  a70 := Try.isAgg163
  z70 := Try.sizeOf163
  v70 := Try.zeroValue163
  t76 := Try.underlying165
  a76 := Try.isAgg165
  z76 := Try.sizeOf165
  v76 := Try.zeroValue165
  t77 := Try.underlying166
  a77 := Try.isAgg166
  z77 := Try.sizeOf166
  v77 := Try.zeroValue166 }

/-- -1, 0 or 1. -/
def cmpZ (a b : Int) : Int := if a < b then -1 else if b < a then 1 else 0
def orZ (x y : Int) : Int := if x = 0 then y else x
set_option maxHeartbeats 1000000 in
theorem cmpU8_ok (a b : Int) (w : World) : Calls Try.prog 97 #[.int .u8 a, .int .u8 b] w fun e w' => e = .returned (.int .i64 (cmpZ a b)) ∧ w = w' := by
  have HN : ∀ (x : Int) (w : World), Calls Try.prog 112 #[.int .u8 x] w fun e w' => e = .returned (.bool false) ∧ w = w' := fun x w => by
    have hx : (x != x) = false := by simp
    go_enter Try.func112, Try.ntmps112
    go_wp2
    go_ret
    exact ⟨rfl, rfl⟩
  have HH := Lib.hid HN
  clear HN
  have HC := Lib.hid (show cmpZ a b = if a < b then -1 else if b < a then 1 else 0 from rfl)
  go_enter Try.func97, Try.ntmps97
  go_wp2_with (go_at_call 112; refine (HH.out _ _).mono ?_; rintro e w' ⟨rfl, rfl⟩)
  all_goals
    go_ret
    exact ⟨ret_int (by rw [HC.out]; repeat (first | rw [if_pos (by omega)] | rw [if_neg (by omega)])), rfl⟩
def OrRel (x y : Int) (i : Value) : Prop := i = .int .i64 0 ∨ (i = .int .i64 1 ∧ x = 0) ∨ (i = .int .i64 2 ∧ x = 0 ∧ y = 0)
set_option maxHeartbeats 1000000 in
theorem or_ok (x y : Int) (w : World) (g : Nat) (h0 : w.cell? ⟨g, 0, none⟩ = some (.int .i64 x)) (h1 : w.cell? ⟨g, 1, none⟩ = some (.int .i64 y)) :
    Calls Try.prog 96 #[.slice (some ⟨g, 0, none⟩) 2 2] w fun e w' => e = .returned (.int .i64 (orZ x y)) ∧ w = w' := by
  have HO := Lib.hid (show orZ x y = if x = 0 then y else x from rfl)
  generalize orZ x y = r at HO ⊢
  go_enter Try.func96, Try.ntmps96
  go_wp2_with fail
  go_loop [8] (fun i => OrRel x y i) (fun i => 2 - (intOf i).toNat)
  case atStart => exact .inl rfl
  case round =>
    rcases hrel with rfl | ⟨rfl, hx⟩ | ⟨rfl, hx, hy⟩
    · by_cases hx : x = 0
      · have HX := Lib.hid hx
        have d1 : (x != 0) = false := by simp [hx]
        clear hx
        go_wp2_with fail
        go_round
        case rel => exact .inr (.inl ⟨rfl, HX.out⟩)
        case measure => simp [intOf]
      · have HR := Lib.hid (HO.out.trans (if_neg hx))
        have d1 : (x != 0) = true := by simp [hx]
        clear hx
        go_wp2_with fail
        go_ret
        exact ⟨ret_int HR.out.symm, rfl⟩
    · have HR := Lib.hid (HO.out.trans (if_pos hx))
      have HX := Lib.hid hx
      clear hx
      by_cases hy : y = 0
      · have HY := Lib.hid hy
        have d1 : (y != 0) = false := by simp [hy]
        clear hy
        go_wp2_with fail
        go_round
        case rel => exact .inr (.inr ⟨rfl, HX.out, HY.out⟩)
        case measure => simp [intOf]
      · have d1 : (y != 0) = true := by simp [hy]
        clear hy
        go_wp2_with fail
        go_ret
        exact ⟨ret_int HR.out.symm, rfl⟩
    · have HR := Lib.hid (show r = 0 by rw [HO.out, if_pos hx, hy])
      clear hx hy
      go_wp2_with fail
      go_ret
      exact ⟨ret_int HR.out.symm, rfl⟩
def cfE (a b : Ent) : Int := orZ (cmpZ ((a.id.val : Nat) : Int) ((b.id.val : Nat) : Int)) (cmpZ ((a.inst.val : Nat) : Int) ((b.inst.val : Nat) : Int))
theorem ltCf (a b : Ent) : ltOf cfE a b = decide (ltE a b) := by
  unfold ltOf
  rw [Bool.eq_iff_iff, decide_eq_true_eq, decide_eq_true_eq]
  unfold cfE orZ cmpZ ltE
  repeat' split
  all_goals omega
theorem swoE : SWO (ltOf cfE) := by
  refine ⟨fun x => ?_, fun x y z h1 h2 => ?_, fun x y z h1 h2 => ?_⟩
  · rw [ltCf]; exact decide_eq_false (ltE_irrefl x)
  · rw [ltCf, decide_eq_true_eq] at *; exact ltE_trans h1 h2
  · rw [ltCf, decide_eq_false_iff_not] at *; unfold ltE at *; omega
set_option maxRecDepth 100000 in
set_option maxHeartbeats 2000000 in
/-- The comparison of two entities: three blocks are laid, nothing else turns. -/
theorem within1_ok (x y : Ent) (W : World) :
    Calls Try.prog 95 #[.agg x.cells.toArray, .agg y.cells.toArray] W fun e w' => e = .returned (.int .i64 (cfE x y)) ∧ ∃ q os', w' = grow (W.drewN q) os' := by
  have HC0 := Lib.hid (cmpU8_ok ((x.id.val : Nat) : Int) ((y.id.val : Nat) : Int))
  have HC1 := Lib.hid (cmpU8_ok ((x.inst.val : Nat) : Int) ((y.inst.val : Nat) : Int))
  have HCF := Lib.hid (show cfE x y = orZ (cmpZ ((x.id.val : Nat) : Int) ((y.id.val : Nat) : Int)) (cmpZ ((x.inst.val : Nat) : Int) ((y.inst.val : Nat) : Int)) from rfl)
  have BX := EntBox.mods0 (EntBox.new W x) ((Mods.refl (S := [])).alloc (.cells y.cells.toArray 23))
  have BY := EntBox.new (W.alloc (.cells x.cells.toArray 23)) y
  rw [World.size_alloc] at BY
  generalize cmpZ ((x.id.val : Nat) : Int) ((y.id.val : Nat) : Int) = c0 at HC0 HCF
  generalize cmpZ ((x.inst.val : Nat) : Int) ((y.inst.val : Nat) : Int) = c1 at HC1 HCF
  generalize cfE x y = r at HCF ⊢
  go_enter Try.func95, Try.ntmps95
  go_wp2_with fail
  have HW := Lib.hid (show (W.alloc (.cells x.cells.toArray 23)).alloc (.cells y.cells.toArray 23) = grow W (#[.cells x.cells.toArray 23] ++ #[.cells y.cells.toArray 23]) by rw [alloc_eq_grow, alloc_eq_grow, grow_grow])
  generalize (W.alloc (.cells x.cells.toArray 23)).alloc (.cells y.cells.toArray 23) = w1 at BX BY HW ⊢
  generalize W.heap.size + 1 = gy at BY ⊢
  generalize W.heap.size = gx at BX ⊢
  refine heldStart (S := fun w => EntBox w gx x ∧ EntBox w gy y) 13 rfl (by kernel_rfl) ⟨BX, BY⟩ (fun hHeld => ?_)
  have HW2 := Lib.hid (show w1.drew = grow (W.drewN 1) _ from (congrArg World.drew HW.out).trans (drew_grow _ _))
  clear HW BX BY
  generalize w1.drew = w2 at HW2 hHeld ⊢
  refine takeD (i := 0) (d := 5) (v := ?_) rfl rfl (by kernel_rfl) (by kernel_rfl) (by kernel_rfl) (fun _ _ _ h => h) (Or.inl ⟨by rfl, ?_⟩) hHeld ?_
  rotate_left 1
  · (intro w hSw; (try dsimp only at hSw); go_simp; (try with_reducible rfl))
  simp only [List.setIfInBounds_toArray, List.set_cons_zero, List.set_cons_succ]
  refine takeD (i := 1) (d := 6) (v := .int .u8 ((x.id.val : Nat) : Int)) rfl rfl (by kernel_rfl) (by kernel_rfl) (by kernel_rfl) (fun _ _ _ h => h) (Or.inl ⟨by rfl, fun w hSw => ?_⟩) hHeld ?_
  · have cst := hSw.1.c0
    go_simp
  simp only [List.setIfInBounds_toArray, List.set_cons_zero, List.set_cons_succ]
  refine takeD (i := 2) (d := 7) (v := ?_) rfl rfl (by kernel_rfl) (by kernel_rfl) (by kernel_rfl) (fun _ _ _ h => h) (Or.inl ⟨by rfl, ?_⟩) hHeld ?_
  rotate_left 1
  · (intro w hSw; (try dsimp only at hSw); go_simp; (try with_reducible rfl))
  simp only [List.setIfInBounds_toArray, List.set_cons_zero, List.set_cons_succ]
  refine takeD (i := 3) (d := 8) (v := .int .u8 ((y.id.val : Nat) : Int)) rfl rfl (by kernel_rfl) (by kernel_rfl) (by kernel_rfl) (fun _ _ _ h => h) (Or.inl ⟨by rfl, fun w hSw => ?_⟩) hHeld ?_
  · have cst := hSw.2.c0
    go_simp
  simp only [List.setIfInBounds_toArray, List.set_cons_zero, List.set_cons_succ]
  refine takeD (i := 5) (d := 10) (v := ?_) rfl rfl (by kernel_rfl) (by kernel_rfl) (by kernel_rfl) (fun _ _ _ h => h) (Or.inl ⟨by rfl, ?_⟩) hHeld ?_
  rotate_left 1
  · (intro w hSw; (try dsimp only at hSw); go_simp; (try with_reducible rfl))
  simp only [List.setIfInBounds_toArray, List.set_cons_zero, List.set_cons_succ]
  refine takeD (i := 6) (d := 11) (v := .int .u8 ((x.inst.val : Nat) : Int)) rfl rfl (by kernel_rfl) (by kernel_rfl) (by kernel_rfl) (fun _ _ _ h => h) (Or.inl ⟨by rfl, fun w hSw => ?_⟩) hHeld ?_
  · have cst := hSw.1.c1
    go_simp
  simp only [List.setIfInBounds_toArray, List.set_cons_zero, List.set_cons_succ]
  refine takeD (i := 7) (d := 12) (v := ?_) rfl rfl (by kernel_rfl) (by kernel_rfl) (by kernel_rfl) (fun _ _ _ h => h) (Or.inl ⟨by rfl, ?_⟩) hHeld ?_
  rotate_left 1
  · (intro w hSw; (try dsimp only at hSw); go_simp; (try with_reducible rfl))
  simp only [List.setIfInBounds_toArray, List.set_cons_zero, List.set_cons_succ]
  refine takeD (i := 8) (d := 13) (v := .int .u8 ((y.inst.val : Nat) : Int)) rfl rfl (by kernel_rfl) (by kernel_rfl) (by kernel_rfl) (fun _ _ _ h => h) (Or.inl ⟨by rfl, fun w hSw => ?_⟩) hHeld ?_
  · have cst := hSw.2.c1
    go_simp
  simp only [List.setIfInBounds_toArray, List.set_cons_zero, List.set_cons_succ]
  refine wpAnyH_ready (rs := [4]) (by kernel_rfl) (by simp) ?_
  refine AllReadyH.cons rfl (fun K hK => ?_) AllReadyH.nil
  go_simp
  go_wp2_with (refine (HC0.out _).mono ?_; rintro e w' ⟨rfl, rfl⟩)
  refine hK.out _ _ ?_ (fun hHeld => ?_)
  · exact hHeld
  clear hK K
  refine wpAnyH_ready (rs := [9]) (by kernel_rfl) (by simp) ?_
  refine AllReadyH.cons rfl (fun K hK => ?_) AllReadyH.nil
  go_simp
  go_wp2_with (refine (HC1.out _).mono ?_; rintro e w' ⟨rfl, rfl⟩)
  refine hK.out _ _ ?_ (fun hHeld => ?_)
  · exact hHeld
  clear hK K
  refine wpAnyH_ready (rs := [10]) (by kernel_rfl) (by simp) ?_
  refine AllReadyH.cons rfl (fun K hK => ?_) AllReadyH.nil
  go_simp
  have MA := (Mods.refl (S := []) (w := w2)).alloc (.cells #[.int .i64 c0, .int .i64 c1] 3)
  refine hK.out _ _ ⟨EntBox.mods0 hHeld.1 MA, EntBox.mods0 hHeld.2 MA⟩ (fun hHeld => ?_)
  clear hK K
  have HOR := Lib.hid (or_ok c0 c1 _ w2.heap.size ((cell_blk (heap_alloc_new w2 (.cells #[.int .i64 c0, .int .i64 c1] 3)) 0).trans rfl) ((cell_blk (heap_alloc_new w2 (.cells #[.int .i64 c0, .int .i64 c1] 3)) 1).trans rfl))
  rw [← HCF.out] at HOR
  refine wpAnyH_ready (rs := [11]) (by kernel_rfl) (by simp) ?_
  refine AllReadyH.cons rfl (fun K hK => ?_) AllReadyH.nil
  go_simp
  go_wp2_with (refine HOR.out.mono ?_; rintro e w' ⟨rfl, rfl⟩)
  refine hK.out _ _ ?_ (fun hHeld => ?_)
  · exact hHeld
  clear hK K
  refine takeD (i := 12) (d := 4) (v := ?_) rfl rfl (by kernel_rfl) (by kernel_rfl) (by kernel_rfl) (fun _ _ _ h => h) (Or.inl ⟨by rfl, ?_⟩) hHeld ?_
  rotate_left 1
  · (intro w hSw; (try dsimp only at hSw); go_simp; (try with_reducible rfl))
  simp only [List.setIfInBounds_toArray, List.set_cons_zero, List.set_cons_succ]
  refine wpAnyH_done (by kernel_rfl) ?_ _
  go_wp2_with fail
  go_ret
  exact ⟨rfl, 1, _, by rw [HW2.out, alloc_eq_grow, grow_grow]⟩
theorem Mods.growO {w : World} (os : Array Obj) : Mods [] w (grow w os) := ⟨rfl, rfl, rfl, by simp [grow], fun k hk _ => heap_grow_old w os hk⟩
theorem Mods.putRowK {α : Type} [Inhabited α] (enc : α → List Value) (k : Nat) (w : World) (blk off : Nat) (d : Array α) : Mods [blk] w (Sort.putRowK enc k w blk off d) := by
  unfold Sort.putRowK Sort.putRow Sort.mapBlock
  refine ⟨rfl, rfl, rfl, by simp, fun k _ hn => ?_⟩
  simp only [List.mem_singleton] at hn
  show (w.heap.modify blk _)[k]? = w.heap[k]?
  rw [Array.getElem?_modify, if_neg (fun h => hn h.symm)]
def SortedEnts (w : World) (g cap : Nat) (A : List Ent) (e : Ending) (w' : World) : Prop :=
  e = .returned (.tuple #[]) ∧ ∃ L : List Ent, RdE entE w' (.slice (some ⟨g, 0, none⟩) A.length cap) L ∧ L.length = A.length ∧ L.Perm A ∧ srtE L ∧ Mods [g] w w'
set_option maxRecDepth 100000 in
set_option maxHeartbeats 1000000 in
theorem sortEnts_ok (w : World) (B g cap : Nat) (A : List Ent) (hO : OwnE entE w B (.slice (some ⟨g, 0, none⟩) A.length cap) A) (h0 : 0 < A.length) (hA : A.length ≤ 1000000) :
    Calls Try.prog 94 #[.slice (some ⟨g, 0, none⟩) A.length cap, .func (.func 95) #[] #[]] w fun e w' => SortedEnts w g cap A e w' := by
  obtain ⟨g', cap', cur, hv, hg, hcl, hcm, hcs, _⟩ := owns_form (show w.ownsRow B entE.ty entE.k _ A.length (cellsE entE A) from hO) h0
  injection hv with hv1 _ hv3
  injection hv1 with hv1
  injection hv1 with hv1 _
  subst hv1 hv3
  have hrd := hO.rd entOk
  have hd : ∀ j, j < A.length → A.toArray[j]! = A.getD j default := fun j hj => by
    rw [getElem!_pos A.toArray j (by simpa using hj), List.getD_eq_getElem?_getD, List.getElem?_eq_getElem hj]
    rfl
  have hH : HoldsK Ent.cells 2 w g 0 A.toArray := fun t ht => by
    rw [size_flatK] at ht
    have ht : t < A.length * 2 := by simpa using ht
    obtain ⟨bb, off, cap2, hv2, _, _, hc⟩ := hrd.at h0
    injection hv2 with hv3 _ _
    injection hv3 with hv3
    injection hv3 with hv3 hv4
    subst hv3 hv4
    have hlt : t / 2 < A.length := by omega
    have h1 := hc (t / 2) hlt (t % 2) (Nat.mod_lt _ (by decide))
    refine ⟨?_, froz_blk hg _⟩
    rw [get_flatK _ _ _ _ (by simpa using ht), hd _ hlt]
    have e : 0 + t / 2 * 2 + t % 2 = 0 + t := by omega
    have h1 : w.cell? ⟨g, 0 + t / 2 * 2 + t % 2, none⟩ = (Ent.cells (A.getD (t / 2) default))[t % 2]? := h1
    rw [e] at h1
    rw [h1, id, List.getElem!_eq_getElem?_getD, List.getElem?_eq_getElem (by show t % 2 < 2; omega)]
    rfl
  have eg : ∀ args w, (callFunc 95 args).run Try.prog w = .ok (.enter 95 args) w := enters_of Try.func95 (by kernel_rfl) rfl
  have hcon := AnyQ.slices_SortFunc layS6E 2 Try.isAgg23 Try.sizeOf23 Ent.cells (fun _ => rfl) (fun x v hv => by simp [Ent.cells] at hv; rcases hv with rfl | rfl <;> rfl) cfE swoE 95 #[] g 0 cap A.toArray w eg
    (fun _ _ _ _ x y => within1_ok x y _) hH (lt_of_block hg) (by simp; omega)
  change Calls Try.prog 94 _ _ _ at hcon
  have hsz : A.toArray.size = A.length := by simp
  rw [hsz] at hcon
  refine hcon.mono ?_
  rintro e w' ⟨rfl, d', n, os, hp, hs, rfl⟩
  have hdz : d'.size = A.length := hp.1.trans (by simp)
  have hX : HoldsK Ent.cells 2 (sortWorldK Ent.cells 2 w g 0 n d' os) g 0 d' := by
    unfold sortWorldK
    refine holdsK_grow Ent.cells 2 _ os g 0 d' ?_ (holdsK_putRowK Ent.cells 2 _ g 0 A.toArray d' (holdsK_ahead Ent.cells 2 w n g 0 _ hH) hp.1)
    have := (Mods.putRowK Ent.cells 2 (Sort.ahead w n) g 0 d').size
    exact Nat.lt_of_lt_of_le (lt_of_block hg) this
  have hL : d'.toList.length = A.length := (Array.length_toList).trans hdz
  refine ⟨rfl, d'.toList, ?_, hL, ?_, ?_, ?_⟩
  · refine ⟨some ⟨g, 0, none⟩, cap, by rw [hL], by rw [hL]; exact hcl, hcm, fun i hi => ⟨g, 0, rfl, fun j hj => ?_⟩⟩
    have hi' : i < d'.size := by simpa using hi
    have := (hX.cell hi' (c := j) hj).1
    have e : entE.k = 2 := rfl
    rw [e]
    refine this.trans ?_
    show _ = (Ent.cells (d'.toList.getD i default))[j]?
    rw [List.getD_eq_getElem?_getD, List.getElem?_eq_getElem hi, List.getElem!_eq_getElem?_getD, getElem!_pos d' i hi']
    show some ((Ent.cells d'[i])[j]?.getD default) = (Ent.cells d'[i])[j]?
    rw [List.getElem?_eq_getElem (by show j < 2; exact hj)]
    rfl
  · have h3 := hp.2.2
    rw [show A.length = d'.size from hdz.symm] at h3
    rw [Array.extract_size, show d'.size = A.toArray.size from hp.1, Array.extract_size] at h3
    exact h3
  · unfold srtE
    rw [List.pairwise_iff_getElem]
    intro i j hi hj hij
    simp only [Array.length_toList] at hi hj
    have := hs i j (Nat.zero_le _) hij (by omega)
    rw [ltCf, getElem!_pos d' i hi, getElem!_pos d' j hj, decide_eq_false_iff_not] at this
    simpa using this
  · unfold sortWorldK
    exact ((Mods.refl.drewN n).trans (Mods.putRowK Ent.cells 2 (Sort.ahead w n) g 0 d')).comp0 (Mods.growO os)
end Go.Proofs.Ytijjkonephjodaa
