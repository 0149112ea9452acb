/- Joined texts. Presence of entities: contracts. | The order of entities, and slices.SortFunc of entities by it: contracts (the sort by the shelf's contract, laid in plain words by the kit's own program). | entity.within and Within, Present: contracts. | entity.Within and Present, the reference's Present: contracts. | The reference's Within: contract. -/
import Derived.Test.YtijjkonephjodaaGreatDoorJoAJ
import Derived.Shelf.SlSortCmp.WholeK
namespace Go.Proofs.YtijjkonephjodaaGreatDoor
open Go.RowKit

section
variable {P : Program} {ops : Array Oper} {Q : Exit → Act → World → Prop} {S : World → Prop} {md : Region.Mode} {T : TypeId}
/-- A call and a new block whose value is any function of its place, in a region that draws its order: in either order. -/
theorem callLitH {lst : Array Bool} {iC iA : Nat} {oC oA : Oper} {dC dA : Nat} {f : FuncId} {args z : Array Value} {a : Act} {w : World} {fuel : Nat} {R : Value → World → Prop} {vA : Nat → Value}
    (hC : ops[iC]? = some oC) (hA : ops[iA]? = some oA) (gC : oC.guard = none) (gA : oA.guard = none) (eC : oC.dst = some dC) (eA : oA.dst = some dA) (hd : dC ≠ dA) (hi : iC ≠ iA)
    (rC0 : ∀ w, (execOp a.eval oC).run P w = .ok (.enter f args) w) (rC1 : ∀ (u : Value) w, (execOp ({ a with tmps := a.tmps.setIfInBounds dA u } : Act).eval oC).run P w = .ok (.enter f args) w)
    (rA0 : ∀ w, (execOp a.eval oA).run P w = .ok (.value (vA w.heap.size)) (w.alloc (.cells z T))) (rA1 : ∀ (u : Value) w, (execOp ({ a with tmps := a.tmps.setIfInBounds dC u } : Act).eval oA).run P w = .ok (.value (vA w.heap.size)) (w.alloc (.cells z T)))
    (t0 : Region.ready md ops lst = [iC, iA]) (t1 : Region.ready md ops (lst.setIfInBounds iC true) = [iA]) (t2 : Region.ready md ops (lst.setIfInBounds iA true) = [iC])
    (hS : ∀ W, Mods [] w W → S W) (hcall : ∀ W, Mods [] w W → Calls P f args W fun e W' => ∃ u, e = .returned u ∧ R u W' ∧ Mods [] W W') (hR : ∀ u W, R u W → R u (W.alloc (.cells z T)))
    (h : ∀ u g W', R u W' → Mods [] w W' → W'.heap[g]? = some (.cells z T (0, 0)) → w.heap.size ≤ g → wpAnyH P md ops Q S fuel ((lst.setIfInBounds iC true).setIfInBounds iA true) { a with tmps := (a.tmps.setIfInBounds dC u).setIfInBounds dA (vA g) } W') :
    wpAnyH P md ops Q S (fuel + 2) lst a w := by
  refine wpAnyH_ready t0 (by simp) (AllReadyH.cons hC (fun K hK => ?_) (AllReadyH.cons hA (fun K hK => ?_) AllReadyH.nil))
  · refine exec_call gC eC (rC0 w) (R := fun u W' => R u W' ∧ Mods [] w W') ((hcall w Mods.refl).mono fun e W' ⟨u, he, hu, M⟩ => ⟨u, he, hu, M⟩) (fun u W' ⟨hu, M⟩ => ?_)
    refine hK.out _ _ (hS _ M) (fun _ => ?_)
    refine wpAnyH_ready t1 (by simp) (AllReadyH.cons hA (fun K' hK' => ?_) AllReadyH.nil)
    refine exec_value gA eA (rA1 _ _) ?_
    exact hK'.out _ _ (hS _ (M.alloc _)) (fun _ => h u _ _ (hR u W' hu) (M.alloc _) (heap_alloc_new W' _) M.size)
  · refine exec_value gA eA (rA0 _) ?_
    have M0 := (Mods.refl (S := []) (w := w)).alloc (.cells z T)
    refine hK.out _ _ (hS _ M0) (fun _ => ?_)
    refine wpAnyH_ready t2 (by simp) (AllReadyH.cons hC (fun K' hK' => ?_) AllReadyH.nil)
    refine exec_call gC eC (rC1 _ _) (R := fun u W' => R u W' ∧ Mods [] (w.alloc (.cells z T)) W') ((hcall _ M0).mono fun e W' ⟨u, he, hu, M⟩ => ⟨u, he, hu, M⟩) (fun u W' ⟨hu, M⟩ => ?_)
    refine hK'.out _ _ (hS _ (M0.trans M)) (fun _ => ?_)
    have := h u w.heap.size W' hu (M0.trans M) (M.heap (heap_alloc_new w _) (by simp)) (Nat.le_refl _)
    rw [Array.setIfInBounds_comm _ _ hi] at this
    rw [Array.setIfInBounds_comm _ _ hd] at this
    exact this
end
theorem pres_arnd {l : List Asc} {ab : List Ent} {e : Ent} {A : List Ent} (h : Arnd l e A) : presB l ab e = true ↔ ∀ x ∈ e :: A, x ∉ ab := by
  rw [presB_iff]
  constructor
  · rintro ⟨h1, h2⟩ x hx
    rcases List.mem_cons.1 hx with rfl | hx
    · exact h1
    · obtain ⟨k, hk⟩ := (h.mem x).1 hx
      exact h2 k x hk
  · intro h1
    exact ⟨h1 e (.head _), fun k x hk => h1 x (.tail _ ((h.mem x).2 ⟨k, hk⟩))⟩
theorem pres_any {l : List Asc} {ab : List Ent} {e : Ent} {A : List Ent} (h : Arnd l e A) : (!((A ++ [e]).any fun x => decide (x ∈ ab))) = presB l ab e := by
  rw [Bool.eq_iff_iff, pres_arnd h, Bool.not_eq_true', List.any_eq_false]
  constructor
  · intro h1 x hx
    have := h1 x (by rcases List.mem_cons.1 hx with rfl | hx <;> simp [*])
    simpa using this
  · intro h1 x hx
    have := h1 x (by rcases List.mem_append.1 hx with hx | hx <;> simp_all)
    simpa using this
set_option maxHeartbeats 400000 in
theorem present1_ok (w : World) (gb : Nat) (vab : Value) (ab : List Ent) (x : Ent) (hg : w.heap[gb]? = some (.cells #[vab] 29 (0, 0))) (hv : RdE entE w vab ab) :
    Calls Tryz.prog 118 #[.agg x.cells.toArray, .pointer (some ⟨gb, 0, none⟩)] w fun en w' => en = .returned (.bool (decide (x ∈ ab))) ∧ Mods [] w w' := by
  obtain ⟨ad, cap, rfl⟩ := hv.len
  have M0 := ((Mods.refl (S := []) (w := w)).alloc (.cells x.cells.toArray 31))
  have B0 := EntBox.new w x
  have e0 := B0.c0
  have e1 := B0.c1
  have g0 := (cell_blk (M0.heap hg (by simp)) 0).trans (show _ = some (Value.slice ad ab.length cap) from rfl)
  have HC := Lib.hid (contains_ok _ ab x _ (hv.mods0 entOk M0))
  have HM := Lib.hid M0
  generalize decide (x ∈ ab) = r at HC ⊢
  clear hv hg M0 B0
  go_enter Tryz.func118, Tryz.ntmps118
  go_wp2_with fail
  refine HC.out.mono ?_
  rintro en w' ⟨rfl, M⟩
  have HM2 := Lib.hid (HM.out.trans M)
  clear M
  go_wp2_with fail
  go_ret
  exact ⟨rfl, HM2.out⟩
def anyIdx (l ab : List Ent) : Nat := l.findIdx fun x => decide (x ∈ ab)
def anyI (l ab : List Ent) : Int := if anyIdx l ab = l.length then (-1 : Int) else ((anyIdx l ab : Nat) : Int)
theorem anyI_any (l ab : List Ent) : decide (0 ≤ anyI l ab) = l.any fun x => decide (x ∈ ab) := by
  have hle : anyIdx l ab ≤ l.length := List.findIdx_le_length
  have : anyIdx l ab < l.length ↔ (l.any fun x => decide (x ∈ ab)) = true := by
    unfold anyIdx
    rw [List.findIdx_lt_length, List.any_eq_true]
  rw [Bool.eq_iff_iff, decide_eq_true_eq, ← this]
  unfold anyI
  split <;> omega
set_option maxRecDepth 100000 in
set_option maxHeartbeats 2000000 in
theorem idxP_ok (w : World) (gb : Nat) (vab : Value) (ab l : List Ent) (hg : w.heap[gb]? = some (.cells #[vab] 29 (0, 0))) (hab : RdE entE w vab ab) (v : Value) (hv : RdE entE w v l) :
    Calls Tryz.prog 149 #[v, .func (.func 118) #[] #[.pointer (some ⟨gb, 0, none⟩)]] w fun en w' => en = .returned (.int .i64 (anyI l ab)) ∧ Mods [] w w' := by
  obtain ⟨ad, cap, rfl⟩ := hv.len
  have HV := Lib.hid hv
  have HG := Lib.hid hg
  have HAB := Lib.hid hab
  have hcap := hv.bound
  obtain ⟨K, hK⟩ : ∃ K, K = anyIdx l ab := ⟨_, rfl⟩
  have hKl : K ≤ l.length := hK ▸ List.findIdx_le_length
  have HB := Lib.hid (fun j (hj : j < K) => show decide (l.getD j default ∈ ab) = false from by
    have hj2 : j < l.length := by omega
    have := List.not_of_lt_findIdx (p := fun x : Ent => decide (x ∈ ab)) (xs := l) (i := j) (by rw [hK] at hj; exact hj)
    rw [List.getD_eq_getElem?_getD, List.getElem?_eq_getElem hj2]
    simpa using this)
  have HA := Lib.hid (fun (h : K < l.length) => show decide (l.getD K default ∈ ab) = true from by
    have := List.findIdx_getElem (p := fun x : Ent => decide (x ∈ ab)) (xs := l) (w := by rw [hK] at h; exact h)
    rw [List.getD_eq_getElem?_getD, List.getElem?_eq_getElem h]
    subst hK
    exact this)
  have HI := Lib.hid (show anyI l ab = if K = l.length then (-1 : Int) else (K : Int) by unfold anyI; rw [← hK])
  generalize anyI l ab = V at HI ⊢
  clear hv hg hK hab
  go_enter Tryz.func149, Tryz.ntmps149
  go_wp2_with fail
  go_loopw [8] (fun i wr => ∃ k : Nat, k ≤ K ∧ i = .int .i64 k ∧ Mods [] w wr) (fun i _ => K - (intOf i).toNat)
  case atStart => exact ⟨0, Nat.zero_le _, rfl, Mods.refl⟩
  case round =>
    obtain ⟨k, hk, rfl, M⟩ := hrel
    have i0 : (0 : Int) ≤ (k : Int) := by omega
    by_cases hlt : k < l.length
    · have i1 : (k : Int) < (l.length : Int) := by omega
      obtain ⟨bb, off, cap, hv2, _, _, hc⟩ := (HV.out.mods0 entOk M).ent (by omega)
      injection hv2 with hv3 _ hv4
      subst hv3 hv4
      obtain ⟨y0, y1⟩ := hc k hlt
      have BF := Lib.hid (present1_ok wr gb vab ab (l.getD k default) (M.heap HG.out (by simp)) (HAB.out.mods0 entOk M))
      have HBk := Lib.hid (HB.out k)
      have HAk := Lib.hid (fun h : k = K => show decide (l.getD k default ∈ ab) = true from by rw [h]; exact HA.out (h ▸ hlt))
      generalize (l.getD k default) = x at y0 y1 BF HBk HAk
      have HM := Lib.hid M
      clear hc M
      by_cases hkK : k < K
      · have HD := Lib.hid (HBk.out hkK)
        go_wp2_with fail
        refine BF.out.mono ?_
        rw [HD.out]
        rintro en w2 ⟨rfl, M2⟩
        have HM2 := Lib.hid (HM.out.trans M2)
        clear M2
        go_wp2_with fail
        go_roundw
        case rel => exact ⟨k + 1, by omega, by go_num, HM2.out⟩
        case measure => simp [intOf]; omega
      · obtain rfl : k = K := by omega
        have HD := Lib.hid (HAk.out rfl)
        have HRES := Lib.hid (show V = (k : Int) by rw [HI.out, if_neg (by omega)])
        go_wp2_with fail
        refine BF.out.mono ?_
        rw [HD.out]
        rintro en w2 ⟨rfl, M2⟩
        have HM2 := Lib.hid (HM.out.trans M2)
        clear M2
        go_wp2_with fail
        go_ret
        exact ⟨ret_int HRES.out.symm, HM2.out⟩
    · have HRES := Lib.hid (show V = -1 by rw [HI.out, if_pos (by omega)])
      have i1 : ¬ (k : Int) < (l.length : Int) := by omega
      go_wp2_with fail
      go_ret
      exact ⟨ret_int HRES.out.symm, M⟩
set_option maxHeartbeats 400000 in
theorem anyP_ok (w : World) (gb : Nat) (vab : Value) (ab l : List Ent) (hg : w.heap[gb]? = some (.cells #[vab] 29 (0, 0))) (hab : RdE entE w vab ab) (v : Value) (hv : RdE entE w v l) :
    Calls Tryz.prog 117 #[v, .func (.func 118) #[] #[.pointer (some ⟨gb, 0, none⟩)]] w fun en w' => en = .returned (.bool (l.any fun x => decide (x ∈ ab))) ∧ Mods [] w w' := by
  have H1 := Lib.hid (idxP_ok w gb vab ab l hg hab v hv)
  have HD := Lib.hid (anyI_any l ab)
  obtain ⟨ad, cap, rfl⟩ := hv.len
  generalize anyI l ab = i at H1 HD
  generalize (l.any fun x => decide (x ∈ ab)) = r at HD ⊢
  clear hv hg hab
  go_enter Tryz.func117, Tryz.ntmps117
  go_wp2_with fail
  refine H1.out.mono ?_
  rintro en w' ⟨rfl, M⟩
  go_wp2_with fail
  go_ret
  exact ⟨ret_bool HD.out, M⟩
set_option maxRecDepth 100000 in
set_option maxHeartbeats 4000000 in
theorem presentIn_ok (w : World) (l : List Asc) (hl : l.length ≤ 1000) (v : Value) (hv : RdE ascE w v l) (vab : Value) (ab : List Ent) (hab : RdE entE w vab ab) (e : Ent) :
    Calls Tryz.prog 83 #[v, vab, .agg e.cells.toArray] w fun en w' => en = .returned (.bool (presB l ab e)) ∧ Mods [] w w' := by
  obtain ⟨ad, cap, rfl⟩ := hv.len
  obtain ⟨ad2, cap2, rfl⟩ := hab.len
  have HV := Lib.hid hv
  have HAB := Lib.hid hab
  have M0 := ((Mods.refl (S := []) (w := w)).alloc (.cells #[.slice ad2 ab.length cap2] 29)).alloc (.cells e.cells.toArray 31)
  have B0 := EntBox.new (w.alloc (.cells #[.slice ad2 ab.length cap2] 29)) e
  rw [World.size_alloc] at B0
  have G0 := heap_alloc (o' := .cells e.cells.toArray 31) (heap_alloc_new w (.cells #[.slice ad2 ab.length cap2] 29))
  clear hv hab
  go_enter Tryz.func83, Tryz.ntmps83
  go_wp2_with fail
  generalize ((w.alloc (.cells #[.slice ad2 ab.length cap2] 29)).alloc (.cells e.cells.toArray 31)) = w1 at M0 B0 G0 ⊢
  have HM1 := Lib.hid M0
  generalize w.heap.size + 1 = g at B0 ⊢
  generalize w.heap.size = gb at G0 ⊢
  have HG0 := Lib.hid G0
  refine heldStart (S := fun W => EntBox W g e) 10 rfl (by kernel_rfl) B0 (fun hHeld => ?_)
  have HM2 := Lib.hid (HM1.out.drew)
  have HG2 := Lib.hid (show w1.drew.heap[gb]? = _ from HG0.out)
  clear HM1 HG0 M0 B0 G0
  generalize w1.drew = w2 at HM2 HG2 hHeld ⊢
  refine takeD (i := 0) (d := 7) (v := ?_) rfl rfl (by kernel_rfl) (by kernel_rfl) (by kernel_rfl) (fun _ _ _ h => h) (Or.inl ⟨by rfl, ?_⟩) hHeld ?_
  rotate_left 1
  · (intro w hSw; (try dsimp only at hSw); go_simp; (try with_reducible rfl))
  simp only [List.setIfInBounds_toArray, List.set_cons_zero, List.set_cons_succ]
  refine takeD (i := 1) (d := 8) (v := .agg #[.int .u8 ((e.id.val : Nat) : Int), .int .u8 ((e.inst.val : Nat) : Int)]) rfl rfl (by kernel_rfl) (by kernel_rfl) (by kernel_rfl) (fun _ _ _ h => h) (yieldsIf_load_row rfl 31 (.tmp 5) rfl g rfl 31 #[.int .u8 ((e.id.val : Nat) : Int), .int .u8 ((e.inst.val : Nat) : Int)] (0, 0) _ (fun _ h=>h) Tryz.underlying31 rfl Tryz.sizeEnt) hHeld ?_
  simp only [List.setIfInBounds_toArray, List.set_cons_zero, List.set_cons_succ]
  refine takeD (i := 3) (d := 10) (v := .agg #[.int .u8 ((e.id.val : Nat) : Int), .int .u8 ((e.inst.val : Nat) : Int)]) rfl rfl (by kernel_rfl) (by kernel_rfl) (by kernel_rfl) (fun _ _ _ h => h) (yieldsIf_load_row rfl 31 (.tmp 5) rfl g rfl 31 #[.int .u8 ((e.id.val : Nat) : Int), .int .u8 ((e.inst.val : Nat) : Int)] (0, 0) _ (fun _ h=>h) Tryz.underlying31 rfl Tryz.sizeEnt) hHeld ?_
  simp only [List.setIfInBounds_toArray, List.set_cons_zero, List.set_cons_succ]
  refine takeD (i := 6) (d := 13) (v := ?_) rfl rfl (by kernel_rfl) (by kernel_rfl) (by kernel_rfl) (fun _ _ _ h => h) (Or.inl ⟨by rfl, ?_⟩) hHeld ?_
  rotate_left 1
  · (intro w hSw; (try dsimp only at hSw); go_simp; (try with_reducible rfl))
  simp only [List.setIfInBounds_toArray, List.set_cons_zero, List.set_cons_succ]
  refine callLitH (iC := 2) (iA := 4) (dC := 9) (dA := 11) (f := 82) (T := 31) (z := e.cells.toArray) (vA := fun g => .slice (some ⟨g, 0, none⟩) 1 1) (args := #[.slice ad l.length cap, .agg e.cells.toArray])
    (R := fun u W => ∃ A, OwnE entE W w2.heap.size u A ∧ Arnd l e A) rfl rfl rfl rfl rfl rfl (by decide) (by decide) (fun _ => ?_) (fun _ _ => ?_) (fun _ => ?_) (fun _ _ => ?_) (by kernel_rfl) (by kernel_rfl) (by kernel_rfl) (fun W M => EntBox.mods0 hHeld M)
    (fun W M => (around_ok W l hl e _ ((HV.out.mods0 ascOk HM2.out).mods0 ascOk M)).mono fun en W' ⟨u, A, h1, h2, h3, h4⟩ => ⟨u, h1, ⟨A, h2.down M.size, h3⟩, h4⟩)
    (fun u W ⟨A, h1, h2⟩ => ⟨A, h1.mods0 (Mods.refl.alloc _), h2⟩) (fun u g2 W3 hR M3 hg3 hgl => ?_)
  · first | rfl | (go_simp; done) | (go_simp; rfl)
  · first | rfl | (go_simp; done) | (go_simp; rfl)
  · first | rfl | (go_simp; done) | (go_simp; rfl)
  · first | rfl | (go_simp; done) | (go_simp; rfl)
  · obtain ⟨A, hO, hA⟩ := hR
    have hgbl : gb < w2.heap.size := lt_of_block HG2.out
    have hgl2 : g < w2.heap.size := EntBox.lt hHeld
    have hzw : w.heap.size ≤ w2.heap.size := HM2.out.size
    replace hHeld := EntBox.mods0 hHeld M3
    have HM3 := Lib.hid (HM2.out.trans M3)
    have HG3 := Lib.hid (M3.heap HG2.out (by simp))
    have HAl := Lib.hid hA.len
    have HPA := Lib.hid (pres_any (ab := ab) hA)
    have hz3 : w2.heap.size ≤ W3.heap.size := M3.size
    have HO := Lib.hid hO
    clear M3 HM2 HG2 hA hO
    simp only [List.setIfInBounds_toArray, List.set_cons_zero, List.set_cons_succ]
    refine wpAnyH_ready (rs := [5]) (by kernel_rfl) (by simp) ?_
    refine AllReadyH.cons rfl (fun K hK => ?_) AllReadyH.nil
    refine step_appE entOk (by rfl) 12 rfl (.tmp 9) (.tmp 11) rfl (by rfl) HO.out (by rfl) (RdE.one (a := e) hg3 rfl) (by have := HAl.out; simp; omega) hz3 (fun VB WB OB MB => ?_)
    have hgb : gb ∉ u.ownBlock.toList := fun hk => by have := HO.out.back hk; omega
    have hgg : g ∉ u.ownBlock.toList := fun hk => by have := HO.out.back hk; omega
    refine hK.out _ _ (EntBox.mods hHeld MB hgg) (fun hHeld => ?_)
    have HMB := Lib.hid (HM3.out.comp MB (fun k hk => .inr (by have := HO.out.back hk; omega)))
    have HGB := Lib.hid (MB.heap HG3.out hgb)
    have HOB := Lib.hid (OB.rd entOk)
    clear hK K OB MB
    simp only [List.setIfInBounds_toArray, List.set_cons_zero, List.set_cons_succ]
    have HAN := Lib.hid (anyP_ok WB gb _ ab _ HGB.out (HAB.out.mods0 entOk HMB.out) VB HOB.out)
    generalize (A ++ [e]).any (fun x => decide (x ∈ ab)) = r at HAN HPA
    refine wpAnyH_ready (rs := [7]) (by kernel_rfl) (by simp) ?_
    refine AllReadyH.cons rfl (fun K hK => ?_) AllReadyH.nil
    go_simp
    go_wp2_with (refine HAN.out.mono ?_; rintro en w5 ⟨rfl, M5⟩)
    refine hK.out _ _ ?_ (fun hHeld => ?_)
    · exact EntBox.mods0 hHeld M5
    clear hK K
    have HM5 := Lib.hid (HMB.out.trans M5)
    clear M5 HAN
    refine takeD (i := 8) (d := 15) (v := ?_) rfl rfl (by kernel_rfl) (by kernel_rfl) (by kernel_rfl) (fun _ _ _ h => h) (Or.inl ⟨by rfl, ?_⟩) hHeld ?_
    rotate_left 1
    · (intro w hSw; (try dsimp only at hSw); go_simp; (try with_reducible rfl))
    simp only [List.setIfInBounds_toArray, List.set_cons_zero, List.set_cons_succ]
    refine takeD (i := 9) (d := 6) (v := ?_) rfl rfl (by kernel_rfl) (by kernel_rfl) (by kernel_rfl) (fun _ _ _ h => h) (Or.inl ⟨by rfl, ?_⟩) hHeld ?_
    rotate_left 1
    · (intro w hSw; (try dsimp only at hSw); go_simp; (try with_reducible rfl))
    simp only [List.setIfInBounds_toArray, List.set_cons_zero, List.set_cons_succ]
    refine wpAnyH_done (by kernel_rfl) ?_ _
    go_wp2_with fail
    go_ret
    exact ⟨ret_bool HPA.out, HM5.out⟩
end Go.Proofs.YtijjkonephjodaaGreatDoor

namespace Go.Proofs.YtijjkonephjodaaGreatDoor
open Go.RowKit Go.Shelf Go.Sort

def layS6E_ren : Go.Shelf.Ren := ⟨fun | 6 => 132 | 15 => 153 | 14 => 155 | 28 => 171 | 29 => 172 | 20 => 173 | 21 => 174 | 22 => 175 | 23 => 176 | 24 => 177 | 25 => 178 | 26 => 179 | 27 => 180 | 46 => 188 | 47 => 184 | 48 => 185 | 49 => 189 | 50 => 190 | 57 => 192 | n => n, fun | 22 => 29 | 24 => 31 | 25 => 195 | 3 => 3 | 39 => 144 | 0 => 0 | 53 => 62 | 55 => 221 | 4 => 4 | 46 => 213 | 45 => 212 | 50 => 217 | 5 => 5 | 9 => 9 | 66 => 229 | 70 => 233 | 76 => 237 | 77 => 202 | n => n, fun | n => n⟩
theorem layS6E : _root_.Go.Proofs.SlLaysF0.n6 Tryz.prog layS6E_ren := {
  mixed := by kernel_rfl
  f6 := ⟨Tryz.f132.name, by decide, Tryz.func132.trans (congrArg some (by kernel_rfl))⟩
  f14 := ⟨Tryz.f155.name, by decide, Tryz.func155.trans (congrArg some (by kernel_rfl))⟩
  f15 := Tryz.func153.trans (congrArg some (by kernel_rfl))
  f20 := ⟨Tryz.f173.name, by decide, Tryz.func173.trans (congrArg some (by kernel_rfl))⟩
  f21 := ⟨Tryz.f174.name, by decide, Tryz.func174.trans (congrArg some (by kernel_rfl))⟩
  f22 := ⟨Tryz.f175.name, by decide, Tryz.func175.trans (congrArg some (by kernel_rfl))⟩
  f23 := ⟨Tryz.f176.name, by decide, Tryz.func176.trans (congrArg some (by kernel_rfl))⟩
  f24 := ⟨Tryz.f177.name, by decide, Tryz.func177.trans (congrArg some (by kernel_rfl))⟩
  f25 := ⟨Tryz.f178.name, by decide, Tryz.func178.trans (congrArg some (by kernel_rfl))⟩
  f26 := ⟨Tryz.f179.name, by decide, Tryz.func179.trans (congrArg some (by kernel_rfl))⟩
  f27 := ⟨Tryz.f180.name, by decide, Tryz.func180.trans (congrArg some (by kernel_rfl))⟩
  f28 := Tryz.func171.trans (congrArg some (by kernel_rfl))
  f29 := Tryz.func172.trans (congrArg some (by kernel_rfl))
  f46 := ⟨Tryz.f188.name, by decide, Tryz.func188.trans (congrArg some (by kernel_rfl))⟩
  f47 := Tryz.func184.trans (congrArg some (by kernel_rfl))
  f48 := Tryz.func185.trans (congrArg some (by kernel_rfl))
  f49 := ⟨Tryz.f189.name, by decide, Tryz.func189.trans (congrArg some (by kernel_rfl))⟩
  f50 := ⟨Tryz.f190.name, by decide, Tryz.func190.trans (congrArg some (by kernel_rfl))⟩
  f57 := ⟨Tryz.f192.name, by decide, Tryz.func192.trans (congrArg some (by kernel_rfl))⟩
  t0 := Tryz.underlying0
  a0 := Tryz.isAgg0
  z0 := Tryz.sizeOf0
  v0 := Tryz.zeroValue0
  t3 := Tryz.underlying3
  a3 := Tryz.isAgg3
  z3 := Tryz.sizeOf3
  v3 := Tryz.zeroValue3
  t4 := Tryz.underlying4
  a4 := Tryz.isAgg4
  z4 := Tryz.sizeOf4
  v4 := Tryz.zeroValue4
  t5 := Tryz.underlying5
  a5 := Tryz.isAgg5
  z5 := Tryz.sizeOf5
  v5 := Tryz.zeroValue5
  t9 := Tryz.underlying9
  a9 := Tryz.isAgg9
  z9 := Tryz.sizeOf9
  v9 := Tryz.zeroValue9
  t22 := Tryz.underlying29
  a22 := Tryz.isAgg29
  z22 := Tryz.sizeOf29
  v22 := Tryz.zeroValue29
  t25 := Tryz.underlying195
  a25 := Tryz.isAgg195
  z25 := Tryz.sizeOf195
  v25 := Tryz.zeroValue195
  t39 := Tryz.underlying144
  a39 := Tryz.isAgg144
  z39 := Tryz.sizeOf144
  v39 := Tryz.zeroValue144
  t45 := Tryz.underlying212
  a45 := Tryz.isAgg212
  z45 := Tryz.sizeOf212
  v45 := Tryz.zeroValue212
  t46 := Tryz.underlying213
  a46 := Tryz.isAgg213
  z46 := Tryz.sizeOf213
  v46 := Tryz.zeroValue213
  t50 := Tryz.underlying217
  a50 := Tryz.isAgg217
  z50 := Tryz.sizeOf217
  v50 := Tryz.zeroValue217
  t53 := Tryz.underlying62
  a53 := Tryz.isAgg62
  z53 := Tryz.sizeOf62
  v53 := Tryz.zeroValue62
  t55 := Tryz.underlying221
  a55 := Tryz.isAgg221
  z55 := Tryz.sizeOf221
  v55 := Tryz.zeroValue221
  t66 := Tryz.underlying229
  a66 := Tryz.isAgg229
  z66 := Tryz.sizeOf229
  v66 := Tryz.zeroValue229
  t70 := Tryz.underlying233
  a70 := Tryz.isAgg233
  z70 := Tryz.sizeOf233
  v70 := Tryz.zeroValue233
  t76 := Tryz.underlying237
  a76 := Tryz.isAgg237
  z76 := Tryz.sizeOf237
  v76 := Tryz.zeroValue237
  t77 := Tryz.underlying202
  a77 := Tryz.isAgg202
  z77 := Tryz.sizeOf202
  v77 := Tryz.zeroValue202 }

/-- -1, 0 or 1. -/
def cmpZ (a b : Int) : Int := if a < b then -1 else if b < a then 1 else 0
def orZ (x y : Int) : Int := if x = 0 then y else x
set_option maxHeartbeats 1000000 in
theorem cmpU8_ok (a b : Int) (w : World) : Calls Tryz.prog 135 #[.int .u8 a, .int .u8 b] w fun e w' => e = .returned (.int .i64 (cmpZ a b)) ∧ w = w' := by
  have HN : ∀ (x : Int) (w : World), Calls Tryz.prog 156 #[.int .u8 x] w fun e w' => e = .returned (.bool false) ∧ w = w' := fun x w => by
    have hx : (x != x) = false := by simp
    go_enter Tryz.func156, Tryz.ntmps156
    go_wp2
    go_ret
    exact ⟨rfl, rfl⟩
  have HH := Lib.hid HN
  clear HN
  have HC := Lib.hid (show cmpZ a b = if a < b then -1 else if b < a then 1 else 0 from rfl)
  go_enter Tryz.func135, Tryz.ntmps135
  go_wp2_with (go_at_call 156; refine (HH.out _ _).mono ?_; rintro e w' ⟨rfl, rfl⟩)
  all_goals
    go_ret
    exact ⟨ret_int (by rw [HC.out]; repeat (first | rw [if_pos (by omega)] | rw [if_neg (by omega)])), rfl⟩
def OrRel (x y : Int) (i : Value) : Prop := i = .int .i64 0 ∨ (i = .int .i64 1 ∧ x = 0) ∨ (i = .int .i64 2 ∧ x = 0 ∧ y = 0)
set_option maxHeartbeats 1000000 in
theorem or_ok (x y : Int) (w : World) (g : Nat) (h0 : w.cell? ⟨g, 0, none⟩ = some (.int .i64 x)) (h1 : w.cell? ⟨g, 1, none⟩ = some (.int .i64 y)) :
    Calls Tryz.prog 134 #[.slice (some ⟨g, 0, none⟩) 2 2] w fun e w' => e = .returned (.int .i64 (orZ x y)) ∧ w = w' := by
  have HO := Lib.hid (show orZ x y = if x = 0 then y else x from rfl)
  generalize orZ x y = r at HO ⊢
  go_enter Tryz.func134, Tryz.ntmps134
  go_wp2_with fail
  go_loop [8] (fun i => OrRel x y i) (fun i => 2 - (intOf i).toNat)
  case atStart => exact .inl rfl
  case round =>
    rcases hrel with rfl | ⟨rfl, hx⟩ | ⟨rfl, hx, hy⟩
    · by_cases hx : x = 0
      · have HX := Lib.hid hx
        have d1 : (x != 0) = false := by simp [hx]
        clear hx
        go_wp2_with fail
        go_round
        case rel => exact .inr (.inl ⟨rfl, HX.out⟩)
        case measure => simp [intOf]
      · have HR := Lib.hid (HO.out.trans (if_neg hx))
        have d1 : (x != 0) = true := by simp [hx]
        clear hx
        go_wp2_with fail
        go_ret
        exact ⟨ret_int HR.out.symm, rfl⟩
    · have HR := Lib.hid (HO.out.trans (if_pos hx))
      have HX := Lib.hid hx
      clear hx
      by_cases hy : y = 0
      · have HY := Lib.hid hy
        have d1 : (y != 0) = false := by simp [hy]
        clear hy
        go_wp2_with fail
        go_round
        case rel => exact .inr (.inr ⟨rfl, HX.out, HY.out⟩)
        case measure => simp [intOf]
      · have d1 : (y != 0) = true := by simp [hy]
        clear hy
        go_wp2_with fail
        go_ret
        exact ⟨ret_int HR.out.symm, rfl⟩
    · have HR := Lib.hid (show r = 0 by rw [HO.out, if_pos hx, hy])
      clear hx hy
      go_wp2_with fail
      go_ret
      exact ⟨ret_int HR.out.symm, rfl⟩
def cfE (a b : Ent) : Int := orZ (cmpZ ((a.id.val : Nat) : Int) ((b.id.val : Nat) : Int)) (cmpZ ((a.inst.val : Nat) : Int) ((b.inst.val : Nat) : Int))
theorem ltCf (a b : Ent) : ltOf cfE a b = decide (ltE a b) := by
  unfold ltOf
  rw [Bool.eq_iff_iff, decide_eq_true_eq, decide_eq_true_eq]
  unfold cfE orZ cmpZ ltE
  repeat' split
  all_goals omega
theorem swoE : SWO (ltOf cfE) := by
  refine ⟨fun x => ?_, fun x y z h1 h2 => ?_, fun x y z h1 h2 => ?_⟩
  · rw [ltCf]; exact decide_eq_false (ltE_irrefl x)
  · rw [ltCf, decide_eq_true_eq] at *; exact ltE_trans h1 h2
  · rw [ltCf, decide_eq_false_iff_not] at *; unfold ltE at *; omega
set_option maxRecDepth 100000 in
set_option maxHeartbeats 2000000 in
/-- The comparison of two entities: three blocks are laid, nothing else turns. -/
theorem within1_ok (x y : Ent) (W : World) :
    Calls Tryz.prog 133 #[.agg x.cells.toArray, .agg y.cells.toArray] W fun e w' => e = .returned (.int .i64 (cfE x y)) ∧ ∃ q os', w' = grow (W.drewN q) os' := by
  have HC0 := Lib.hid (cmpU8_ok ((x.id.val : Nat) : Int) ((y.id.val : Nat) : Int))
  have HC1 := Lib.hid (cmpU8_ok ((x.inst.val : Nat) : Int) ((y.inst.val : Nat) : Int))
  have HCF := Lib.hid (show cfE x y = orZ (cmpZ ((x.id.val : Nat) : Int) ((y.id.val : Nat) : Int)) (cmpZ ((x.inst.val : Nat) : Int) ((y.inst.val : Nat) : Int)) from rfl)
  have BX := EntBox.mods0 (EntBox.new W x) ((Mods.refl (S := [])).alloc (.cells y.cells.toArray 31))
  have BY := EntBox.new (W.alloc (.cells x.cells.toArray 31)) y
  rw [World.size_alloc] at BY
  generalize cmpZ ((x.id.val : Nat) : Int) ((y.id.val : Nat) : Int) = c0 at HC0 HCF
  generalize cmpZ ((x.inst.val : Nat) : Int) ((y.inst.val : Nat) : Int) = c1 at HC1 HCF
  generalize cfE x y = r at HCF ⊢
  go_enter Tryz.func133, Tryz.ntmps133
  go_wp2_with fail
  have HW := Lib.hid (show (W.alloc (.cells x.cells.toArray 31)).alloc (.cells y.cells.toArray 31) = grow W (#[.cells x.cells.toArray 31] ++ #[.cells y.cells.toArray 31]) by rw [alloc_eq_grow, alloc_eq_grow, grow_grow])
  generalize (W.alloc (.cells x.cells.toArray 31)).alloc (.cells y.cells.toArray 31) = w1 at BX BY HW ⊢
  generalize W.heap.size + 1 = gy at BY ⊢
  generalize W.heap.size = gx at BX ⊢
  refine heldStart (S := fun w => EntBox w gx x ∧ EntBox w gy y) 13 rfl (by kernel_rfl) ⟨BX, BY⟩ (fun hHeld => ?_)
  have HW2 := Lib.hid (show w1.drew = grow (W.drewN 1) _ from (congrArg World.drew HW.out).trans (drew_grow _ _))
  clear HW BX BY
  generalize w1.drew = w2 at HW2 hHeld ⊢
  refine takeD (i := 0) (d := 5) (v := ?_) rfl rfl (by kernel_rfl) (by kernel_rfl) (by kernel_rfl) (fun _ _ _ h => h) (Or.inl ⟨by rfl, ?_⟩) hHeld ?_
  rotate_left 1
  · (intro w hSw; (try dsimp only at hSw); go_simp; (try with_reducible rfl))
  simp only [List.setIfInBounds_toArray, List.set_cons_zero, List.set_cons_succ]
  refine takeD (i := 1) (d := 6) (v := .int .u8 ((x.id.val : Nat) : Int)) rfl rfl (by kernel_rfl) (by kernel_rfl) (by kernel_rfl) (fun _ _ _ h => h) (Or.inl ⟨by rfl, fun w hSw => ?_⟩) hHeld ?_
  · have cst := hSw.1.c0
    go_simp
  simp only [List.setIfInBounds_toArray, List.set_cons_zero, List.set_cons_succ]
  refine takeD (i := 2) (d := 7) (v := ?_) rfl rfl (by kernel_rfl) (by kernel_rfl) (by kernel_rfl) (fun _ _ _ h => h) (Or.inl ⟨by rfl, ?_⟩) hHeld ?_
  rotate_left 1
  · (intro w hSw; (try dsimp only at hSw); go_simp; (try with_reducible rfl))
  simp only [List.setIfInBounds_toArray, List.set_cons_zero, List.set_cons_succ]
  refine takeD (i := 3) (d := 8) (v := .int .u8 ((y.id.val : Nat) : Int)) rfl rfl (by kernel_rfl) (by kernel_rfl) (by kernel_rfl) (fun _ _ _ h => h) (Or.inl ⟨by rfl, fun w hSw => ?_⟩) hHeld ?_
  · have cst := hSw.2.c0
    go_simp
  simp only [List.setIfInBounds_toArray, List.set_cons_zero, List.set_cons_succ]
  refine takeD (i := 5) (d := 10) (v := ?_) rfl rfl (by kernel_rfl) (by kernel_rfl) (by kernel_rfl) (fun _ _ _ h => h) (Or.inl ⟨by rfl, ?_⟩) hHeld ?_
  rotate_left 1
  · (intro w hSw; (try dsimp only at hSw); go_simp; (try with_reducible rfl))
  simp only [List.setIfInBounds_toArray, List.set_cons_zero, List.set_cons_succ]
  refine takeD (i := 6) (d := 11) (v := .int .u8 ((x.inst.val : Nat) : Int)) rfl rfl (by kernel_rfl) (by kernel_rfl) (by kernel_rfl) (fun _ _ _ h => h) (Or.inl ⟨by rfl, fun w hSw => ?_⟩) hHeld ?_
  · have cst := hSw.1.c1
    go_simp
  simp only [List.setIfInBounds_toArray, List.set_cons_zero, List.set_cons_succ]
  refine takeD (i := 7) (d := 12) (v := ?_) rfl rfl (by kernel_rfl) (by kernel_rfl) (by kernel_rfl) (fun _ _ _ h => h) (Or.inl ⟨by rfl, ?_⟩) hHeld ?_
  rotate_left 1
  · (intro w hSw; (try dsimp only at hSw); go_simp; (try with_reducible rfl))
  simp only [List.setIfInBounds_toArray, List.set_cons_zero, List.set_cons_succ]
  refine takeD (i := 8) (d := 13) (v := .int .u8 ((y.inst.val : Nat) : Int)) rfl rfl (by kernel_rfl) (by kernel_rfl) (by kernel_rfl) (fun _ _ _ h => h) (Or.inl ⟨by rfl, fun w hSw => ?_⟩) hHeld ?_
  · have cst := hSw.2.c1
    go_simp
  simp only [List.setIfInBounds_toArray, List.set_cons_zero, List.set_cons_succ]
  refine wpAnyH_ready (rs := [4]) (by kernel_rfl) (by simp) ?_
  refine AllReadyH.cons rfl (fun K hK => ?_) AllReadyH.nil
  go_simp
  go_wp2_with (refine (HC0.out _).mono ?_; rintro e w' ⟨rfl, rfl⟩)
  refine hK.out _ _ ?_ (fun hHeld => ?_)
  · exact hHeld
  clear hK K
  refine wpAnyH_ready (rs := [9]) (by kernel_rfl) (by simp) ?_
  refine AllReadyH.cons rfl (fun K hK => ?_) AllReadyH.nil
  go_simp
  go_wp2_with (refine (HC1.out _).mono ?_; rintro e w' ⟨rfl, rfl⟩)
  refine hK.out _ _ ?_ (fun hHeld => ?_)
  · exact hHeld
  clear hK K
  refine wpAnyH_ready (rs := [10]) (by kernel_rfl) (by simp) ?_
  refine AllReadyH.cons rfl (fun K hK => ?_) AllReadyH.nil
  go_simp
  have MA := (Mods.refl (S := []) (w := w2)).alloc (.cells #[.int .i64 c0, .int .i64 c1] 3)
  refine hK.out _ _ ⟨EntBox.mods0 hHeld.1 MA, EntBox.mods0 hHeld.2 MA⟩ (fun hHeld => ?_)
  clear hK K
  have HOR := Lib.hid (or_ok c0 c1 _ w2.heap.size ((cell_blk (heap_alloc_new w2 (.cells #[.int .i64 c0, .int .i64 c1] 3)) 0).trans rfl) ((cell_blk (heap_alloc_new w2 (.cells #[.int .i64 c0, .int .i64 c1] 3)) 1).trans rfl))
  rw [← HCF.out] at HOR
  refine wpAnyH_ready (rs := [11]) (by kernel_rfl) (by simp) ?_
  refine AllReadyH.cons rfl (fun K hK => ?_) AllReadyH.nil
  go_simp
  go_wp2_with (refine HOR.out.mono ?_; rintro e w' ⟨rfl, rfl⟩)
  refine hK.out _ _ ?_ (fun hHeld => ?_)
  · exact hHeld
  clear hK K
  refine takeD (i := 12) (d := 4) (v := ?_) rfl rfl (by kernel_rfl) (by kernel_rfl) (by kernel_rfl) (fun _ _ _ h => h) (Or.inl ⟨by rfl, ?_⟩) hHeld ?_
  rotate_left 1
  · (intro w hSw; (try dsimp only at hSw); go_simp; (try with_reducible rfl))
  simp only [List.setIfInBounds_toArray, List.set_cons_zero, List.set_cons_succ]
  refine wpAnyH_done (by kernel_rfl) ?_ _
  go_wp2_with fail
  go_ret
  exact ⟨rfl, 1, _, by rw [HW2.out, alloc_eq_grow, grow_grow]⟩
theorem Mods.growO {w : World} (os : Array Obj) : Mods [] w (grow w os) := ⟨rfl, rfl, rfl, by simp [grow], fun k hk _ => heap_grow_old w os hk⟩
theorem Mods.putRowK {α : Type} [Inhabited α] (enc : α → List Value) (k : Nat) (w : World) (blk off : Nat) (d : Array α) : Mods [blk] w (Sort.putRowK enc k w blk off d) := by
  unfold Sort.putRowK Sort.putRow Sort.mapBlock
  refine ⟨rfl, rfl, rfl, by simp, fun k _ hn => ?_⟩
  simp only [List.mem_singleton] at hn
  show (w.heap.modify blk _)[k]? = w.heap[k]?
  rw [Array.getElem?_modify, if_neg (fun h => hn h.symm)]
def SortedEnts (w : World) (g cap : Nat) (A : List Ent) (e : Ending) (w' : World) : Prop :=
  e = .returned (.tuple #[]) ∧ ∃ L : List Ent, RdE entE w' (.slice (some ⟨g, 0, none⟩) A.length cap) L ∧ L.length = A.length ∧ L.Perm A ∧ srtE L ∧ Mods [g] w w'
set_option maxRecDepth 100000 in
set_option maxHeartbeats 1000000 in
theorem sortEnts_ok (w : World) (B g cap : Nat) (A : List Ent) (hO : OwnE entE w B (.slice (some ⟨g, 0, none⟩) A.length cap) A) (h0 : 0 < A.length) (hA : A.length ≤ 1000000) :
    Calls Tryz.prog 132 #[.slice (some ⟨g, 0, none⟩) A.length cap, .func (.func 133) #[] #[]] w fun e w' => SortedEnts w g cap A e w' := by
  obtain ⟨g', cap', cur, hv, hg, hcl, hcm, hcs, _⟩ := owns_form (show w.ownsRow B entE.ty entE.k _ A.length (cellsE entE A) from hO) h0
  injection hv with hv1 _ hv3
  injection hv1 with hv1
  injection hv1 with hv1 _
  subst hv1 hv3
  have hrd := hO.rd entOk
  have hd : ∀ j, j < A.length → A.toArray[j]! = A.getD j default := fun j hj => by
    rw [getElem!_pos A.toArray j (by simpa using hj), List.getD_eq_getElem?_getD, List.getElem?_eq_getElem hj]
    rfl
  have hH : HoldsK Ent.cells 2 w g 0 A.toArray := fun t ht => by
    rw [size_flatK] at ht
    have ht : t < A.length * 2 := by simpa using ht
    obtain ⟨bb, off, cap2, hv2, _, _, hc⟩ := hrd.at h0
    injection hv2 with hv3 _ _
    injection hv3 with hv3
    injection hv3 with hv3 hv4
    subst hv3 hv4
    have hlt : t / 2 < A.length := by omega
    have h1 := hc (t / 2) hlt (t % 2) (Nat.mod_lt _ (by decide))
    refine ⟨?_, froz_blk hg _⟩
    rw [get_flatK _ _ _ _ (by simpa using ht), hd _ hlt]
    have e : 0 + t / 2 * 2 + t % 2 = 0 + t := by omega
    have h1 : w.cell? ⟨g, 0 + t / 2 * 2 + t % 2, none⟩ = (Ent.cells (A.getD (t / 2) default))[t % 2]? := h1
    rw [e] at h1
    rw [h1, id, List.getElem!_eq_getElem?_getD, List.getElem?_eq_getElem (by show t % 2 < 2; omega)]
    rfl
  have eg : ∀ args w, (callFunc 133 args).run Tryz.prog w = .ok (.enter 133 args) w := enters_of Tryz.func133 (by kernel_rfl) rfl
  have hcon := AnyQ.slices_SortFunc layS6E 2 Tryz.isAgg31 Tryz.sizeOf31 Ent.cells (fun _ => rfl) (fun x v hv => by simp [Ent.cells] at hv; rcases hv with rfl | rfl <;> rfl) cfE swoE 133 #[] g 0 cap A.toArray w eg
    (fun _ _ _ _ x y => within1_ok x y _) hH (lt_of_block hg) (by simp; omega)
  change Calls Tryz.prog 132 _ _ _ at hcon
  have hsz : A.toArray.size = A.length := by simp
  rw [hsz] at hcon
  refine hcon.mono ?_
  rintro e w' ⟨rfl, d', n, os, hp, hs, rfl⟩
  have hdz : d'.size = A.length := hp.1.trans (by simp)
  have hX : HoldsK Ent.cells 2 (sortWorldK Ent.cells 2 w g 0 n d' os) g 0 d' := by
    unfold sortWorldK
    refine holdsK_grow Ent.cells 2 _ os g 0 d' ?_ (holdsK_putRowK Ent.cells 2 _ g 0 A.toArray d' (holdsK_ahead Ent.cells 2 w n g 0 _ hH) hp.1)
    have := (Mods.putRowK Ent.cells 2 (Sort.ahead w n) g 0 d').size
    exact Nat.lt_of_lt_of_le (lt_of_block hg) this
  have hL : d'.toList.length = A.length := (Array.length_toList).trans hdz
  refine ⟨rfl, d'.toList, ?_, hL, ?_, ?_, ?_⟩
  · refine ⟨some ⟨g, 0, none⟩, cap, by rw [hL], by rw [hL]; exact hcl, hcm, fun i hi => ⟨g, 0, rfl, fun j hj => ?_⟩⟩
    have hi' : i < d'.size := by simpa using hi
    have := (hX.cell hi' (c := j) hj).1
    have e : entE.k = 2 := rfl
    rw [e]
    refine this.trans ?_
    show _ = (Ent.cells (d'.toList.getD i default))[j]?
    rw [List.getD_eq_getElem?_getD, List.getElem?_eq_getElem hi, List.getElem!_eq_getElem?_getD, getElem!_pos d' i hi']
    show some ((Ent.cells d'[i])[j]?.getD default) = (Ent.cells d'[i])[j]?
    rw [List.getElem?_eq_getElem (by show j < 2; exact hj)]
    rfl
  · have h3 := hp.2.2
    rw [show A.length = d'.size from hdz.symm] at h3
    rw [Array.extract_size, show d'.size = A.toArray.size from hp.1, Array.extract_size] at h3
    exact h3
  · unfold srtE
    rw [List.pairwise_iff_getElem]
    intro i j hi hj hij
    simp only [Array.length_toList] at hi hj
    have := hs i j (Nat.zero_le _) hij (by omega)
    rw [ltCf, getElem!_pos d' i hi, getElem!_pos d' j hj, decide_eq_false_iff_not] at this
    simpa using this
  · unfold sortWorldK
    exact ((Mods.refl.drewN n).trans (Mods.putRowK Ent.cells 2 (Sort.ahead w n) g 0 d')).comp0 (Mods.growO os)
end Go.Proofs.YtijjkonephjodaaGreatDoor

namespace Go.Proofs.YtijjkonephjodaaGreatDoor
open Go.RowKit

def inL (l : List Asc) (e : Ent) (k : Nat) : List Ent := e :: ((l.take k).map (·.inn)).filter fun x => abv l x e
theorem inL_succ {l : List Asc} {e : Ent} {k : Nat} (h : k < l.length) : inL l e (k + 1) = if abv l (l.getD k default).inn e = true then inL l e k ++ [(l.getD k default).inn] else inL l e k := by
  unfold inL
  rw [take_inn h, List.filter_append]
  generalize (l.getD k default).inn = y
  by_cases hx : abv l y e = true
  · rw [if_pos hx]
    simp [hx]
  · rw [if_neg hx]
    simp [hx]
theorem inL_all (l : List Asc) (e : Ent) : inL l e l.length = withinL l e := by unfold inL withinL; rw [List.take_length]
theorem inL_len (l : List Asc) (e : Ent) (k : Nat) : (inL l e k).length ≤ l.length + 1 := by
  unfold inL
  rw [List.length_cons]
  have := List.length_filter_le (fun x => abv l x e) ((l.take k).map (·.inn))
  rw [List.length_map, List.length_take] at this
  omega
def WithinRes (w : World) (l : List Asc) (e : Ent) (en : Ending) (w' : World) : Prop := ∃ v, en = .returned v ∧ RdE entE w' v (wthL l e) ∧ Mods [] w w'
def WiRel (w : World) (l : List Asc) (e : Ent) (u : Value) (wr : World) (k : Nat) : Prop := OwnE entE wr (w.heap.size + 1) u (inL l e k) ∧ EntBox wr w.heap.size e ∧ Mods [] w wr
set_option maxRecDepth 100000 in
set_option maxHeartbeats 8000000 in
theorem within_ok (w : World) (l : List Asc) (hl : l.length ≤ 1000) (v : Value) (hv : RdE ascE w v l) (e : Ent) :
    Calls Tryz.prog 103 #[v, .agg e.cells.toArray] w fun en w' => WithinRes w l e en w' := by
  obtain ⟨ad, cap, rfl⟩ := hv.len
  have HV := Lib.hid hv
  have M0 := (Mods.refl (S := []) (w := w)).alloc (.cells e.cells.toArray 31)
  have B0 := EntBox.new w e
  have O1 := OwnE.lit entOk (w.alloc (.cells e.cells.toArray 31)) (B := w.heap.size + 1) (by simp) [e] (by unfold maxLen; simp)
  have M1 := M0.alloc (.cells #[.int .u8 ((e.id.val : Nat) : Int), .int .u8 ((e.inst.val : Nat) : Int)] 31)
  have HS0 := Lib.hid (show OwnE entE ((w.alloc (.cells e.cells.toArray 31)).alloc (.cells #[.int .u8 ((e.id.val : Nat) : Int), .int .u8 ((e.inst.val : Nat) : Int)] 31)) (w.heap.size + 1) (.slice (some ⟨w.heap.size + 1, 0, none⟩) 1 1) (inL l e 0) from by
    rw [World.size_alloc] at O1
    exact O1)
  have HB1 := Lib.hid (EntBox.mods0 B0 ((Mods.refl (S := [])).alloc (.cells #[.int .u8 ((e.id.val : Nat) : Int), .int .u8 ((e.inst.val : Nat) : Int)] 31)))
  have HM1 := Lib.hid M1
  have e0 := B0.c0
  have e1 := B0.c1
  clear hv M0 O1 B0 M1
  go_enter Tryz.func103, Tryz.ntmps103
  go_wp2_with fail
  clear e0 e1
  generalize ((w.alloc (.cells e.cells.toArray 31)).alloc (.cells #[.int .u8 ((e.id.val : Nat) : Int), .int .u8 ((e.inst.val : Nat) : Int)] 31)) = w0 at HS0 HB1 HM1 ⊢
  go_loopw [5, 12] (fun u i wr => ∃ k : Nat, k ≤ l.length ∧ i = .int .i64 k ∧ WiRel w l e u wr k) (fun _ i _ => l.length - (intOf i).toNat)
  case atStart => exact ⟨0, Nat.zero_le _, rfl, HS0.out, HB1.out, HM1.out⟩
  clear HS0 HB1 HM1
  case round =>
    obtain ⟨k, hk, rfl, hO, hB, hM⟩ := hrel
    have i0 : (0 : Int) ≤ (k : Int) := by omega
    have HO := Lib.hid hO
    have HB := Lib.hid hB
    have HM := Lib.hid hM
    obtain ⟨gu, cpu, hu, -, -, -, -⟩ := hO.form (by unfold inL; simp)
    by_cases hlt : k < l.length
    · have i1 : (k : Int) < (l.length : Int) := by omega
      obtain ⟨bb, off, cap, hv2, _, _, hc⟩ := (HV.out.mods0 ascOk HM.out).asc (by omega)
      injection hv2 with hv3 _ hv4
      subst hv3 hv4
      obtain ⟨y0, y1, y2, y3⟩ := hc k hlt
      have HIS := Lib.hid (inL_succ (e := e) hlt)
      obtain ⟨x, hx⟩ : ∃ x, x = l.getD k default := ⟨_, rfl⟩
      rw [← hx] at y0 y1 y2 y3 HIS
      have hzw : w.heap.size < wr.heap.size := hB.lt
      subst hu
      clear hc hx hO hM hB
      go_wp2_with (refine wpList_store_row (cs := #[.int .u8 ((x.out.id.val : Nat) : Int), .int .u8 ((x.out.inst.val : Nat) : Int), .int .u8 ((x.inn.id.val : Nat) : Int), .int .u8 ((x.inn.inst.val : Nat) : Int)]) rfl 111 (.tmp 7) (.tmp 15) rfl (heap_alloc_new wr _) (by rfl) (by rfl) (by rfl) Tryz.sizeAsc (Asc.one x) ?_; intro w3 R3 M3; have HR3 := Lib.hid R3; have HF3 := Lib.hid (freshA M3); clear R3 M3)
      have HM3 := Lib.hid (HM.out.trans HF3.out)
      have HO3 := Lib.hid (HO.out.mods0 HF3.out)
      have hgu : wr.heap.size ∉ (Value.slice (some ⟨gu, 0, none⟩) (inL l e k).length cpu).ownBlock.toList := fun hm => by
        have := (HO.out.lt _ (by simpa using hm)).2
        omega
      have HGU := Lib.hid hgu
      clear hgu
      generalize hgg : wr.heap.size = g at HR3 HGU ⊢
      have HGG := Lib.hid hgg
      clear hgg
      refine heldStart (S := fun W => EntBox W w.heap.size e ∧ W.heap[g]? = some (.cells #[.int .u8 ((x.out.id.val : Nat) : Int), .int .u8 ((x.out.inst.val : Nat) : Int), .int .u8 ((x.inn.id.val : Nat) : Int), .int .u8 ((x.inn.inst.val : Nat) : Int)] 111 (0, 0))) 6 rfl (by kernel_rfl) ⟨HB.out.mods0 HF3.out.drew, HR3.out⟩ (fun hHeld => ?_)
      refine takeD (i := 0) (d := 16) (v := ?_) rfl rfl (by kernel_rfl) (by kernel_rfl) (by kernel_rfl) (fun _ _ _ h => h) (Or.inl ⟨by rfl, ?_⟩) hHeld ?_
      rotate_left 1
      · (intro w hSw; (try dsimp only at hSw); go_simp; (try with_reducible rfl))
      simp only [List.setIfInBounds_toArray, List.set_cons_zero, List.set_cons_succ]
      refine takeD (i := 1) (d := 17) (v := ?_) rfl rfl (by kernel_rfl) (by kernel_rfl) (by kernel_rfl) (fun _ _ _ h => h) (Or.inl ⟨by rfl, ?_⟩) hHeld ?_
      rotate_left 1
      · (intro w hSw; (try dsimp only at hSw); go_simp; (try with_reducible rfl))
      simp only [List.setIfInBounds_toArray, List.set_cons_zero, List.set_cons_succ]
      refine takeD (i := 2) (d := 18) (v := .agg #[.int .u8 ((x.inn.id.val : Nat) : Int), .int .u8 ((x.inn.inst.val : Nat) : Int)]) rfl rfl (by kernel_rfl) (by kernel_rfl) (by kernel_rfl) (fun _ _ _ h => h) (Or.inl ⟨by rfl, fun w hSw => ?_⟩) hHeld ?_
      · have c2 := (cell_blk hSw.2 2).trans (show _ = some (Value.int .u8 ((x.inn.id.val : Nat) : Int)) from rfl)
        have c3 := (cell_blk hSw.2 3).trans (show _ = some (Value.int .u8 ((x.inn.inst.val : Nat) : Int)) from rfl)
        go_simp
      simp only [List.setIfInBounds_toArray, List.set_cons_zero, List.set_cons_succ]
      refine takeD (i := 4) (d := 20) (v := .agg #[.int .u8 ((e.id.val : Nat) : Int), .int .u8 ((e.inst.val : Nat) : Int)]) rfl rfl (by kernel_rfl) (by kernel_rfl) (by kernel_rfl) (fun _ _ _ h => h) (yieldsIf_load_row rfl 31 (.tmp 3) rfl w.heap.size rfl 31 #[.int .u8 ((e.id.val : Nat) : Int), .int .u8 ((e.inst.val : Nat) : Int)] (0, 0) _ (fun _ h=>h.1) Tryz.underlying31 rfl Tryz.sizeEnt) hHeld ?_
      simp only [List.setIfInBounds_toArray, List.set_cons_zero, List.set_cons_succ]
      have HAR := Lib.hid (around_ok w3.drew l (by omega) x.inn _ (HV.out.mods0 ascOk HM3.out.drew))
      refine wpAnyH_ready (rs := [3]) (by kernel_rfl) (by simp) ?_
      refine AllReadyH.cons rfl (fun K hK => ?_) AllReadyH.nil
      go_simp
      go_wp2_with (refine HAR.out.mono ?_; rintro en w4 ⟨va, A, rfl, OA, HA, M4⟩)
      refine hK.out _ _ ?_ (fun hHeld => ?_)
      · exact ⟨hHeld.1.mods0 M4, M4.heap hHeld.2 (by simp)⟩
      clear hK K
      have HM4 := Lib.hid (HM3.out.drew.trans M4)
      have HO4 := Lib.hid ((HO3.out.mods0 Mods.refl.drew).mods0 M4)
      have HCO := Lib.hid (contains_ok w4 A e va (OA.rd entOk))
      rw [HA.ab] at HCO
      obtain ⟨r, hr⟩ : ∃ r, r = abv l x.inn e := ⟨_, rfl⟩
      rw [← hr] at HCO HIS
      clear hr M4 OA HA HAR
      refine wpAnyH_ready (rs := [5]) (by kernel_rfl) (by simp) ?_
      refine AllReadyH.cons rfl (fun K hK => ?_) AllReadyH.nil
      go_simp
      go_wp2_with (refine HCO.out.mono ?_; rintro en w5 ⟨rfl, M5⟩)
      refine hK.out _ _ ?_ (fun hHeld => ?_)
      · exact ⟨hHeld.1.mods0 M5, M5.heap hHeld.2 (by simp)⟩
      clear hK K
      have HM5 := Lib.hid (HM4.out.trans M5)
      have HO5 := Lib.hid (HO4.out.mods0 M5)
      clear M5 HCO
      refine wpAnyH_done (by kernel_rfl) ?_ _
      cases r with
      | false =>
        have HIE := Lib.hid (HIS.out.trans (if_neg (by simp)))
        go_wp2_with fail
        go_roundw
        case rel => exact ⟨k + 1, by omega, by go_num, by rw [HIE.out]; exact HO5.out, hHeld.1, HM5.out⟩
        case measure => simp [intOf]; omega
      | true =>
        have HIE := Lib.hid (HIS.out.trans (if_pos rfl))
        have c2 := (cell_blk hHeld.2 2).trans (show _ = some (Value.int .u8 ((x.inn.id.val : Nat) : Int)) from rfl)
        have c3 := (cell_blk hHeld.2 3).trans (show _ = some (Value.int .u8 ((x.inn.inst.val : Nat) : Int)) from rfl)
        have HLEN := Lib.hid (inL_len l e k)
        have hz5 : w.heap.size + 1 ≤ w5.heap.size := by have := hHeld.1.lt; omega
        have MA := (Mods.refl (S := []) (w := w5)).alloc (.cells x.inn.cells.toArray 31)
        have HAP := Lib.hid (show OwnE entE (w5.alloc (.cells x.inn.cells.toArray 31)) (w.heap.size + 1) _ _ ∧ RdE entE (w5.alloc (.cells x.inn.cells.toArray 31)) (.slice (some ⟨w5.heap.size, 0, none⟩) 1 1) [x.inn] ∧ Mods [] w (w5.alloc (.cells x.inn.cells.toArray 31)) ∧ EntBox (w5.alloc (.cells x.inn.cells.toArray 31)) w.heap.size e from ⟨HO5.out.mods0 MA, RdE.one (a := x.inn) (heap_alloc_new w5 _) rfl, HM5.out.trans MA, hHeld.1.mods0 MA⟩)
        have HSZ := Lib.hid hz5
        clear MA
        go_wp2_with (at_builtin; refine wpList_appE entOk (by rfl) (.tmp 22) (.tmp 25) rfl (by rfl) HAP.out.1 (by rfl) HAP.out.2.1 (by have := HLEN.out; simp; omega) (by have := HSZ.out; simp; omega) ?_; intro VB WB OB MB; have HST := Lib.hid (show WiRel w l e VB WB (k + 1) from ⟨by rw [HIE.out]; exact OB, HAP.out.2.2.2.mods MB (fun hm => by have := HAP.out.1.back hm; omega), HAP.out.2.2.1.comp MB (fun q hq => .inr (by have := HAP.out.1.back hq; omega))⟩); clear OB MB)
        go_roundw
        case rel => exact ⟨k + 1, by omega, by go_num, HST.out⟩
        case measure => simp [intOf]; omega
    · have i1 : ¬ (k : Int) < (l.length : Int) := by omega
      have hk2 : k = l.length := by omega
      have HLEN := Lib.hid (inL_len l e k)
      have HPOS := Lib.hid (show 0 < (inL l e k).length by unfold inL; simp)
      have HEQ := Lib.hid (show inL l e k = withinL l e by rw [hk2, inL_all])
      subst hu
      have HSO := Lib.hid (sortEnts_ok wr (w.heap.size + 1) gu cpu (inL l e k) HO.out HPOS.out (by have := HLEN.out; omega))
      have HOB := Lib.hid (fun q (hq : q ∈ (Value.slice (some ⟨gu, 0, none⟩) (inL l e k).length cpu).ownBlock.toList) => HO.out.back hq)
      clear hO hB hM hk2
      go_wp2_with fail
      refine HSO.out.mono ?_
      rintro en w2 ⟨rfl, L, HL, HLL, HP, HS, MS⟩
      have HLW := Lib.hid (sorted_is (l := l) (e := e) (by rw [← HEQ.out]; exact HP) HS)
      have HMF := Lib.hid (HM.out.comp MS (fun q hq => by simp at hq; subst hq; exact .inr (by have := HOB.out q (by simp [Value.ownBlock]); omega)))
      have HRL := Lib.hid HL
      clear HP HS HLL MS HL
      go_wp2_with fail
      go_ret
      exact ⟨_, rfl, by rw [← HLW.out]; exact HRL.out, HMF.out⟩
end Go.Proofs.YtijjkonephjodaaGreatDoor

namespace Go.Proofs.YtijjkonephjodaaGreatDoor
open Go.RowKit

theorem chk_len {l : List Asc} (h : chkE l = 0) : l.length ≤ 32 := by
  unfold chkE at h
  rcases Nat.lt_or_ge 32 l.length with h1 | h1
  · rw [if_pos h1] at h; cases h
  · exact h1
theorem chk_parts {l : List Asc} (h : chkE l = 0) : dupB l = false ∧ cycB l = false := by
  have h1 := chk_len h
  unfold chkE at h
  rw [if_neg (by omega)] at h
  split at h
  · cases h
  · rename_i h2
    split at h
    · cases h
    · rename_i h3
      exact ⟨by simpa using h2, by simpa using h3⟩
def wthR (l : List Asc) (e : Ent) : List Ent := if chkE l = 0 then wthL l e else []
def presR (l : List Asc) (ab : List Ent) (e : Ent) : Bool := if chkE l = 0 then presB l ab e else false
def WithinE (w : World) (l : List Asc) (e : Ent) (en : Ending) (w' : World) : Prop := ∃ v, en = .returned (.tuple #[v, .int .i64 (chkE l)]) ∧ RdE entE w' v (wthR l e) ∧ Mods [] w w'
def PresentE (w : World) (l : List Asc) (ab : List Ent) (e : Ent) (en : Ending) (w' : World) : Prop := en = .returned (.tuple #[.bool (presR l ab e), .int .i64 (chkE l)]) ∧ Mods [] w w'
set_option maxHeartbeats 1000000 in
theorem presentE_ok (w : World) (l : List Asc) (v : Value) (hv : RdE ascE w v l) (vab : Value) (ab : List Ent) (hab : RdE entE w vab ab) (e : Ent) :
    Calls Tryz.prog 49 #[v, vab, .agg e.cells.toArray] w fun en w' => PresentE w l ab e en w' := by
  obtain ⟨ad, cap, rfl⟩ := hv.len
  obtain ⟨ad2, cap2, rfl⟩ := hab.len
  have M0 := (Mods.refl (S := []) (w := w)).alloc (.cells e.cells.toArray 31)
  have B0 := EntBox.new w e
  have HV := Lib.hid hv
  have HAB := Lib.hid hab
  have HM := Lib.hid M0
  have HB := Lib.hid B0
  have HC := Lib.hid (check_ok _ l _ (hv.mods0 ascOk M0))
  have HR := Lib.hid (fun (w' : World) (M : Mods [] w w') => show PresentE w l ab e (.returned (.tuple #[.bool (presR l ab e), .int .i64 (chkE l)])) w' from ⟨rfl, M⟩)
  clear hv M0 B0 hab
  by_cases h : chkE l = 0
  · have hl := chk_len h
    have HW := Lib.hid (show presR l ab e = presB l ab e from if_pos h)
    rw [h, HW.out] at HR
    rw [h] at HC
    clear h
    go_enter Tryz.func49, Tryz.ntmps49
    go_wp2_with fail
    refine HC.out.mono ?_
    rintro en w1 ⟨rfl, M1⟩
    have HM1 := Lib.hid (HM.out.trans M1)
    have e0 := (HB.out.mods0 M1).c0
    have e1 := (HB.out.mods0 M1).c1
    have HWI := Lib.hid (presentIn_ok w1 l (by omega) _ (HV.out.mods0 ascOk HM1.out) _ ab (HAB.out.mods0 entOk HM1.out) e)
    clear M1
    go_wp2_with fail
    refine HWI.out.mono ?_
    rintro en w2 ⟨rfl, M2⟩
    have HM2 := Lib.hid (HM1.out.trans M2)
    clear M2
    go_wp2_with fail
    go_ret2
    exact HR.out _ HM2.out
  · have HW := Lib.hid (show presR l ab e = false from if_neg h)
    rw [HW.out] at HR
    generalize chkE l = c at HC HR h
    have hd : (c != 0) = true := by simpa using h
    clear h
    go_enter Tryz.func49, Tryz.ntmps49
    go_wp2_with fail
    refine HC.out.mono ?_
    rintro en w1 ⟨rfl, M1⟩
    have HM1 := Lib.hid (HM.out.trans M1)
    clear M1
    go_wp2_with fail
    go_ret2
    exact HR.out _ HM1.out
theorem pres_none {l : List Asc} {ab : List Ent} {e : Ent} {A : List Ent} (h : Arnd l e A) {k : Nat} (hk : k < (e :: A).length) (hm : (e :: A).getD k default ∈ ab) : presB l ab e = false := by
  cases hp : presB l ab e with
  | false => rfl
  | true =>
    have := (pres_arnd h).1 hp ((e :: A).getD k default) (by rw [List.getD_eq_getElem?_getD, List.getElem?_eq_getElem hk]; exact List.getElem_mem hk)
    exact absurd hm this
theorem pres_all {l : List Asc} {ab : List Ent} {e : Ent} {A : List Ent} (h : Arnd l e A) (hm : ∀ k, k < (e :: A).length → (e :: A).getD k default ∉ ab) : presB l ab e = true := by
  refine (pres_arnd h).2 fun x hx => ?_
  obtain ⟨k, hk, rfl⟩ := List.mem_iff_getElem.1 hx
  have := hm k hk
  rwa [List.getD_eq_getElem?_getD, List.getElem?_eq_getElem hk] at this
set_option maxRecDepth 100000 in
set_option maxHeartbeats 2000000 in
theorem there_ok (w : World) (l : List Asc) (hl : l.length ≤ 1000) (hc : cycB l = false) (v : Value) (hv : RdE ascE w v l) (vab : Value) (ab : List Ent) (hab : RdE entE w vab ab) (e : Ent) :
    Calls Tryz.prog 104 #[v, vab, .agg e.cells.toArray] w fun en w' => en = .returned (.bool (presB l ab e)) ∧ Mods [] w w' := by
  obtain ⟨ad, cap, rfl⟩ := hv.len
  obtain ⟨ad2, cap2, rfl⟩ := hab.len
  have M0 := (Mods.refl (S := []) (w := w)).alloc (.cells e.cells.toArray 31)
  have B0 := EntBox.new w e
  have HAB := Lib.hid hab
  have HM := Lib.hid M0
  have e0 := B0.c0
  have e1 := B0.c1
  have HA := Lib.hid (refAround_ok _ l hl hc e _ (hv.mods0 ascOk M0))
  clear hv M0 B0 hab hc
  go_enter Tryz.func104, Tryz.ntmps104
  go_wp2_with fail
  refine HA.out.mono ?_
  rintro en w1 ⟨u, A, rfl, OA, hA, M1⟩
  have HM1 := Lib.hid (HM.out.trans M1)
  have HRD := Lib.hid (OA.rd entOk)
  have HAR := Lib.hid hA
  obtain ⟨ad3, cap3, rfl⟩ := HRD.out.len
  have hcap := HRD.out.bound
  have hpos : 0 < (e :: A).length := by simp
  clear M1 OA hA e0 e1
  obtain ⟨N, hN⟩ : ∃ N, N = (e :: A).length := ⟨_, rfl⟩
  have HN := Lib.hid hN
  have HRN := Lib.hid (show RdE entE w1 (.slice ad3 N cap3) (e :: A) by rw [hN]; exact HRD.out)
  rw [← hN] at hcap hpos ⊢
  clear hN HRD
  go_wp2_with fail
  go_loopw [8] (fun i wr => ∃ k : Nat, k ≤ N ∧ i = .int .i64 k ∧ Mods [] w1 wr ∧ Hid (∀ j, j < k → (e :: A).getD j default ∉ ab)) (fun i _ => N - (intOf i).toNat)
  case atStart => exact ⟨0, Nat.zero_le _, rfl, Mods.refl, fun j hj => by omega⟩
  case round =>
    obtain ⟨k, hk, rfl, M, hNO⟩ := hrel
    have i0 : (0 : Int) ≤ (k : Int) := by omega
    have HMW := Lib.hid (HM1.out.trans M)
    have HM := Lib.hid M
    by_cases hlt : k < N
    · have i1 : (k : Int) < (N : Int) := by omega
      obtain ⟨bb, off, cap, hv2, _, _, hc⟩ := (HRN.out.mods0 entOk M).ent (by rw [← HN.out]; omega)
      injection hv2 with hv3 hlen hv4
      subst hv3 hv4
      clear hlen
      obtain ⟨y0, y1⟩ := hc k (by rw [← HN.out]; exact hlt)
      obtain ⟨x, hx⟩ : ∃ x, x = (e :: A).getD k default := ⟨_, rfl⟩
      rw [← hx] at y0 y1
      have HX := Lib.hid hx
      have HHS := Lib.hid (refHas_ok wr ab x _ (HAB.out.mods0 entOk HMW.out))
      obtain ⟨r, hr⟩ : ∃ r, r = decide (x ∈ ab) := ⟨_, rfl⟩
      rw [← hr] at HHS
      have HRR := Lib.hid hr
      clear hc hx hr M
      go_wp2_with fail
      refine HHS.out.mono ?_
      rintro en w2 ⟨rfl, M2⟩
      have HM2 := Lib.hid (HM.out.trans M2)
      clear M2
      cases r with
      | true =>
        have HP := Lib.hid (pres_none HAR.out (k := k) (by rw [← HN.out]; exact hlt) (by rw [← HX.out]; exact of_decide_eq_true HRR.out.symm))
        go_wp2_with fail
        go_ret
        exact ⟨ret_bool HP.out.symm, HM1.out.trans HM2.out⟩
      | false =>
        have HNO := Lib.hid (show ∀ j, j < k + 1 → (e :: A).getD j default ∉ ab from fun j hj => by
          rcases Nat.lt_or_ge j k with h | h
          · exact hNO.out j h
          · obtain rfl : j = k := by omega
            rw [← HX.out]
            exact of_decide_eq_false HRR.out.symm)
        go_wp2_with fail
        go_roundw
        case rel => exact ⟨k + 1, by omega, by go_num, HM2.out, HNO⟩
        case measure => simp [intOf]; omega
    · have i1 : ¬ (k : Int) < (N : Int) := by omega
      have hk2 : k = N := by omega
      have HP := Lib.hid (pres_all HAR.out (fun j hj => hNO.out j (by rw [hk2, HN.out]; exact hj)))
      clear M hk2
      go_wp2_with fail
      go_ret
      exact ⟨ret_bool HP.out.symm, HMW.out⟩
set_option maxHeartbeats 1000000 in
theorem refPresentE_ok (w : World) (l : List Asc) (v : Value) (hv : RdE ascE w v l) (vab : Value) (ab : List Ent) (hab : RdE entE w vab ab) (e : Ent) :
    Calls Tryz.prog 75 #[v, vab, .agg e.cells.toArray] w fun en w' => PresentE w l ab e en w' := by
  obtain ⟨ad, cap, rfl⟩ := hv.len
  obtain ⟨ad2, cap2, rfl⟩ := hab.len
  have M0 := (Mods.refl (S := []) (w := w)).alloc (.cells e.cells.toArray 31)
  have B0 := EntBox.new w e
  have HV := Lib.hid hv
  have HAB := Lib.hid hab
  have HM := Lib.hid M0
  have HB := Lib.hid B0
  have HC := Lib.hid (refCheck_ok _ l _ (hv.mods0 ascOk M0))
  have HR := Lib.hid (fun (w' : World) (M : Mods [] w w') => show PresentE w l ab e (.returned (.tuple #[.bool (presR l ab e), .int .i64 (chkE l)])) w' from ⟨rfl, M⟩)
  clear hv M0 B0 hab
  by_cases h : chkE l = 0
  · have hl := chk_len h
    have HCY := Lib.hid (chk_parts h).2
    have HW := Lib.hid (show presR l ab e = presB l ab e from if_pos h)
    rw [h, HW.out] at HR
    rw [h] at HC
    clear h
    go_enter Tryz.func75, Tryz.ntmps75
    go_wp2_with fail
    refine HC.out.mono ?_
    rintro en w1 ⟨rfl, M1⟩
    have HM1 := Lib.hid (HM.out.trans M1)
    have e0 := (HB.out.mods0 M1).c0
    have e1 := (HB.out.mods0 M1).c1
    have HWI := Lib.hid (there_ok w1 l (by omega) HCY.out _ (HV.out.mods0 ascOk HM1.out) _ ab (HAB.out.mods0 entOk HM1.out) e)
    clear M1
    go_wp2_with fail
    refine HWI.out.mono ?_
    rintro en w2 ⟨rfl, M2⟩
    have HM2 := Lib.hid (HM1.out.trans M2)
    clear M2
    go_wp2_with fail
    go_ret2
    exact HR.out _ HM2.out
  · have HW := Lib.hid (show presR l ab e = false from if_neg h)
    rw [HW.out] at HR
    generalize chkE l = c at HC HR h
    have hd : (c != 0) = true := by simpa using h
    clear h
    go_enter Tryz.func75, Tryz.ntmps75
    go_wp2_with fail
    refine HC.out.mono ?_
    rintro en w1 ⟨rfl, M1⟩
    have HM1 := Lib.hid (HM.out.trans M1)
    clear M1
    go_wp2_with fail
    go_ret2
    exact HR.out _ HM1.out
end Go.Proofs.YtijjkonephjodaaGreatDoor

namespace Go.Proofs.YtijjkonephjodaaGreatDoor
open Go.RowKit

theorem ent_neq' (e x : Ent) (w : World) : (binOp .neq 31 (.agg #[.int .u8 ((e.id.val : Nat) : Int), .int .u8 ((e.inst.val : Nat) : Int)]) (.agg #[.int .u8 ((x.id.val : Nat) : Int), .int .u8 ((x.inst.val : Nat) : Int)])).run Tryz.prog w = .ok (.bool (!decide (e = x))) w := by
  have h := ent_eq' e x w
  rw [run_eql_struct] at h
  rw [run_neq_struct]
  revert h
  generalize (Op.equalIn 10000 31 (.agg #[.int .u8 ((e.id.val : Nat) : Int), .int .u8 ((e.inst.val : Nat) : Int)]) (.agg #[.int .u8 ((x.id.val : Nat) : Int), .int .u8 ((x.inst.val : Nat) : Int)])).run Tryz.prog w = r
  intro h
  cases r with
  | ok b w' =>
    simp only [Result.andThen_ok, Result.ok.injEq, Value.bool.injEq] at h ⊢
    obtain ⟨rfl, rfl⟩ := h
    exact ⟨rfl, rfl⟩
  | halt x w' => simp [Result.andThen] at h
def inR (l : List Asc) (e : Ent) (k : Nat) : List Ent := e :: ((l.take k).map (·.inn)).filter fun x => decide (x ≠ e) && abv l x e
theorem inR_succ {l : List Asc} {e : Ent} {k : Nat} (h : k < l.length) : inR l e (k + 1) = if (decide ((l.getD k default).inn ≠ e) && abv l (l.getD k default).inn e) = true then inR l e k ++ [(l.getD k default).inn] else inR l e k := by
  unfold inR
  rw [take_inn h, List.filter_append]
  generalize (l.getD k default).inn = y
  generalize hb : (decide (y ≠ e) && abv l y e) = b
  have : [y].filter (fun x => decide (x ≠ e) && abv l x e) = if b = true then [y] else [] := by
    rw [List.filter_cons, hb]
    rfl
  rw [this]
  cases b <;> simp
theorem inR_all {l : List Asc} {e : Ent} (hc : cycB l = false) : inR l e l.length = withinL l e := by unfold inR; rw [List.take_length, within_ref hc]
theorem inR_len (l : List Asc) (e : Ent) (k : Nat) : (inR l e k).length ≤ l.length + 1 := by
  unfold inR
  rw [List.length_cons]
  have := List.length_filter_le (fun x => decide (x ≠ e) && abv l x e) ((l.take k).map (·.inn))
  rw [List.length_map, List.length_take] at this
  omega
def isF (AL : List Ent) (k : Nat) : List Ent := (AL.take k).foldl (fun o a => insE a o) []
theorem isF_len (AL : List Ent) (k : Nat) : (isF AL k).length ≤ AL.length := by
  unfold isF
  have := (isort_gen (AL.take k) [] (by simp [srtE])).1.length_eq
  rw [List.append_nil, List.length_take] at this
  omega
theorem isF_succ {AL : List Ent} {k : Nat} (h : k < AL.length) : isF AL (k + 1) = insE (AL.getD k default) (isF AL k) := foldl_take_succ _ _ _ _ h _
theorem isF_all (AL : List Ent) : isF AL AL.length = isortE AL := by unfold isF isortE; rw [List.take_length]
def inQ (a : Ent) (O : List Ent) (j : Nat) : List Ent × Bool := (O.take j).foldl (insF a) ([], false)
theorem inQ_succ {a : Ent} {O : List Ent} {j : Nat} (h : j < O.length) : inQ a O (j + 1) = insF a (inQ a O j) (O.getD j default) := foldl_take_succ _ _ _ _ h _
theorem inQ_len (a : Ent) (O : List Ent) (j : Nat) : (inQ a O j).1.length ≤ 2 * O.length := by
  unfold inQ
  have := insF_len a (O.take j) ([], false)
  rw [List.length_take] at this
  simp at this
  omega
theorem inQ_all (a : Ent) (O : List Ent) : (if (inQ a O O.length).2 = true then (inQ a O O.length).1 else (inQ a O O.length).1 ++ [a]) = insE a O := by
  unfold inQ
  rw [List.take_length]
  have := insF_false a O []
  rwa [List.nil_append] at this
def InRel (wq : World) (a : Ent) (O : List Ent) (nx dn : Value) (wx : World) (j : Nat) : Prop := dn = .bool (inQ a O j).2 ∧ OwnE entE wx wq.heap.size nx (inQ a O j).1 ∧ Mods [] wq wx
def WrRel (w : World) (l : List Asc) (e : Ent) (u : Value) (wr : World) (k : Nat) : Prop := OwnE entE wr (w.heap.size + 1) u (inR l e k) ∧ EntBox wr w.heap.size e ∧ Mods [] w wr
set_option maxRecDepth 100000 in
set_option maxHeartbeats 8000000 in
theorem refWithinE_ok (w : World) (l : List Asc) (v : Value) (hv : RdE ascE w v l) (e : Ent) :
    Calls Tryz.prog 144 #[v, .agg e.cells.toArray] w fun en w' => WithinE w l e en w' := by
  obtain ⟨ad, cap, rfl⟩ := hv.len
  have M0 := (Mods.refl (S := []) (w := w)).alloc (.cells e.cells.toArray 31)
  have B0 := EntBox.new w e
  have HV := Lib.hid hv
  have HM := Lib.hid M0
  have HB := Lib.hid B0
  have HC := Lib.hid (refCheck_ok _ l _ (hv.mods0 ascOk M0))
  have HR := Lib.hid (fun (u : Value) (w' : World) (h1 : RdE entE w' u (wthR l e)) (M : Mods [] w w') => show WithinE w l e (.returned (.tuple #[u, .int .i64 (chkE l)])) w' from ⟨u, rfl, h1, M⟩)
  clear hv M0 B0
  by_cases h : chkE l = 0
  · have hl := chk_len h
    have HW := Lib.hid (show wthR l e = wthL l e from if_pos h)
    have HCY := Lib.hid (chk_parts h).2
    rw [h] at HC HR
    clear h
    go_enter Tryz.func144, Tryz.ntmps144
    go_wp2_with fail
    refine HC.out.mono ?_
    rintro en w1 ⟨rfl, M1⟩
    have HM1 := Lib.hid (HM.out.trans M1)
    have HB1 := Lib.hid (HB.out.mods0 M1)
    have e0 := HB1.out.c0
    have e1 := HB1.out.c1
    have hz1 : w.heap.size < w1.heap.size := HB1.out.lt
    have HST : Hid (WrRel w l e (.slice (some ⟨w1.heap.size, 0, none⟩) 1 1) (w1.alloc (.cells #[.int .u8 ((e.id.val : Nat) : Int), .int .u8 ((e.inst.val : Nat) : Int)] 31)) 0) := Lib.hid ⟨OwnE.lit entOk w1 (B := w.heap.size + 1) hz1 [e] (by unfold maxLen; simp), HB1.out.mods0 (Mods.refl.alloc _), HM1.out.alloc _⟩
    clear M1 HC HB
    go_wp2_with fail
    clear e0 e1
    generalize w1.alloc (.cells #[.int .u8 ((e.id.val : Nat) : Int), .int .u8 ((e.inst.val : Nat) : Int)] 31) = w2 at HST ⊢
    clear HB1 HM1 HM
    go_loopw [7, 8] (fun u i wr => ∃ k : Nat, k ≤ l.length ∧ i = .int .i64 k ∧ WrRel w l e u wr k) (fun _ i _ => l.length - (intOf i).toNat)
    case atStart => exact ⟨0, Nat.zero_le _, rfl, HST.out⟩
    clear HST
    case round =>
      obtain ⟨k, hk, rfl, hO, hB, hM⟩ := hrel
      have i0 : (0 : Int) ≤ (k : Int) := by omega
      have HO := Lib.hid hO
      have HB := Lib.hid hB
      have HM := Lib.hid hM
      obtain ⟨gu, cpu, hu, -, -, -, -⟩ := hO.form (by unfold inR; simp)
      subst hu
      have hzw : w.heap.size < wr.heap.size := hB.lt
      by_cases hlt : k < l.length
      · have i1 : (k : Int) < (l.length : Int) := by omega
        obtain ⟨bb, off, cap, hv2, _, _, hc⟩ := (HV.out.mods0 ascOk HM.out).asc (by omega)
        injection hv2 with hv3 hv5 hv4
        subst hv3 hv4
        clear hv5
        obtain ⟨-, -, y2, y3⟩ := hc k hlt
        have HIS := Lib.hid (inR_succ (e := e) hlt)
        obtain ⟨x, hx⟩ : ∃ x, x = (l.getD k default).inn := ⟨_, rfl⟩
        rw [← hx] at y2 y3 HIS
        have hE := fun w => ent_neq' x e w
        obtain ⟨r0, hr0⟩ : ∃ r, r = decide (x = e) := ⟨_, rfl⟩
        rw [← hr0] at hE
        have HR0 := Lib.hid hr0
        have HCC := Lib.hid (show ∀ W, Mods [] wr W → W.cell? ⟨bb, off + k * 4 + 2, none⟩ = some (.int .u8 ((x.id.val : Nat) : Int)) ∧ W.cell? ⟨bb, off + k * 4 + 3, none⟩ = some (.int .u8 ((x.inst.val : Nat) : Int)) from fun W MW => ⟨MW.cell y2 (by simp), MW.cell y3 (by simp)⟩)
        have b0 := hB.c0
        have b1 := hB.c1
        clear hc hx hr0 hO hM hB
        cases r0 with
        | true =>
          have HIE := Lib.hid (HIS.out.trans (if_neg (by rw [of_decide_eq_true HR0.out.symm]; simp)))
          go_wp2_with fail
          go_quiet (fail)
          go_wp2_with fail
          go_roundw
          case rel => exact ⟨k + 1, by omega, by go_num, by rw [HIE.out]; exact HO.out.mods0 (Mods.refl.drewN nq), HB.out.mods0 (Mods.refl.drewN nq), HM.out.drewN nq⟩
          case measure => simp [intOf]; omega
        | false =>
          clear y2 y3 b0 b1
          go_wp2_with fail
          refine heldStart (S := fun W => Mods [] wr W) 18 rfl (by kernel_rfl) Mods.refl.drew (fun hHeld => ?_)
          refine takeD (i := 0) (d := 27) (v := ?_) rfl rfl (by kernel_rfl) (by kernel_rfl) (by kernel_rfl) (fun _ _ _ h => h) (Or.inl ⟨by rfl, ?_⟩) hHeld ?_
          rotate_left 1
          · (intro w hSw; (try dsimp only at hSw); go_simp; (try with_reducible rfl))
          simp only [List.setIfInBounds_toArray, List.set_cons_zero, List.set_cons_succ]
          refine takeD (i := 1) (d := 28) (v := ?_) rfl rfl (by kernel_rfl) (by kernel_rfl) (by kernel_rfl) (fun _ _ _ h => h) (Or.inl ⟨by rfl, ?_⟩) hHeld ?_
          rotate_left 1
          · (intro w hSw; (try dsimp only at hSw); go_simp; (try with_reducible rfl))
          simp only [List.setIfInBounds_toArray, List.set_cons_zero, List.set_cons_succ]
          refine takeD (i := 2) (d := 29) (v := ?_) rfl rfl (by kernel_rfl) (by kernel_rfl) (by kernel_rfl) (fun _ _ _ h => h) (Or.inl ⟨by rfl, ?_⟩) hHeld ?_
          rotate_left 1
          · (intro w hSw; (try dsimp only at hSw); go_simp; (try with_reducible rfl))
          simp only [List.setIfInBounds_toArray, List.set_cons_zero, List.set_cons_succ]
          refine takeD (i := 3) (d := 30) (v := ?_) rfl rfl (by kernel_rfl) (by kernel_rfl) (by kernel_rfl) (fun _ _ _ h => h) (Or.inl ⟨by rfl, ?_⟩) hHeld ?_
          rotate_left 1
          · (intro w hSw; (try dsimp only at hSw); go_simp; (try with_reducible rfl))
          simp only [List.setIfInBounds_toArray, List.set_cons_zero, List.set_cons_succ]
          refine takeD (i := 4) (d := 31) (v := .agg #[.int .u8 ((x.id.val : Nat) : Int), .int .u8 ((x.inst.val : Nat) : Int)]) rfl rfl (by kernel_rfl) (by kernel_rfl) (by kernel_rfl) (fun _ _ _ h => h) (Or.inl ⟨by rfl, fun w hSw => ?_⟩) hHeld ?_
          · have ⟨c2, c3⟩ := HCC.out _ hSw
            go_simp
          simp only [List.setIfInBounds_toArray, List.set_cons_zero, List.set_cons_succ]
          refine takeD (i := 5) (d := 32) (v := .agg #[.int .u8 ((e.id.val : Nat) : Int), .int .u8 ((e.inst.val : Nat) : Int)]) rfl rfl (by kernel_rfl) (by kernel_rfl) (by kernel_rfl) (fun _ _ _ h => h) (Or.inl ⟨by rfl, fun w hSw => ?_⟩) hHeld ?_
          · have c2 := (HB.out.mods0 hSw).c0
            have c3 := (HB.out.mods0 hSw).c1
            go_simp
          simp only [List.setIfInBounds_toArray, List.set_cons_zero, List.set_cons_succ]
          refine takeD (i := 6) (d := 33) (v := ?_) rfl rfl (by kernel_rfl) (by kernel_rfl) (by kernel_rfl) (fun _ _ _ h => h) (Or.inl ⟨by rfl, ?_⟩) hHeld ?_
          rotate_left 1
          · (intro w hSw; (try dsimp only at hSw); go_simp; (try with_reducible rfl))
          simp only [List.setIfInBounds_toArray, List.set_cons_zero, List.set_cons_succ]
          refine takeD (i := 7) (d := 34) (v := ?_) rfl rfl (by kernel_rfl) (by kernel_rfl) (by kernel_rfl) (fun _ _ _ h => h) (Or.inl ⟨by rfl, ?_⟩) hHeld ?_
          rotate_left 1
          · (intro w hSw; (try dsimp only at hSw); go_simp; (try with_reducible rfl))
          simp only [List.setIfInBounds_toArray, List.set_cons_zero, List.set_cons_succ]
          refine takeD (i := 8) (d := 35) (v := ?_) rfl rfl (by kernel_rfl) (by kernel_rfl) (by kernel_rfl) (fun _ _ _ h => h) (Or.inl ⟨by rfl, ?_⟩) hHeld ?_
          rotate_left 1
          · (intro w hSw; (try dsimp only at hSw); go_simp; (try with_reducible rfl))
          simp only [List.setIfInBounds_toArray, List.set_cons_zero, List.set_cons_succ]
          refine takeD (i := 9) (d := 36) (v := ?_) rfl rfl (by kernel_rfl) (by kernel_rfl) (by kernel_rfl) (fun _ _ _ h => h) (Or.inl ⟨by rfl, ?_⟩) hHeld ?_
          rotate_left 1
          · (intro w hSw; (try dsimp only at hSw); go_simp; (try with_reducible rfl))
          simp only [List.setIfInBounds_toArray, List.set_cons_zero, List.set_cons_succ]
          refine takeD (i := 10) (d := 37) (v := ?_) rfl rfl (by kernel_rfl) (by kernel_rfl) (by kernel_rfl) (fun _ _ _ h => h) (Or.inl ⟨by rfl, ?_⟩) hHeld ?_
          rotate_left 1
          · (intro w hSw; (try dsimp only at hSw); go_simp; (try with_reducible rfl))
          simp only [List.setIfInBounds_toArray, List.set_cons_zero, List.set_cons_succ]
          refine takeD (i := 11) (d := 38) (v := ?_) rfl rfl (by kernel_rfl) (by kernel_rfl) (by kernel_rfl) (fun _ _ _ h => h) (Or.inl ⟨by rfl, ?_⟩) hHeld ?_
          rotate_left 1
          · (intro w hSw; (try dsimp only at hSw); go_simp; (try with_reducible rfl))
          simp only [List.setIfInBounds_toArray, List.set_cons_zero, List.set_cons_succ]
          refine takeD (i := 12) (d := 39) (v := ?_) rfl rfl (by kernel_rfl) (by kernel_rfl) (by kernel_rfl) (fun _ _ _ h => h) (Or.inl ⟨by rfl, ?_⟩) hHeld ?_
          rotate_left 1
          · (intro w hSw; (try dsimp only at hSw); go_simp; (try with_reducible rfl))
          simp only [List.setIfInBounds_toArray, List.set_cons_zero, List.set_cons_succ]
          refine takeD (i := 13) (d := 40) (v := .agg #[.int .u8 ((x.id.val : Nat) : Int), .int .u8 ((x.inst.val : Nat) : Int)]) rfl rfl (by kernel_rfl) (by kernel_rfl) (by kernel_rfl) (fun _ _ _ h => h) (Or.inl ⟨by rfl, fun w hSw => ?_⟩) hHeld ?_
          · have ⟨c2, c3⟩ := HCC.out _ hSw
            go_simp
          simp only [List.setIfInBounds_toArray, List.set_cons_zero, List.set_cons_succ]
          refine takeD (i := 15) (d := 42) (v := .agg #[.int .u8 ((e.id.val : Nat) : Int), .int .u8 ((e.inst.val : Nat) : Int)]) rfl rfl (by kernel_rfl) (by kernel_rfl) (by kernel_rfl) (fun _ _ _ h => h) (Or.inl ⟨by rfl, fun w hSw => ?_⟩) hHeld ?_
          · have c2 := (HB.out.mods0 hSw).c0
            have c3 := (HB.out.mods0 hSw).c1
            go_simp
          simp only [List.setIfInBounds_toArray, List.set_cons_zero, List.set_cons_succ]
          have HAR := Lib.hid (refAround_ok wr.drew l (by omega) HCY.out x _ (HV.out.mods0 ascOk (HM.out.trans hHeld)))
          refine wpAnyH_ready (rs := [14]) (by kernel_rfl) (by simp) ?_
          refine AllReadyH.cons rfl (fun K hK => ?_) AllReadyH.nil
          go_simp
          go_wp2_with (refine HAR.out.mono ?_; rintro en w4 ⟨va, A, rfl, OA, HA, M4⟩)
          refine hK.out _ _ ?_ (fun hHeld => ?_)
          · exact (show Mods [] wr wr.drew from Mods.refl.drew).trans M4
          clear hK K
          have HHS := Lib.hid (refHas_ok w4 (x :: A) e va (OA.rd entOk))
          obtain ⟨r, hr⟩ : ∃ r, r = decide (e ∈ x :: A) := ⟨_, rfl⟩
          rw [← hr] at HHS
          have HRR := Lib.hid (show (decide (x ≠ e) && abv l x e) = r by
            rw [hr, ← HA.ab e]
            have hne := of_decide_eq_false HR0.out.symm
            have hne2 : e ≠ x := fun h => hne h.symm
            simp [hne, hne2])
          clear hr OA HA HAR M4
          have HM4 := Lib.hid hHeld
          refine wpAnyH_ready (rs := [16]) (by kernel_rfl) (by simp) ?_
          refine AllReadyH.cons rfl (fun K hK => ?_) AllReadyH.nil
          go_simp
          go_wp2_with (refine HHS.out.mono ?_; rintro en w5 ⟨rfl, M5⟩)
          refine hK.out _ _ ?_ (fun hHeld => ?_)
          · exact HM4.out.trans M5
          clear hK K
          refine takeD (i := 17) (d := 44) (v := ?_) rfl rfl (by kernel_rfl) (by kernel_rfl) (by kernel_rfl) (fun _ _ _ h => h) (Or.inl ⟨by rfl, ?_⟩) hHeld ?_
          rotate_left 1
          · (intro w hSw; (try dsimp only at hSw); go_simp; (try with_reducible rfl))
          simp only [List.setIfInBounds_toArray, List.set_cons_zero, List.set_cons_succ]
          refine wpAnyH_done (by kernel_rfl) ?_ _
          have HM5 := Lib.hid (show Mods [] wr w5 from hHeld)
          clear HM4 hHeld HHS
          rw [HRR.out] at HIS
          cases r with
          | false =>
            have HIE := Lib.hid (HIS.out.trans (if_neg (by simp)))
            go_wp2_with fail
            go_roundw
            case rel => exact ⟨k + 1, by omega, by go_num, by rw [HIE.out]; exact HO.out.mods0 HM5.out, HB.out.mods0 HM5.out, HM.out.trans HM5.out⟩
            case measure => simp [intOf]; omega
          | true =>
            have HIE := Lib.hid (HIS.out.trans (if_pos rfl))
            have ⟨c2, c3⟩ := HCC.out _ HM5.out
            have HLEN := Lib.hid (inR_len l e k)
            have hz5 : w.heap.size + 1 ≤ w5.heap.size := Nat.le_trans hzw HM5.out.size
            have MA := (Mods.refl (S := []) (w := w5)).alloc (.cells x.cells.toArray 31)
            have HAP := Lib.hid (show OwnE entE (w5.alloc (.cells x.cells.toArray 31)) (w.heap.size + 1) _ _ ∧ RdE entE (w5.alloc (.cells x.cells.toArray 31)) (.slice (some ⟨w5.heap.size, 0, none⟩) 1 1) [x] ∧ Mods [] w (w5.alloc (.cells x.cells.toArray 31)) ∧ EntBox (w5.alloc (.cells x.cells.toArray 31)) w.heap.size e from ⟨(HO.out.mods0 HM5.out).mods0 MA, RdE.one (a := x) (heap_alloc_new w5 _) rfl, (HM.out.trans HM5.out).trans MA, (HB.out.mods0 HM5.out).mods0 MA⟩)
            have HSZ := Lib.hid hz5
            clear MA
            go_wp2_with (at_builtin; refine wpList_appE entOk (by rfl) (.tmp 45) (.tmp 51) rfl (by rfl) HAP.out.1 (by rfl) HAP.out.2.1 (by have := HLEN.out; simp; omega) (by have := HSZ.out; simp; omega) ?_; intro VB WB OB MB; have HST := Lib.hid (show WrRel w l e VB WB (k + 1) from ⟨by rw [HIE.out]; exact OB, HAP.out.2.2.2.mods MB (fun hm => by have := HAP.out.1.back hm; omega), HAP.out.2.2.1.comp MB (fun q hq => .inr (by have := HAP.out.1.back hq; omega))⟩); clear OB MB)
            go_roundw
            case rel => exact ⟨k + 1, by omega, by go_num, HST.out⟩
            case measure => simp [intOf]; omega
      · have i1 : ¬ (k : Int) < (l.length : Int) := by omega
        have hk2 : k = l.length := by omega
        obtain ⟨AL, hAL⟩ : ∃ AL, AL = inR l e k := ⟨_, rfl⟩
        have HALW := Lib.hid (show AL = withinL l e by rw [hAL, hk2, inR_all HCY.out])
        have HLEN := Lib.hid (show AL.length ≤ 33 by rw [hAL]; have := inR_len l e k; omega)
        have HRA := Lib.hid (show RdE entE wr (.slice (some ⟨gu, 0, none⟩) AL.length cpu) AL by rw [hAL]; exact HO.out.rd entOk)
        rw [← hAL]
        have hNle := HLEN.out
        clear hAL hk2 hO hB hM HO HB
        obtain ⟨N, hN⟩ : ∃ N, N = AL.length := ⟨_, rfl⟩
        have HN := Lib.hid hN
        rw [← hN] at HRA hNle ⊢
        clear hN
        go_wp2_with fail
        have HRR := Lib.hid (fun (W : World) (h : Mods [] wr W) (i : Nat) (hi : i < N) => show W.cell? ⟨gu, i * 2, none⟩ = some (.int .u8 (((AL.getD i default).id.val : Nat) : Int)) ∧ W.cell? ⟨gu, i * 2 + 1, none⟩ = some (.int .u8 (((AL.getD i default).inst.val : Nat) : Int)) from by
          have hR2 := HRA.out
          rw [HN.out] at hR2
          obtain ⟨bb, off, cap, hv2, _, _, hc⟩ := (hR2.mods0 entOk h).ent (by rw [← HN.out]; omega)
          injection hv2 with hv3 _ _
          injection hv3 with hv3
          injection hv3 with hv3 hv4
          subst hv3 hv4
          have := hc i (by rw [← HN.out]; exact hi)
          rwa [Nat.zero_add] at this)
        clear i1 hlt i0 hk hzw
        generalize wr = w3 at HM HRA HRR ⊢
        go_loopw [9, 10] (fun u i wq => ∃ k : Nat, k ≤ N ∧ i = .int .i64 k ∧ RdE entE wq u (isF AL k) ∧ Mods [] w3 wq) (fun _ i _ => N - (intOf i).toNat)
        case atStart => exact ⟨0, Nat.zero_le _, rfl, RdE.nil _ _, Mods.refl⟩
        case round =>
          obtain ⟨i, hi, rfl, hU, hM⟩ := hrel
          have n0 : (0 : Int) ≤ (i : Int) := by omega
          have HMR := Lib.hid hM
          by_cases hlt : i < N
          · have n1 : (i : Int) < (N : Int) := by omega
            obtain ⟨O, hO⟩ : ∃ O, O = isF AL i := ⟨_, rfl⟩
            rw [← hO] at hU
            have HOE := Lib.hid hO
            have hOL : O.length ≤ 33 := by rw [hO]; have := isF_len AL i; rw [← HN.out] at this; omega
            obtain ⟨au, cu, hu⟩ := hU.len
            subst hu
            have HU := Lib.hid hU
            have HA := Lib.hid (fun W (h : Mods [] wr W) => HRR.out W (HMR.out.trans h) i hlt)
            have HSU := Lib.hid (isF_succ (AL := AL) (k := i) (by rw [← HN.out]; exact hlt))
            obtain ⟨a, ha⟩ : ∃ a, a = AL.getD i default := ⟨_, rfl⟩
            rw [← ha] at HA HSU
            rw [← hO] at HSU
            clear hU hM hO ha
            go_wp2_with fail
            generalize wr = wq at HMR HU HA ⊢
            go_loopw [11, 12, 13] (fun nx dn j wx => ∃ j0 : Nat, j0 ≤ O.length ∧ j = .int .i64 j0 ∧ InRel wq a O nx dn wx j0) (fun _ _ j _ => O.length - (intOf j).toNat)
            case atStart => exact ⟨0, Nat.zero_le _, rfl, rfl, OwnE.nil _ _ _, Mods.refl⟩
            case round =>
              obtain ⟨j, hj, rfl, rfl, hX, hM⟩ := hrel
              have j0 : (0 : Int) ≤ (j : Int) := by omega
              have HX := Lib.hid hX
              have HM := Lib.hid hM
              have HQL := Lib.hid (inQ_len a O j)
              obtain ⟨ax, cx, hx⟩ := (hX.rd entOk).len
              have hzq : wq.heap.size ≤ wr.heap.size := hM.size
              have HZ := Lib.hid hzq
              clear hX hM hzq
              by_cases hjl : j < O.length
              · have j1 : (j : Int) < (O.length : Int) := by omega
                have HQS := Lib.hid (inQ_succ (a := a) hjl)
                obtain ⟨bu, ou, cu', hv2, _, _, hc⟩ := (HU.out).ent (by omega)
                injection hv2 with hv3 hv5 hv4
                subst hv3 hv4
                clear hv5
                have HB := Lib.hid (fun W (h : Mods [] wq W) => show W.cell? ⟨bu, ou + j * 2, none⟩ = some (.int .u8 (((O.getD j default).id.val : Nat) : Int)) ∧ W.cell? ⟨bu, ou + j * 2 + 1, none⟩ = some (.int .u8 (((O.getD j default).inst.val : Nat) : Int)) from ⟨h.cell (hc j hjl).1 (by simp), h.cell (hc j hjl).2 (by simp)⟩)
                obtain ⟨b, hb⟩ : ∃ b, b = O.getD j default := ⟨_, rfl⟩
                rw [← hb] at HB HQS
                clear hc hb
                obtain ⟨ql, qd, hq⟩ : ∃ ql qd, inQ a O j = (ql, qd) := ⟨_, _, rfl⟩
                rw [hq] at HX HQL HQS hx ⊢
                clear hq
                simp only at HX HQL HQS hx ⊢
                subst hx
                cases qd with
                | true =>
                  have HQE := Lib.hid (show inQ a O (j + 1) = (ql ++ [b], true) by rw [HQS.out]; simp [insF])
                  have HAP : Hid (∀ W, Mods [] wr W → OwnE entE (W.alloc (.cells b.cells.toArray 31)) wq.heap.size _ ql ∧ RdE entE (W.alloc (.cells b.cells.toArray 31)) (.slice (some ⟨W.heap.size, 0, none⟩) 1 1) [b] ∧ Mods [] wq (W.alloc (.cells b.cells.toArray 31)) ∧ wq.heap.size ≤ W.heap.size) := Lib.hid (fun W MW => by
                    have MA := (Mods.refl (S := []) (w := W)).alloc (.cells b.cells.toArray 31)
                    exact ⟨(HX.out.mods0 MW).mods0 MA, RdE.one (a := b) (heap_alloc_new W _) rfl, (HM.out.trans MW).trans MA, Nat.le_trans HZ.out MW.size⟩)
                  go_wp2_with fail
                  go_quiet (fail)
                  have HMQ := Lib.hid ((Mods.refl (S := []) (w := wr)).drewN nq)
                  generalize wr.drewN nq = w4 at HMQ ⊢
                  have ⟨c2, c3⟩ := HB.out _ (HM.out.trans HMQ.out)
                  have HP := Lib.hid (HAP.out _ HMQ.out)
                  go_wp2_with (at_builtin; refine wpList_appE entOk (by rfl) (.tmp 85) (.tmp 90) rfl (by rfl) HP.out.1 (by rfl) HP.out.2.1 (by have := HQL.out; simp; omega) (by have := HP.out.2.2.2; simp; omega) ?_; intro VB WB OB MB; have HST := Lib.hid (show InRel wq a O VB (.bool true) WB (j + 1) from ⟨by rw [HQE.out], by rw [HQE.out]; exact OB, HP.out.2.2.1.comp MB (fun q hq => .inr (HP.out.1.back hq))⟩); clear OB MB)
                  go_roundw
                  case rel => exact ⟨j + 1, by omega, by go_num, HST.out⟩
                  case measure => simp [intOf]; omega
                | false =>
                  go_wp2_with fail
                  refine heldStart (S := fun W => Mods [] wr W) 13 rfl (by kernel_rfl) Mods.refl.drew (fun hHeld => ?_)
                  refine takeD (i := 0) (d := 65) (v := ?_) rfl rfl (by kernel_rfl) (by kernel_rfl) (by kernel_rfl) (fun _ _ _ h => h) (Or.inl ⟨by rfl, ?_⟩) hHeld ?_
                  rotate_left 1
                  · (intro w hSw; (try dsimp only at hSw); go_simp; (try with_reducible rfl))
                  simp only [List.setIfInBounds_toArray, List.set_cons_zero, List.set_cons_succ]
                  refine takeD (i := 1) (d := 66) (v := ?_) rfl rfl (by kernel_rfl) (by kernel_rfl) (by kernel_rfl) (fun _ _ _ h => h) (Or.inl ⟨by rfl, ?_⟩) hHeld ?_
                  rotate_left 1
                  · (intro w hSw; (try dsimp only at hSw); go_simp; (try with_reducible rfl))
                  simp only [List.setIfInBounds_toArray, List.set_cons_zero, List.set_cons_succ]
                  refine takeD (i := 2) (d := 67) (v := ?_) rfl rfl (by kernel_rfl) (by kernel_rfl) (by kernel_rfl) (fun _ _ _ h => h) (Or.inl ⟨by rfl, ?_⟩) hHeld ?_
                  rotate_left 1
                  · (intro w hSw; (try dsimp only at hSw); go_simp; (try with_reducible rfl))
                  simp only [List.setIfInBounds_toArray, List.set_cons_zero, List.set_cons_succ]
                  refine takeD (i := 3) (d := 68) (v := ?_) rfl rfl (by kernel_rfl) (by kernel_rfl) (by kernel_rfl) (fun _ _ _ h => h) (Or.inl ⟨by rfl, ?_⟩) hHeld ?_
                  rotate_left 1
                  · (intro w hSw; (try dsimp only at hSw); go_simp; (try with_reducible rfl))
                  simp only [List.setIfInBounds_toArray, List.set_cons_zero, List.set_cons_succ]
                  refine takeD (i := 4) (d := 69) (v := ?_) rfl rfl (by kernel_rfl) (by kernel_rfl) (by kernel_rfl) (fun _ _ _ h => h) (Or.inl ⟨by rfl, ?_⟩) hHeld ?_
                  rotate_left 1
                  · (intro w hSw; (try dsimp only at hSw); go_simp; (try with_reducible rfl))
                  simp only [List.setIfInBounds_toArray, List.set_cons_zero, List.set_cons_succ]
                  refine takeD (i := 5) (d := 70) (v := ?_) rfl rfl (by kernel_rfl) (by kernel_rfl) (by kernel_rfl) (fun _ _ _ h => h) (Or.inl ⟨by rfl, ?_⟩) hHeld ?_
                  rotate_left 1
                  · (intro w hSw; (try dsimp only at hSw); go_simp; (try with_reducible rfl))
                  simp only [List.setIfInBounds_toArray, List.set_cons_zero, List.set_cons_succ]
                  refine takeD (i := 6) (d := 71) (v := .agg #[.int .u8 ((a.id.val : Nat) : Int), .int .u8 ((a.inst.val : Nat) : Int)]) rfl rfl (by kernel_rfl) (by kernel_rfl) (by kernel_rfl) (fun _ _ _ h => h) (Or.inl ⟨by rfl, fun w hSw => ?_⟩) hHeld ?_
                  · have ⟨c2, c3⟩ := HA.out _ (HM.out.trans hSw)
                    go_simp
                  simp only [List.setIfInBounds_toArray, List.set_cons_zero, List.set_cons_succ]
                  refine takeD (i := 7) (d := 72) (v := ?_) rfl rfl (by kernel_rfl) (by kernel_rfl) (by kernel_rfl) (fun _ _ _ h => h) (Or.inl ⟨by rfl, ?_⟩) hHeld ?_
                  rotate_left 1
                  · (intro w hSw; (try dsimp only at hSw); go_simp; (try with_reducible rfl))
                  simp only [List.setIfInBounds_toArray, List.set_cons_zero, List.set_cons_succ]
                  refine takeD (i := 8) (d := 73) (v := ?_) rfl rfl (by kernel_rfl) (by kernel_rfl) (by kernel_rfl) (fun _ _ _ h => h) (Or.inl ⟨by rfl, ?_⟩) hHeld ?_
                  rotate_left 1
                  · (intro w hSw; (try dsimp only at hSw); go_simp; (try with_reducible rfl))
                  simp only [List.setIfInBounds_toArray, List.set_cons_zero, List.set_cons_succ]
                  refine takeD (i := 9) (d := 74) (v := ?_) rfl rfl (by kernel_rfl) (by kernel_rfl) (by kernel_rfl) (fun _ _ _ h => h) (Or.inl ⟨by rfl, ?_⟩) hHeld ?_
                  rotate_left 1
                  · (intro w hSw; (try dsimp only at hSw); go_simp; (try with_reducible rfl))
                  simp only [List.setIfInBounds_toArray, List.set_cons_zero, List.set_cons_succ]
                  refine takeD (i := 10) (d := 75) (v := .agg #[.int .u8 ((b.id.val : Nat) : Int), .int .u8 ((b.inst.val : Nat) : Int)]) rfl rfl (by kernel_rfl) (by kernel_rfl) (by kernel_rfl) (fun _ _ _ h => h) (Or.inl ⟨by rfl, fun w hSw => ?_⟩) hHeld ?_
                  · have ⟨c2, c3⟩ := HB.out _ (HM.out.trans hSw)
                    go_simp
                  simp only [List.setIfInBounds_toArray, List.set_cons_zero, List.set_cons_succ]
                  have HLS := Lib.hid (entLess_ok wr.drew a b)
                  obtain ⟨r, hr⟩ : ∃ r, r = decide (ltE a b) := ⟨_, rfl⟩
                  rw [← hr] at HLS
                  have HRD := Lib.hid hr
                  clear hr
                  refine wpAnyH_ready (rs := [11]) (by kernel_rfl) (by simp) ?_
                  refine AllReadyH.cons rfl (fun K hK => ?_) AllReadyH.nil
                  go_simp
                  go_wp2_with (refine HLS.out.mono ?_; rintro en w4 ⟨rfl, M4⟩)
                  refine hK.out _ _ ?_ (fun hHeld => ?_)
                  · exact (show Mods [] wr wr.drew from Mods.refl.drew).trans M4
                  clear hK K
                  clear M4 HLS
                  refine takeD (i := 12) (d := 77) (v := ?_) rfl rfl (by kernel_rfl) (by kernel_rfl) (by kernel_rfl) (fun _ _ _ h => h) (Or.inl ⟨by rfl, ?_⟩) hHeld ?_
                  rotate_left 1
                  · (intro w hSw; (try dsimp only at hSw); go_simp; (try with_reducible rfl))
                  simp only [List.setIfInBounds_toArray, List.set_cons_zero, List.set_cons_succ]
                  refine wpAnyH_done (by kernel_rfl) ?_ _
                  have HMQ := Lib.hid (show Mods [] wr w4 from hHeld)
                  clear hHeld
                  have HOQ := Lib.hid (HX.out.mods0 HMQ.out)
                  have HMW := Lib.hid (HM.out.trans HMQ.out)
                  have hz4 : wq.heap.size ≤ w4.heap.size := HMW.out.size
                  have HZ4 := Lib.hid hz4
                  clear hz4
                  cases r with
                  | true =>
                    have HQE := Lib.hid (show inQ a O (j + 1) = (ql ++ [a] ++ [b], true) by rw [HQS.out]; simp [insF, of_decide_eq_true HRD.out.symm])
                    have HAP : Hid (∀ (W : World) (c : Ent) (u : Value) (L : List Ent), OwnE entE W wq.heap.size u L → Mods [] wq W → OwnE entE (W.alloc (.cells c.cells.toArray 31)) wq.heap.size u L ∧ RdE entE (W.alloc (.cells c.cells.toArray 31)) (.slice (some ⟨W.heap.size, 0, none⟩) 1 1) [c] ∧ Mods [] wq (W.alloc (.cells c.cells.toArray 31)) ∧ wq.heap.size ≤ W.heap.size) := Lib.hid (fun W c u L hO hM => by
                      have MA := (Mods.refl (S := []) (w := W)).alloc (.cells c.cells.toArray 31)
                      exact ⟨hO.mods0 MA, RdE.one (a := c) (heap_alloc_new W _) rfl, hM.trans MA, hM.size⟩)
                    have ⟨c2, c3⟩ := HA.out _ HMW.out
                    have HP := Lib.hid (HAP.out w4 a _ _ HOQ.out HMW.out)
                    go_wp2_with (first
                      | (at_builtin; refine wpList_appE entOk (by rfl) (.tmp 78) (.tmp 83) rfl (by rfl) HP.out.1 (by rfl) HP.out.2.1 (by have := HQL.out; simp; omega) (by have := HP.out.2.2.2; simp; omega) ?_; intro VB WB OB MB; have HMB := Lib.hid (HP.out.2.2.1.comp MB (fun q hq => .inr (HP.out.1.back hq))); have ⟨d2, d3⟩ := HB.out _ HMB.out; have HPB := Lib.hid (HAP.out WB b _ _ OB HMB.out); clear OB MB)
                      | (at_builtin; refine wpList_appE entOk (by rfl) (.tmp 85) (.tmp 90) rfl (by rfl) HPB.out.1 (by rfl) HPB.out.2.1 (by have := HQL.out; simp; omega) (by have := HPB.out.2.2.2; simp; omega) ?_; intro VC WC OC MC; have HST := Lib.hid (show InRel wq a O VC (.bool true) WC (j + 1) from ⟨by rw [HQE.out], by rw [HQE.out]; exact OC, HPB.out.2.2.1.comp MC (fun q hq => .inr (HPB.out.1.back hq))⟩); clear OC MC))
                    go_roundw
                    case rel => exact ⟨j + 1, by omega, by go_num, HST.out⟩
                    case measure => simp [intOf]; omega
                  | false =>
                    have HQE := Lib.hid (show inQ a O (j + 1) = (ql ++ [b], false) by rw [HQS.out]; simp [insF, of_decide_eq_false HRD.out.symm])
                    have HP : Hid (OwnE entE (w4.alloc (.cells b.cells.toArray 31)) wq.heap.size _ ql ∧ RdE entE (w4.alloc (.cells b.cells.toArray 31)) (.slice (some ⟨w4.heap.size, 0, none⟩) 1 1) [b] ∧ Mods [] wq (w4.alloc (.cells b.cells.toArray 31)) ∧ wq.heap.size ≤ w4.heap.size) := Lib.hid (by
                      have MA := (Mods.refl (S := []) (w := w4)).alloc (.cells b.cells.toArray 31)
                      exact ⟨HOQ.out.mods0 MA, RdE.one (a := b) (heap_alloc_new w4 _) rfl, HMW.out.trans MA, HZ4.out⟩)
                    have ⟨c2, c3⟩ := HB.out _ HMW.out
                    go_wp2_with (at_builtin; refine wpList_appE entOk (by rfl) (.tmp 85) (.tmp 90) rfl (by rfl) HP.out.1 (by rfl) HP.out.2.1 (by have := HQL.out; simp; omega) (by have := HP.out.2.2.2; simp; omega) ?_; intro VB WB OB MB; have HST := Lib.hid (show InRel wq a O VB (.bool false) WB (j + 1) from ⟨by rw [HQE.out], by rw [HQE.out]; exact OB, HP.out.2.2.1.comp MB (fun q hq => .inr (HP.out.1.back hq))⟩); clear OB MB)
                    go_roundw
                    case rel => exact ⟨j + 1, by omega, by go_num, HST.out⟩
                    case measure => simp [intOf]; omega
              · have j1 : ¬ (j : Int) < (O.length : Int) := by omega
                have hjk : j = O.length := by omega
                have HQA := Lib.hid (inQ_all a O)
                subst hjk
                obtain ⟨ql, qd, hq⟩ : ∃ ql qd, inQ a O O.length = (ql, qd) := ⟨_, _, rfl⟩
                rw [hq] at HX HQL HQA hx ⊢
                clear hq
                simp only at HX HQL HQA hx ⊢
                subst hx
                cases qd with
                | true =>
                  have HQE := Lib.hid (show isF AL (i + 1) = ql by rw [HSU.out, ← HQA.out, if_pos rfl])
                  go_wp2_with fail
                  go_roundw
                  case rel => exact ⟨i + 1, by omega, by go_num, by rw [HQE.out]; exact HX.out.rd entOk, HMR.out.trans HM.out⟩
                  case measure => simp [intOf]; omega
                | false =>
                  have HQE := Lib.hid (show isF AL (i + 1) = ql ++ [a] by rw [HSU.out, ← HQA.out, if_neg (by simp)])
                  have HP : Hid (OwnE entE (wr.alloc (.cells a.cells.toArray 31)) wq.heap.size _ ql ∧ RdE entE (wr.alloc (.cells a.cells.toArray 31)) (.slice (some ⟨wr.heap.size, 0, none⟩) 1 1) [a] ∧ Mods [] wq (wr.alloc (.cells a.cells.toArray 31)) ∧ wq.heap.size ≤ wr.heap.size) := Lib.hid (by
                    have MA := (Mods.refl (S := []) (w := wr)).alloc (.cells a.cells.toArray 31)
                    exact ⟨HX.out.mods0 MA, RdE.one (a := a) (heap_alloc_new wr _) rfl, HM.out.trans MA, HZ.out⟩)
                  have ⟨c2, c3⟩ := HA.out _ HM.out
                  go_wp2_with (at_builtin; refine wpList_appE entOk (by rfl) (.tmp 94) (.tmp 99) rfl (by rfl) HP.out.1 (by rfl) HP.out.2.1 (by have := HQL.out; simp; omega) (by have := HP.out.2.2.2; simp; omega) ?_; intro VB WB OB MB; have HST := Lib.hid (show RdE entE WB VB (isF AL (i + 1)) ∧ Mods [] w3 WB from ⟨by rw [HQE.out]; exact OB.rd entOk, HMR.out.trans (HP.out.2.2.1.comp MB (fun q hq => .inr (HP.out.1.back hq)))⟩); clear OB MB)
                  go_roundw
                  case rel => exact ⟨i + 1, by omega, by go_num, HST.out⟩
                  case measure => simp [intOf]; omega
          · have n1 : ¬ (i : Int) < (N : Int) := by omega
            have hin : i = N := by omega
            have HF := Lib.hid (show isF AL i = wthL l e by rw [hin, HN.out, isF_all, HALW.out]; rfl)
            have HU := Lib.hid hU
            clear hU hM hin
            go_wp2_with fail
            go_ret2
            exact HR.out _ _ (by rw [HW.out, ← HF.out]; exact HU.out) (HM.out.trans HMR.out)
  · have HW := Lib.hid (show wthR l e = [] from if_neg h)
    generalize chkE l = c at HC HR h
    have hd : (c != 0) = true := by simpa using h
    clear h
    go_enter Tryz.func144, Tryz.ntmps144
    go_wp2_with fail
    refine HC.out.mono ?_
    rintro en w1 ⟨rfl, M1⟩
    have HM1 := Lib.hid (HM.out.trans M1)
    clear M1
    go_wp2_with fail
    go_ret2
    exact HR.out _ _ (by rw [HW.out]; exact RdE.nil _ _) HM1.out
end Go.Proofs.YtijjkonephjodaaGreatDoor
