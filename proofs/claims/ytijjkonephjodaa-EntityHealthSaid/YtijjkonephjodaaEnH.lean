/- Joined texts. law15's awake and has: contracts. | What the laws of entities share: plain laws, an append to nil beside a new block. -/
import Derived.Test.YtijjkonephjodaaEnG
namespace Go.Proofs.Ytijjkonephjodaa
open Go.RowKit

theorem RdE.blk {α : Type} {E : Elt α} {P : Program} (hk : E.Ok P) {w : World} {g n : Nat} {cs : Array Value} {T : TypeId} {fr : Nat × Nat} {l : List α} (hg : w.heap[g]? = some (.cells cs T fr)) (hcs : cs.toList = cellsE E l) (hn : l.length = n) (hm : n ≤ 1000000) : RdE E w (.slice (some ⟨g, 0, none⟩) n n) l := by
  subst hn
  refine ⟨some ⟨g, 0, none⟩, l.length, rfl, Nat.le_refl _, by unfold maxLen; omega, fun i hi => ⟨g, 0, rfl, fun j hj => ?_⟩⟩
  rw [cell_blk hg, Nat.zero_add, ← cellsE_get hk.len l i hi j hj, ← hcs]
  simp
set_option maxRecDepth 100000 in
set_option maxHeartbeats 2000000 in
theorem lawHas_ok (w : World) (l : List Ent) (e : Ent) (v : Value) (hv : RdE entE w v l) :
    Calls Try.prog 35 #[v, .agg e.cells.toArray] w fun en w' => en = .returned (.bool (decide (e ∈ l))) ∧ Mods [] w w' := by
  obtain ⟨ad, cap, rfl⟩ := hv.len
  have hcap := hv.bound
  have M0 := ((Mods.refl (S := []) (w := w)).alloc (.cells e.cells.toArray 23))
  have B0 := EntBox.new w e
  have HV := Lib.hid hv
  obtain ⟨K, hK⟩ : ∃ K, K = l.findIdx fun x => decide (x = e) := ⟨_, rfl⟩
  have hKl : K ≤ l.length := hK ▸ List.findIdx_le_length
  have HB := Lib.hid (fun j (hj : j < K) => show decide (l.getD j default = e) = false from by
    have hj2 : j < l.length := by omega
    have := List.not_of_lt_findIdx (p := fun x : Ent => decide (x = e)) (xs := l) (i := j) (by rw [hK] at hj; exact hj)
    rw [List.getD_eq_getElem?_getD, List.getElem?_eq_getElem hj2]
    simpa using this)
  have HA := Lib.hid (fun (h : K < l.length) => show decide (l.getD K default = e) = true from by
    have := List.findIdx_getElem (p := fun x : Ent => decide (x = e)) (xs := l) (w := by rw [hK] at h; exact h)
    rw [List.getD_eq_getElem?_getD, List.getElem?_eq_getElem h]
    subst hK
    exact this)
  have HI := Lib.hid (show decide (e ∈ l) = decide (K < l.length) by
    rw [hK, Bool.eq_iff_iff, decide_eq_true_eq, decide_eq_true_eq, List.findIdx_lt_length]
    simp)
  generalize decide (e ∈ l) = V at HI ⊢
  clear hv hK
  go_enter Try.func35, Try.ntmps35
  go_wp2_with fail
  generalize (w.alloc (.cells e.cells.toArray 23)) = w2 at B0 M0 ⊢
  generalize w.heap.size = g0 at B0 ⊢
  go_loopw [5] (fun i wr => ∃ k : Nat, k ≤ K ∧ i = .int .i64 k ∧ Mods [] w2 wr) (fun i _ => K - (intOf i).toNat)
  case atStart => exact ⟨0, Nat.zero_le _, rfl, Mods.refl⟩
  case round =>
    obtain ⟨k, hk, rfl, M⟩ := hrel
    have i0 : (0 : Int) ≤ (k : Int) := by omega
    have BR := B0.mods0 M
    have HM := Lib.hid (M0.trans M)
    have HM2 := Lib.hid M
    have e0 := BR.c0
    have e1 := BR.c1
    clear BR M
    by_cases hlt : k < l.length
    · have i1 : (k : Int) < (l.length : Int) := by omega
      obtain ⟨bb, off, cap, hv2, _, _, hc⟩ := (HV.out.mods0 entOk HM.out).ent (by omega)
      injection hv2 with hv3 _ hv4
      subst hv3 hv4
      obtain ⟨y0, y1⟩ := hc k hlt
      have HBk := Lib.hid (HB.out k)
      have HAk := Lib.hid (fun h : k = K => show decide (l.getD k default = e) = true from by rw [h]; exact HA.out (h ▸ hlt))
      generalize (l.getD k default) = x at y0 y1 HBk HAk
      have hE := fun w => ent_eq' x e w
      generalize decide (x = e) = r at hE HBk HAk
      clear hc
      by_cases hkK : k < K
      · obtain rfl : r = false := HBk.out hkK
        go_wp2_with fail
        go_quiet (fail)
        go_wp2_with fail
        go_roundw
        case rel => exact ⟨k + 1, by omega, by go_num, HM2.out.drewN nq⟩
        case measure => simp [intOf]; omega
      · obtain rfl : k = K := by omega
        obtain rfl : r = true := HAk.out rfl
        have HRES := Lib.hid (show V = true by rw [HI.out, decide_eq_true hlt])
        go_wp2_with fail
        go_quiet (fail)
        go_wp2_with fail
        go_ret
        exact ⟨ret_bool HRES.out.symm, HM.out.drewN nq⟩
    · have i1 : ¬ (k : Int) < (l.length : Int) := by omega
      have HRES := Lib.hid (show V = false by rw [HI.out, decide_eq_false (by omega)])
      go_wp2_with fail
      go_ret
      exact ⟨ret_bool HRES.out.symm, HM.out⟩
def chassisE : Ent := ⟨23, 1⟩
def boardE : Ent := ⟨7, 1⟩
def partE : Ent := ⟨3, 1⟩
def lE : List Asc := [⟨chassisE, boardE⟩, ⟨boardE, partE⟩]
def ownEx : List Cnd := [⟨partE, 3⟩, ⟨chassisE, 1⟩]
theorem lE_chk : chkE lE = 0 := by decide +kernel
theorem lE_wth : wthR lE chassisE = [partE, boardE, chassisE] := by decide +kernel
theorem lE_hlth : hlthR lE [boardE] ownEx chassisE = (1, 0) := by decide +kernel
set_option maxRecDepth 100000 in
set_option maxHeartbeats 4000000 in
theorem awake15_ok (w : World) : Calls Try.prog 26 #[] w fun e w' => e = .returned (.bool true) ∧ Mods [] w w' := by
  have G0 := heap_alloc_new w (.cells #[.int .u8 23, .int .u8 1] 23)
  have M1 := (Mods.refl (S := []) (w := w)).alloc (.cells #[.int .u8 23, .int .u8 1] 23)
  have G1 := heap_alloc_new (w.alloc (.cells #[.int .u8 23, .int .u8 1] 23)) (.cells #[.int .u8 7, .int .u8 1] 23)
  rw [World.size_alloc] at G1
  have M2 := (Mods.refl (S := []) (w := w.alloc (.cells #[.int .u8 23, .int .u8 1] 23))).alloc (.cells #[.int .u8 7, .int .u8 1] 23)
  have G2 := heap_alloc_new ((w.alloc (.cells #[.int .u8 23, .int .u8 1] 23)).alloc (.cells #[.int .u8 7, .int .u8 1] 23)) (.cells #[.int .u8 3, .int .u8 1] 23)
  rw [World.size_alloc, World.size_alloc] at G2
  have M3 := (Mods.refl (S := []) (w := (w.alloc (.cells #[.int .u8 23, .int .u8 1] 23)).alloc (.cells #[.int .u8 7, .int .u8 1] 23))).alloc (.cells #[.int .u8 3, .int .u8 1] 23)
  have G3 := heap_alloc_new (((w.alloc (.cells #[.int .u8 23, .int .u8 1] 23)).alloc (.cells #[.int .u8 7, .int .u8 1] 23)).alloc (.cells #[.int .u8 3, .int .u8 1] 23)) (.cells #[.int .u8 23, .int .u8 1, .int .u8 7, .int .u8 1, .int .u8 7, .int .u8 1, .int .u8 3, .int .u8 1] 61)
  rw [World.size_alloc, World.size_alloc, World.size_alloc] at G3
  have M4 := (Mods.refl (S := []) (w := ((w.alloc (.cells #[.int .u8 23, .int .u8 1] 23)).alloc (.cells #[.int .u8 7, .int .u8 1] 23)).alloc (.cells #[.int .u8 3, .int .u8 1] 23))).alloc (.cells #[.int .u8 23, .int .u8 1, .int .u8 7, .int .u8 1, .int .u8 7, .int .u8 1, .int .u8 3, .int .u8 1] 61)
  have G0 := (M2.trans (M3.trans M4)).heap G0 (by simp)
  have G1 := (M3.trans M4).heap G1 (by simp)
  have G2 := M4.heap G2 (by simp)
  have MM := M1.trans (M2.trans (M3.trans M4))
  clear M1 M2 M3 M4
  go_enter Try.func26, Try.ntmps26
  go_wp2_with fail
  generalize ((((w.alloc (.cells #[.int .u8 23, .int .u8 1] 23)).alloc (.cells #[.int .u8 7, .int .u8 1] 23)).alloc (.cells #[.int .u8 3, .int .u8 1] 23)).alloc (.cells #[.int .u8 23, .int .u8 1, .int .u8 7, .int .u8 1, .int .u8 7, .int .u8 1, .int .u8 3, .int .u8 1] 61)) = w4 at G0 G1 G2 G3 MM ⊢
  generalize w.heap.size + 1 + 1 + 1 = g3 at G3 ⊢
  generalize w.heap.size + 1 + 1 = g2 at G2 ⊢
  generalize w.heap.size + 1 = g1 at G1 ⊢
  generalize w.heap.size = g0 at G0 ⊢
  have HL := Lib.hid (RdE.blk ascOk (l := lE) G3 rfl (n := 2) rfl (by omega))
  have HG : Hid (∀ W, Mods [] w4 W → W.cell? ⟨g0, 0, none⟩ = some (.int .u8 23) ∧ W.cell? ⟨g0, 1, none⟩ = some (.int .u8 1) ∧ W.cell? ⟨g1, 0, none⟩ = some (.int .u8 7) ∧ W.cell? ⟨g1, 1, none⟩ = some (.int .u8 1) ∧ W.cell? ⟨g2, 0, none⟩ = some (.int .u8 3) ∧ W.cell? ⟨g2, 1, none⟩ = some (.int .u8 1)) := Lib.hid (fun W M =>
    ⟨(cell_blk (M.heap G0 (by simp)) 0).trans rfl, (cell_blk (M.heap G0 (by simp)) 1).trans rfl, (cell_blk (M.heap G1 (by simp)) 0).trans rfl, (cell_blk (M.heap G1 (by simp)) 1).trans rfl, (cell_blk (M.heap G2 (by simp)) 0).trans rfl, (cell_blk (M.heap G2 (by simp)) 1).trans rfl⟩)
  have HM := Lib.hid MM
  have HWI : Hid (Calls Try.prog 34 #[.slice (some ⟨g3, 0, none⟩) 2 2, .agg #[.int .u8 23, .int .u8 1]] w4 fun en w' => WithinE w4 lE chassisE en w') := Lib.hid (withinE_ok w4 lE _ HL.out chassisE)
  clear G0 G1 G2 G3 MM
  refine HWI.out.mono ?_
  rintro en w5 ⟨u, rfl, hu, M5⟩
  rw [lE_wth] at hu
  rw [lE_chk]
  have HU := Lib.hid hu
  obtain ⟨au, cu, rfl⟩ := hu.len
  have ⟨a0, a1, a2, a3, a4, a5⟩ := HG.out _ M5
  have HM5 := Lib.hid M5
  have HH : Hid (∀ W, W = (w5.alloc (.cells #[.int .u8 7, .int .u8 1] 23)).alloc (.cells #[.int .u8 3, .int .u8 1, .int .i64 3, .int .u8 23, .int .u8 1, .int .i64 1] 83) →
      Calls Try.prog 41 #[.slice (some ⟨g3, 0, none⟩) 2 2, .slice (some ⟨w5.heap.size, 0, none⟩) 1 1, .slice (some ⟨w5.heap.size + 1, 0, none⟩) 2 2, .agg #[.int .u8 23, .int .u8 1]] W (fun en w' => HealthE W lE [boardE] ownEx chassisE en w') ∧ Mods [] w5 W) := Lib.hid (fun W hW => by
    subst hW
    have N1 := (Mods.refl (S := []) (w := w5)).alloc (.cells #[.int .u8 7, .int .u8 1] 23)
    have N2 := (Mods.refl (S := []) (w := w5.alloc (.cells #[.int .u8 7, .int .u8 1] 23))).alloc (.cells #[.int .u8 3, .int .u8 1, .int .i64 3, .int .u8 23, .int .u8 1, .int .i64 1] 83)
    have K1 := heap_alloc_new w5 (.cells #[.int .u8 7, .int .u8 1] 23)
    have K2 := heap_alloc_new (w5.alloc (.cells #[.int .u8 7, .int .u8 1] 23)) (.cells #[.int .u8 3, .int .u8 1, .int .i64 3, .int .u8 23, .int .u8 1, .int .i64 1] 83)
    rw [World.size_alloc] at K2
    exact ⟨healthE_ok _ lE _ (HL.out.mods0 ascOk (M5.trans (N1.trans N2))) _ [boardE] (RdE.blk entOk (n := 1) (N2.heap K1 (by simp)) rfl rfl (by omega)) _ ownEx (RdE.blk cndOk (n := 2) K2 rfl rfl (by omega)) chassisE, N1.trans N2⟩)
  have l0 : g0 < w5.heap.size := World.block_lt_of_cell? w5 _ a0
  have l1 : g1 < w5.heap.size := World.block_lt_of_cell? w5 _ a2
  have l2 : g2 < w5.heap.size := World.block_lt_of_cell? w5 _ a4
  clear M5 hu HWI
  go_wp2_with fail
  have ⟨H1, H2⟩ := HH.out _ rfl
  have HM6 := Lib.hid (HM5.out.trans H2)
  have HM56 := Lib.hid H2
  have H1 := Lib.hid H1
  clear H2 HH a0 a1 a2 a3 a4 a5 l0 l1 l2
  generalize (w5.alloc (.cells #[.int .u8 7, .int .u8 1] 23)).alloc (.cells #[.int .u8 3, .int .u8 1, .int .i64 3, .int .u8 23, .int .u8 1, .int .i64 1] 83) = w6 at H1 HM6 HM56 ⊢
  refine H1.out.mono ?_
  rintro en w7 ⟨rfl, M7⟩
  rw [lE_hlth]
  have HM7 := Lib.hid (HM6.out.trans M7)
  have ⟨a0, a1, a2, a3, a4, a5⟩ := HG.out _ HM7.out
  have HS : Hid (∀ W, W = w7.alloc (.cells #[.int .u8 3, .int .u8 1, .int .u8 7, .int .u8 1, .int .u8 23, .int .u8 1] 23) →
      Calls Try.prog 43 #[.slice au [partE, boardE, chassisE].length cu, .slice (some ⟨w7.heap.size, 0, none⟩) 3 3] W (fun en w' => en = .returned (.bool true) ∧ Mods [] W w') ∧ Mods [] w7 W) := Lib.hid (fun W hW => by
    subst hW
    have N1 := (Mods.refl (S := []) (w := w7)).alloc (.cells #[.int .u8 3, .int .u8 1, .int .u8 7, .int .u8 1, .int .u8 23, .int .u8 1] 23)
    have K1 := heap_alloc_new w7 (.cells #[.int .u8 3, .int .u8 1, .int .u8 7, .int .u8 1, .int .u8 23, .int .u8 1] 23)
    have := sameEnts_ok _ _ _ [partE, boardE, chassisE] [partE, boardE, chassisE] ((HU.out.mods0 entOk (HM56.out.trans M7)).mods0 entOk N1) (RdE.blk entOk (n := 3) K1 rfl rfl (by omega))
    rw [decide_eq_true rfl] at this
    exact ⟨this, N1⟩)
  clear M7 H1
  go_wp2_with fail
  have ⟨S1, S2⟩ := HS.out _ rfl
  refine S1.mono ?_
  rintro en w8 ⟨rfl, M8⟩
  have HM8 := Lib.hid ((HM.out.trans HM7.out).trans (S2.trans M8))
  clear S1 S2 M8 HS
  go_wp2_with fail
  go_ret
  exact ⟨rfl, HM8.out⟩
end Go.Proofs.Ytijjkonephjodaa

namespace Go.Proofs.Ytijjkonephjodaa
open Go.RowKit

section
variable {P : Program} {ops : Array Oper} {Q : Exit → Act → World → Prop} {S : World → Prop} {md : Region.Mode} {T : TypeId} {α : Type} {E : Elt α}
/-- append(nil, x...) and a new block, in a region that draws its order: in either order. -/
theorem appLitE (hk : E.Ok P) {lst : Array Bool} {iC iA : Nat} {oC oA : Oper} {dC dA : Nat} {z : Array Value} {a : Act} {w : World} {fuel : Nat} {vA : Nat → Value} {s x : Operand} {vx : Value} {X : List α}
    (hC : ops[iC]? = some oC) (hA : ops[iA]? = some oA) (gC : oC.guard = none) (gA : oA.guard = none) (eC : oC.dst = some dC) (eA : oA.dst = some dA) (hd : dC ≠ dA) (hi : iC ≠ iA)
    (ho : oC.op = .call { callee := .builtin .append, args := #[s, x], argTypes := #[E.sl, E.sl] })
    (s0 : a.eval s = .slice none 0 0) (s1 : ∀ u : Value, ({ a with tmps := a.tmps.setIfInBounds dA u } : Act).eval s = .slice none 0 0) (x0 : a.eval x = vx) (x1 : ∀ u : Value, ({ a with tmps := a.tmps.setIfInBounds dA u } : Act).eval x = vx) (hX : RdE E w vx X) (hn : X.length ≤ 1000000)
    (rA0 : ∀ w, (execOp a.eval oA).run P w = .ok (.value (vA w.heap.size)) (w.alloc (.cells z T))) (rA1 : ∀ (u : Value) w, (execOp ({ a with tmps := a.tmps.setIfInBounds dC u } : Act).eval oA).run P w = .ok (.value (vA w.heap.size)) (w.alloc (.cells z T)))
    (t0 : Region.ready md ops lst = [iC, iA]) (t1 : Region.ready md ops (lst.setIfInBounds iC true) = [iA]) (t2 : Region.ready md ops (lst.setIfInBounds iA true) = [iC])
    (hS : ∀ W, Mods [] w W → S W)
    (h : ∀ u g W', OwnE E W' w.heap.size u X → Mods [] w W' → W'.heap[g]? = some (.cells z T (0, 0)) → wpAnyH P md ops Q S fuel ((lst.setIfInBounds iC true).setIfInBounds iA true) { a with tmps := (a.tmps.setIfInBounds dC u).setIfInBounds dA (vA g) } W') :
    wpAnyH P md ops Q S (fuel + 2) lst a w := by
  refine wpAnyH_ready t0 (by simp) (AllReadyH.cons hC (fun K hK => ?_) (AllReadyH.cons hA (fun K hK => ?_) AllReadyH.nil))
  · refine step_appE hk (by simp [Region.wanted, gC]) dC eC s x ho s0 (OwnE.nil E w w.heap.size) x0 hX (by simpa using hn) (Nat.le_refl _) (fun u W1 O1 M1 => ?_)
    have M1 : Mods [] w W1 := M1
    rw [List.nil_append] at O1
    refine hK.out _ _ (hS _ M1) (fun _ => ?_)
    refine wpAnyH_ready t1 (by simp) (AllReadyH.cons hA (fun K' hK' => ?_) AllReadyH.nil)
    refine exec_value gA eA (rA1 _ _) ?_
    have MA := (Mods.refl (S := []) (w := W1)).alloc (.cells z T)
    exact hK'.out _ _ (hS _ (M1.trans MA)) (fun _ => h u _ _ (O1.mods0 MA) (M1.trans MA) (heap_alloc_new W1 _))
  · refine exec_value gA eA (rA0 _) ?_
    have M0 := (Mods.refl (S := []) (w := w)).alloc (.cells z T)
    refine hK.out _ _ (hS _ M0) (fun _ => ?_)
    refine wpAnyH_ready t2 (by simp) (AllReadyH.cons hC (fun K' hK' => ?_) AllReadyH.nil)
    refine step_appE hk (by simp [Region.wanted, gC]) dC eC s x ho (s1 _) (OwnE.nil E _ w.heap.size) (x1 _) (hX.mods0 hk M0) (by simpa using hn) M0.size (fun u W1 O1 M1 => ?_)
    have M1 : Mods [] (w.alloc (.cells z T)) W1 := M1
    rw [List.nil_append] at O1
    refine hK'.out _ _ (hS _ (M0.trans M1)) (fun _ => ?_)
    have := h u w.heap.size W1 O1 (M0.trans M1) (M1.heap (heap_alloc_new w _) (by simp))
    rw [Array.setIfInBounds_comm _ _ hi] at this
    rw [Array.setIfInBounds_comm _ _ hd] at this
    exact this
end
theorem wthR_ok {l : List Asc} (h : chkE l = 0) (e : Ent) : wthR l e = wthL l e := if_pos h
theorem presR_ok {l : List Asc} (h : chkE l = 0) (ab : List Ent) (e : Ent) : presR l ab e = presB l ab e := if_pos h
theorem abs_in {l : List Asc} {ab : List Ent} {x z : Ent} (h : z ∈ wthL l x) : presB l (ab ++ [x]) z = false := by
  cases hp : presB l (ab ++ [x]) z with
  | false => rfl
  | true =>
    have ⟨h1, h2⟩ := presB_iff.1 hp
    rcases mem_wth.1 h with rfl | h3
    · exact absurd (by simp) h1
    · obtain ⟨k, hk⟩ := abv_iff.1 h3
      exact absurd (by simp) (h2 k x hk)
theorem abs_more (l : List Asc) (ab : List Ent) (x y : Ent) : presB l (ab ++ [x]) y = (presB l ab y && !decide (y ∈ wthL l x)) := by
  rw [Bool.eq_iff_iff, Bool.and_eq_true, presB_iff, presB_iff, Bool.not_eq_true', decide_eq_false_iff_not, mem_wth]
  constructor
  · rintro ⟨h1, h2⟩
    refine ⟨⟨fun h => h1 (by simp [h]), fun k z hk h => h2 k z hk (by simp [h])⟩, ?_⟩
    rintro (rfl | h3)
    · exact h1 (by simp)
    · obtain ⟨k, hk⟩ := abv_iff.1 h3
      exact h2 k x hk (by simp)
  · rintro ⟨⟨h1, h2⟩, h3⟩
    refine ⟨fun h => ?_, fun k z hk h => ?_⟩
    · rcases List.mem_append.1 h with h | h
      · exact h1 h
      · exact h3 (.inl (by simpa using h))
    · rcases List.mem_append.1 h with h | h
      · exact h2 k z hk h
      · have : z = x := by simpa using h
        subst this
        exact h3 (.inr (abv_iff.2 ⟨k, hk⟩))
/-- What reads as entities lies in no dice. -/
theorem RdE.dice {W W' : World} {b n : Nat} {v vd : Value} {L : List Int} {l : List Ent} (h : RdE entE W v l) (D : IsDice W b vd L n) (M : Mods [b] W W') : RdE entE W' v l := by
  refine h.mods entOk M (fun hl k hk hm => ?_)
  have hkb : k = b := by simpa using hm
  subst hkb
  obtain ⟨bb, off, cap, rfl, _, _, hc⟩ := h.ent (List.length_pos_iff.2 hl)
  simp [Value.ownBlock] at hk
  subst hk
  have h0 := (hc 0 (List.length_pos_iff.2 hl)).1
  obtain ⟨T, hT⟩ := D.hb
  obtain ⟨ad, cp, rfl⟩ := D.rd.len
  rw [cell_blk hT] at h0
  match off, h0 with
  | 0, h0 => simp at h0
  | 1, h0 => simp at h0
  | o + 2, h0 => simp at h0
theorem getD_mem {α : Type} {l : List α} {k : Nat} {d : α} (h : k < l.length) : l.getD k d ∈ l := by
  rw [List.getD_eq_getElem?_getD, List.getElem?_eq_getElem h]
  exact List.getElem_mem h
end Go.Proofs.Ytijjkonephjodaa
