/- Joined texts. The reference's Parent, slices.Index and Contains of entities: contracts. | What is around an entity: entity.around, the reference's Has, Less and Around: contracts. | The reference's Has, Less and Around: contracts. | The reference's Check of associations: contract. | A map that tells which entities were met. | entity.Check: contract. | Two boxes at the end of a drawn region: 2 allocations, 2 stores. | A drawn region of three calls (a chain), two allocations that stand free among them, and at the end two stores into the boxes: one law for all its orders. -/
import Derived.Test.YtijjkonephjodaaGreatDoorJoAI
import Derived.Deep.QuietTactic
import Derived.BigQuiet
import Derived.Test.YtijjkonephjodaaGreatDoorJoAH
import Derived.Maps.Own
import Derived.Maps.OwnOps
import Derived.Maps.Views
import Derived.DeepKeys4
import Derived.ChangeSame
namespace Go.Proofs.YtijjkonephjodaaGreatDoor
open Go.RowKit

theorem ent_eq' (e x : Ent) (w : World) : (binOp .eql 31 (.agg #[.int .u8 ((e.id.val : Nat) : Int), .int .u8 ((e.inst.val : Nat) : Int)]) (.agg #[.int .u8 ((x.id.val : Nat) : Int), .int .u8 ((x.inst.val : Nat) : Int)])).run Tryz.prog w = .ok (.bool (decide (e = x))) w := ent_eq _ _ _ _ w
set_option maxRecDepth 100000 in
set_option maxHeartbeats 2000000 in
theorem refParent_ok (w : World) (l : List Asc) (e : Ent) (v : Value) (hv : RdE ascE w v l) :
    Calls Tryz.prog 100 #[v, .agg e.cells.toArray] w fun en w' => ParRes w l e en w' := by
  obtain ⟨ad, cap, rfl⟩ := hv.len
  have hcap := hv.bound
  have M0 := ((Mods.refl (S := []) (w := w)).alloc (.cells e.cells.toArray 31)).alloc (.cells #[.int .u8 0, .int .u8 0] 31)
  have B0 := EntBox.mods0 (EntBox.new w e) ((Mods.refl (S := [])).alloc (.cells #[.int .u8 0, .int .u8 0] 31))
  have R0 := heap_alloc_new (w.alloc (.cells e.cells.toArray 31)) (.cells #[.int .u8 0, .int .u8 0] 31)
  rw [World.size_alloc] at R0
  have HV := Lib.hid hv
  have HI := Lib.hid (inIdx_par l e)
  have HR := Lib.hid (fun (en : Ending) (w' : World) (h : en = .returned (.tuple #[.agg (parV l e).cells.toArray, .bool (par l e).isSome]) ∧ Mods [] w w') => show ParRes w l e en w' from h)
  have HPV := Lib.hid (show parV l e = (par l e).getD default from rfl)
  obtain ⟨K, hK⟩ : ∃ K, K = inIdx l e := ⟨_, rfl⟩
  have HB := Lib.hid (fun j (hj : j < K) => show decide ((l.getD j default).inn = e) = false from by
    have hj2 : j < l.length := by have := inIdx_le l e; omega
    have := List.not_of_lt_findIdx (p := fun x : Asc => decide (x.inn = e)) (xs := l) (i := j) (by rw [hK] at hj; exact hj)
    rw [List.getD_eq_getElem?_getD, List.getElem?_eq_getElem hj2]
    simpa using this)
  have HA := Lib.hid (fun (h : K < l.length) => show decide ((l.getD K default).inn = e) = true from by
    have := List.findIdx_getElem (p := fun x : Asc => decide (x.inn = e)) (xs := l) (w := by rw [hK] at h; exact h)
    rw [List.getD_eq_getElem?_getD, List.getElem?_eq_getElem h]
    subst hK
    exact this)
  have hKl : K ≤ l.length := hK ▸ inIdx_le _ _
  rw [← hK] at HI
  generalize par l e = po at HI HPV HR ⊢
  generalize parV l e = pv at HPV HR ⊢
  clear hv hK
  go_enter Tryz.func100, Tryz.ntmps100
  go_wp2_with fail
  generalize ((w.alloc (.cells e.cells.toArray 31)).alloc (.cells #[.int .u8 0, .int .u8 0] 31)) = w2 at B0 R0 M0 ⊢
  have hgs : w.heap.size ≤ w.heap.size + 1 := by omega
  generalize hg1 : w.heap.size + 1 = g at R0 hgs ⊢
  have HG1 := Lib.hid hg1
  clear hg1
  generalize hg0 : w.heap.size = g0 at B0 ⊢
  have HG0 := Lib.hid hg0
  clear hg0
  go_loopw [6] (fun i wr => ∃ k : Nat, k ≤ K ∧ i = .int .i64 k ∧ Mods [] w2 wr) (fun i _ => K - (intOf i).toNat)
  case atStart => exact ⟨0, Nat.zero_le _, rfl, Mods.refl⟩
  case round =>
    obtain ⟨k, hk, rfl, M⟩ := hrel
    have i0 : (0 : Int) ≤ (k : Int) := by omega
    have BR := B0.mods0 M
    have R3 := Lib.hid (M.heap R0 (by simp))
    have HM := Lib.hid (M0.trans M)
    have HM2 := Lib.hid M
    have c0 : wr.cell? ⟨g, 0, none⟩ = some (.int .u8 0) := cell_blk R3.out 0
    have c1 : wr.cell? ⟨g, 1, none⟩ = some (.int .u8 0) := cell_blk R3.out 1
    have ff := fun i => froz_blk R3.out i
    have e0 := BR.c0
    have e1 := BR.c1
    clear BR M
    by_cases hlt : k < l.length
    · have i1 : (k : Int) < (l.length : Int) := by omega
      obtain ⟨bb, off, cap, hv2, _, _, hc⟩ := (HV.out.mods0 ascOk HM.out).asc (by omega)
      injection hv2 with hv3 _ hv4
      subst hv3 hv4
      obtain ⟨y0, y1, y2, y3⟩ := hc k hlt
      have HBk := Lib.hid (HB.out k)
      have HAk := Lib.hid (fun h : k = K => show decide ((l.getD k default).inn = e) = true from by rw [h]; exact HA.out (h ▸ hlt))
      have HPO := Lib.hid (fun h : k = K => show po = some (l.getD k default).out by rw [HI.out, if_pos (by omega), h])
      generalize (l.getD k default) = x at y0 y1 y2 y3 HBk HAk HPO
      have hE := fun w => ent_eq' x.inn e w
      generalize decide (x.inn = e) = r at hE HBk HAk
      clear hc
      by_cases hkK : k < K
      · obtain rfl : r = false := HBk.out hkK
        go_wp2_with fail
        go_quiet (fail)
        go_wp2_with fail
        go_roundw
        case rel => exact ⟨k + 1, by omega, by go_num, HM2.out.drewN nq⟩
        case measure => simp [intOf]; omega
      · have hkK2 : k = K := by omega
        obtain rfl : r = true := HAk.out hkK2
        have hpo := HPO.out hkK2
        subst hpo
        have hpv : pv = x.out := HPV.out
        subst hpv
        clear hkK2 HPV HI HPO
        go_wp2_with fail
        go_quiet (fail)
        go_wp2_with fail
        have ⟨S1, S2⟩ := ent_stored (w := w) (w3 := wr.drewN nq) x.out.id x.out.inst rfl (by have := HG1.out; omega) (show (wr.drewN nq).heap[g]? = _ from R3.out) (HM.out.drewN nq)
        refine bodyPost_ret (results_cell_row2 rfl _ _ g _ _ _ _ rfl S1 Tryz.underlying31 rfl Tryz.sizeEnt) rfl ?_
        exact HR.out _ _ ⟨rfl, S2⟩
    · have i1 : ¬ (k : Int) < (l.length : Int) := by omega
      have hpo : po = none := by rw [HI.out, if_neg (by omega)]
      subst hpo
      have hpv : pv = ⟨0, 0⟩ := HPV.out
      subst hpv
      clear HPV HI
      go_wp2_with fail
      have ⟨S1, S2⟩ := ent_stored (w := w) 0 0 rfl (by have := HG1.out; omega) R3.out HM.out
      refine bodyPost_ret (results_cell_row2 rfl _ _ g _ _ _ _ rfl S1 Tryz.underlying31 rfl Tryz.sizeEnt) rfl ?_
      exact HR.out _ _ ⟨rfl, S2⟩
/-- The place of an entity in a list. -/
def entIdx (l : List Ent) (e : Ent) : Nat := l.findIdx fun x => decide (e = x)
def idxE (l : List Ent) (e : Ent) : Int := if entIdx l e = l.length then (-1 : Int) else ((entIdx l e : Nat) : Int)
theorem idxE_mem (l : List Ent) (e : Ent) : decide (0 ≤ idxE l e) = decide (e ∈ l) := by
  have hle : entIdx l e ≤ l.length := List.findIdx_le_length
  have : entIdx l e < l.length ↔ e ∈ l := by
    unfold entIdx
    rw [List.findIdx_lt_length]
    simp
  unfold idxE
  rw [Bool.eq_iff_iff, decide_eq_true_eq, decide_eq_true_eq, ← this]
  split <;> omega
set_option maxRecDepth 100000 in
set_option maxHeartbeats 2000000 in
theorem entIndex_ok (w : World) (l : List Ent) (e : Ent) (v : Value) (hv : RdE entE w v l) :
    Calls Tryz.prog 115 #[v, .agg e.cells.toArray] w fun en w' => en = .returned (.int .i64 (idxE l e)) ∧ Mods [] w w' := by
  obtain ⟨ad, cap, rfl⟩ := hv.len
  have hcap := hv.bound
  have M0 := ((Mods.refl (S := []) (w := w)).alloc (.cells e.cells.toArray 31))
  have B0 := EntBox.new w e
  have HV := Lib.hid hv
  obtain ⟨K, hK⟩ : ∃ K, K = entIdx l e := ⟨_, rfl⟩
  have hKl : K ≤ l.length := hK ▸ List.findIdx_le_length
  have HB := Lib.hid (fun j (hj : j < K) => show decide (e = l.getD j default) = false from by
    have hj2 : j < l.length := by omega
    have := List.not_of_lt_findIdx (p := fun x : Ent => decide (e = x)) (xs := l) (i := j) (by rw [hK] at hj; exact hj)
    rw [List.getD_eq_getElem?_getD, List.getElem?_eq_getElem hj2]
    simpa using this)
  have HA := Lib.hid (fun (h : K < l.length) => show decide (e = l.getD K default) = true from by
    have := List.findIdx_getElem (p := fun x : Ent => decide (e = x)) (xs := l) (w := by rw [hK] at h; exact h)
    rw [List.getD_eq_getElem?_getD, List.getElem?_eq_getElem h]
    subst hK
    exact this)
  have HI := Lib.hid (show idxE l e = if K = l.length then (-1 : Int) else (K : Int) by unfold idxE; rw [← hK])
  generalize idxE l e = V at HI ⊢
  clear hv hK
  go_enter Tryz.func115, Tryz.ntmps115
  go_wp2_with fail
  generalize (w.alloc (.cells e.cells.toArray 31)) = w2 at B0 M0 ⊢
  generalize w.heap.size = g0 at B0 ⊢
  go_loopw [8] (fun i wr => ∃ k : Nat, k ≤ K ∧ i = .int .i64 k ∧ Mods [] w2 wr) (fun i _ => K - (intOf i).toNat)
  case atStart => exact ⟨0, Nat.zero_le _, rfl, Mods.refl⟩
  case round =>
    obtain ⟨k, hk, rfl, M⟩ := hrel
    have i0 : (0 : Int) ≤ (k : Int) := by omega
    have BR := B0.mods0 M
    have HM := Lib.hid (M0.trans M)
    have HM2 := Lib.hid M
    have e0 := BR.c0
    have e1 := BR.c1
    clear BR M
    by_cases hlt : k < l.length
    · have i1 : (k : Int) < (l.length : Int) := by omega
      obtain ⟨bb, off, cap, hv2, _, _, hc⟩ := (HV.out.mods0 entOk HM.out).ent (by omega)
      injection hv2 with hv3 _ hv4
      subst hv3 hv4
      obtain ⟨y0, y1⟩ := hc k hlt
      have HBk := Lib.hid (HB.out k)
      have HAk := Lib.hid (fun h : k = K => show decide (e = l.getD k default) = true from by rw [h]; exact HA.out (h ▸ hlt))
      generalize (l.getD k default) = x at y0 y1 HBk HAk
      have hE := fun w => ent_eq' e x w
      generalize decide (e = x) = r at hE HBk HAk
      clear hc
      by_cases hkK : k < K
      · obtain rfl : r = false := HBk.out hkK
        go_wp2_with fail
        go_quiet (fail)
        go_wp2_with fail
        go_roundw
        case rel => exact ⟨k + 1, by omega, by go_num, HM2.out.drewN nq⟩
        case measure => simp [intOf]; omega
      · obtain rfl : k = K := by omega
        obtain rfl : r = true := HAk.out rfl
        have HRES := Lib.hid (show V = (k : Int) by rw [HI.out, if_neg (by omega)])
        go_wp2_with fail
        go_quiet (fail)
        go_wp2_with fail
        go_ret
        exact ⟨ret_int HRES.out.symm, HM.out.drewN nq⟩
    · have i1 : ¬ (k : Int) < (l.length : Int) := by omega
      have HRES := Lib.hid (show V = -1 by rw [HI.out, if_pos (by omega)])
      go_wp2_with fail
      go_ret
      exact ⟨ret_int HRES.out.symm, HM.out⟩
set_option maxHeartbeats 400000 in
theorem contains_ok (w : World) (l : List Ent) (e : Ent) (v : Value) (hv : RdE entE w v l) :
    Calls Tryz.prog 81 #[v, .agg e.cells.toArray] w fun en w' => en = .returned (.bool (decide (e ∈ l))) ∧ Mods [] w w' := by
  obtain ⟨ad, cap, rfl⟩ := hv.len
  have M0 := ((Mods.refl (S := []) (w := w)).alloc (.cells e.cells.toArray 31))
  have B0 := EntBox.new w e
  have HM := Lib.hid M0
  have H1 := Lib.hid (entIndex_ok _ l e _ (hv.mods0 entOk M0))
  have HD := Lib.hid (idxE_mem l e)
  have e0 := B0.c0
  have e1 := B0.c1
  clear hv M0 B0
  generalize idxE l e = i at H1 HD
  generalize decide (e ∈ l) = r at HD ⊢
  go_enter Tryz.func81, Tryz.ntmps81
  go_wp2_with fail
  refine H1.out.mono ?_
  rintro en w' ⟨rfl, M⟩
  have HM2 := Lib.hid (HM.out.trans M)
  clear M
  go_wp2_with fail
  go_ret
  exact ⟨ret_bool HD.out, HM2.out⟩
end Go.Proofs.YtijjkonephjodaaGreatDoor

namespace Go.Proofs.YtijjkonephjodaaGreatDoor
open Go.RowKit

theorem freshA {w w' : World} {o : Obj} (M : Mods [w.heap.size] (w.alloc o) w') : Mods [] w w' := (Mods.refl.alloc o).comp M fun k hk => by simp at hk; subst hk; exact .inr (Nat.le_refl _)
theorem Ent.one (e : Ent) : e.cells.toArray.all (·.oneCell') = true := by simp [Ent.cells, Value.oneCell']
def sliceLen : Value → Nat
  | .slice _ n _ => n
  | _ => 0
/-- A list of what is around e, of the call's own. -/
def AroundRes (w : World) (l : List Asc) (e : Ent) (en : Ending) (w' : World) : Prop := ∃ v A, en = .returned v ∧ OwnE entE w' w.heap.size v A ∧ Arnd l e A ∧ Mods [] w w'
structure ArStep (w : World) (l : List Asc) (e : Ent) (v : Value) (wr : World) (m : Nat) : Prop where
  some : (up l e m).isSome = true
  nod : (upL l e m).Nodup
  own : OwnE entE wr (w.heap.size + 1) v (upL l e m)
  box : EntBox wr w.heap.size ((up l e m).getD default)
  M : Mods [] w wr
set_option maxRecDepth 100000 in
set_option maxHeartbeats 4000000 in
theorem around_ok (w : World) (l : List Asc) (hl : l.length ≤ 1000) (e : Ent) (v : Value) (hv : RdE ascE w v l) :
    Calls Tryz.prog 82 #[v, .agg e.cells.toArray] w fun en w' => AroundRes w l e en w' := by
  obtain ⟨ad, cap, rfl⟩ := hv.len
  have HV := Lib.hid hv
  have M0 := (Mods.refl (S := []) (w := w)).alloc (.cells e.cells.toArray 31)
  have HS0 := Lib.hid (show ArStep w l e (.slice none 0 0) (w.alloc (.cells e.cells.toArray 31)) 0 from ⟨rfl, by simp [upL], OwnE.nil _ _ _, EntBox.new w e, M0⟩)
  have HF := Lib.hid (fun (v : Value) (A : List Ent) (w' : World) (O : OwnE entE w' (w.heap.size + 1) v A) (hA : Arnd l e A) (M : Mods [] w w') => show AroundRes w l e (.returned v) w' from ⟨v, A, rfl, O.down (Nat.le_succ _), hA, M⟩)
  clear hv M0
  go_enter Tryz.func82, Tryz.ntmps82
  go_wp2_with fail
  generalize (w.alloc (.cells e.cells.toArray 31)) = w0 at HS0 ⊢
  go_loopw [5] (fun u wr => ∃ m, ArStep w l e u wr m) (fun u _ => l.length + 1 - sliceLen u)
  case atStart => exact ⟨0, HS0.out⟩
  case round =>
    obtain ⟨m, hS⟩ := hrel
    obtain ⟨x, hx⟩ := Option.isSome_iff_exists.1 hS.some
    have hB := hS.box
    rw [hx] at hB
    have hB : EntBox wr w.heap.size x := hB
    obtain ⟨ad2, cap2, hu⟩ := (hS.own.rd entOk).len
    have hsz : w.heap.size + 1 ≤ wr.heap.size := by have := hB.lt; omega
    rw [upL_length] at hu
    subst hu
    have HS := Lib.hid hS
    have HX := Lib.hid hx
    have e0 := hB.c0
    have e1 := hB.c1
    have hml : m ≤ l.length := by have := upL_le hS.some hS.nod; omega
    clear hS hx hB
    go_wp2_with fail
    refine (parent_ok wr l x _ (HV.out.mods0 ascOk HS.out.M)).mono ?_
    rintro en w2 ⟨rfl, M2⟩
    obtain ⟨p, hp⟩ : ∃ p, p = parV l x := ⟨_, rfl⟩
    obtain ⟨ok, hok⟩ : ∃ ok, ok = (par l x).isSome := ⟨_, rfl⟩
    rw [← hp, ← hok]
    have HP := Lib.hid (show par l x = if ok = true then some p else none by
      rw [hok, hp]
      unfold parV
      cases par l x <;> simp)
    have HM2 := Lib.hid (HS.out.M.trans M2)
    have HO2 := Lib.hid (HS.out.own.mods0 M2)
    have HB2 := Lib.hid (HS.out.box.mods0 M2)
    have hz2 : w.heap.size + 1 ≤ w2.heap.size := Nat.le_trans hsz M2.size
    have HZ2 := Lib.hid hz2
    clear hp hok M2 e0 e1 hsz hz2
    cases ok with
    | false =>
      go_wp2_with (refine wpList_store_row (cs := p.cells.toArray) rfl 31 (.tmp 6) (.tmp 12) rfl (heap_alloc_new w2 _) (by rfl) (by rfl) (by rfl) Tryz.sizeEnt (Ent.one p) ?_; intro w3 R3 M3; have HF3 := Lib.hid (freshA M3); have HR3 := Lib.hid (show EntBox w3 w2.heap.size p from R3); have b0 := HR3.out.c0; have b1 := HR3.out.c1; clear R3 M3)
      have HM3 := Lib.hid (HM2.out.trans HF3.out)
      have HO3 := Lib.hid (HO2.out.mods0 HF3.out)
      have HB3 := Lib.hid (HB2.out.mods0 HF3.out)
      have HE := Lib.hid (arnd_end HS.out.some HS.out.nod (fun q hq => by
        have h1 : up l e (m + 1) = (up l e m).bind (par l) := rfl
        rw [h1, HX.out] at hq
        have h2 : par l x = some q := hq
        rw [HP.out] at h2
        cases h2))
      go_wp2_with fail
      go_ret
      exact HF.out _ _ _ HO3.out HE.out HM3.out
    | true =>
      go_wp2_with (refine wpList_store_row (cs := p.cells.toArray) rfl 31 (.tmp 6) (.tmp 12) rfl (heap_alloc_new w2 _) (by rfl) (by rfl) (by rfl) Tryz.sizeEnt (Ent.one p) ?_; intro w3 R3 M3; have HF3 := Lib.hid (freshA M3); have HR3 := Lib.hid (show EntBox w3 w2.heap.size p from R3); have b0 := HR3.out.c0; have b1 := HR3.out.c1; clear R3 M3)
      have HM3 := Lib.hid (HM2.out.trans HF3.out)
      have HO3 := Lib.hid (HO2.out.mods0 HF3.out)
      have HB3 := Lib.hid (HB2.out.mods0 HF3.out)
      have HP1 := Lib.hid (show up l e (m + 1) = some p by
        have h1 : up l e (m + 1) = (up l e m).bind (par l) := rfl
        rw [h1, HX.out]
        exact HP.out)
      have HC := Lib.hid (contains_ok w3 (upL l e m) p _ (HO3.out.rd entOk))
      go_wp2_with fail
      refine HC.out.mono ?_
      by_cases hin : p ∈ upL l e m
      · rw [decide_eq_true hin]
        rintro en w4 ⟨rfl, M4⟩
        have HE := Lib.hid (arnd_end HS.out.some HS.out.nod (fun q hq => by rw [HP1.out] at hq; injection hq with hq; rw [← hq]; exact hin))
        have HM4 := Lib.hid (HM3.out.trans M4)
        have HO4 := Lib.hid (HO3.out.mods0 M4)
        clear M4 hin
        go_wp2_with fail
        go_ret
        exact HF.out _ _ _ HO4.out HE.out HM4.out
      · rw [decide_eq_false hin]
        rintro en w4 ⟨rfl, M4⟩
        have HN := Lib.hid (upL_nodup_snoc HS.out.nod HP1.out hin)
        have HM4 := Lib.hid (HM3.out.trans M4)
        have HO4 := Lib.hid (HO3.out.mods0 M4)
        have HB4 := Lib.hid (HB3.out.mods0 M4)
        have HR4 := Lib.hid (HR3.out.mods0 M4)
        have HZ4 := Lib.hid (show w.heap.size + 1 ≤ w4.heap.size from Nat.le_trans HZ2.out (HF3.out.trans M4).size)
        have HL := Lib.hid (show m < l.length from by have := upL_le (m := m + 1) (by rw [HP1.out]; rfl) HN.out; omega)
        clear M4 hin b0 b1
        go_wp2_with fail
        have hgp : w.heap.size < w2.heap.size := by have := HZ2.out; omega
        have HLT := Lib.hid (fun k hk => (HO2.out.lt k hk).2)
        generalize w2.heap.size = gp at HR4 hgp HLT ⊢
        refine heldStart (S := fun W => EntBox W gp p) 7 rfl (by kernel_rfl) (HR4.out.mods0 Mods.refl.drew) (fun hHeld => ?_)
        refine takeD (i := 0) (d := 22) (v := ?_) rfl rfl (by kernel_rfl) (by kernel_rfl) (by kernel_rfl) (fun _ _ _ h => h) (Or.inl ⟨by rfl, ?_⟩) hHeld ?_
        rotate_left 1
        · (intro w hSw; (try dsimp only at hSw); go_simp; (try with_reducible rfl))
        simp only [List.setIfInBounds_toArray, List.set_cons_zero, List.set_cons_succ]
        refine takeD (i := 1) (d := 23) (v := .agg #[.int .u8 ((p.id.val : Nat) : Int), .int .u8 ((p.inst.val : Nat) : Int)]) rfl rfl (by kernel_rfl) (by kernel_rfl) (by kernel_rfl) (fun _ _ _ h => h) (yieldsIf_load_row rfl 31 (.tmp 6) rfl gp rfl 31 #[.int .u8 ((p.id.val : Nat) : Int), .int .u8 ((p.inst.val : Nat) : Int)] (0, 0) _ (fun _ h=>h) Tryz.underlying31 rfl Tryz.sizeEnt) hHeld ?_
        simp only [List.setIfInBounds_toArray, List.set_cons_zero, List.set_cons_succ]
        refine takeD (i := 4) (d := 26) (v := .agg #[.int .u8 ((p.id.val : Nat) : Int), .int .u8 ((p.inst.val : Nat) : Int)]) rfl rfl (by kernel_rfl) (by kernel_rfl) (by kernel_rfl) (fun _ _ _ h => h) (yieldsIf_load_row rfl 31 (.tmp 6) rfl gp rfl 31 #[.int .u8 ((p.id.val : Nat) : Int), .int .u8 ((p.inst.val : Nat) : Int)] (0, 0) _ (fun _ h=>h) Tryz.underlying31 rfl Tryz.sizeEnt) hHeld ?_
        simp only [List.setIfInBounds_toArray, List.set_cons_zero, List.set_cons_succ]
        have HM5 := Lib.hid (HM4.out.drew)
        have HO5 := Lib.hid (HO4.out.mods0 Mods.refl.drew)
        have HB5 := Lib.hid (HB4.out.mods0 Mods.refl.drew)
        have HZ5 := Lib.hid (show w.heap.size + 1 ≤ w4.drew.heap.size from HZ4.out)
        clear HM4 HO4 HB4 HZ4
        generalize w4.drew = w5 at HM5 HO5 HB5 HZ5 hHeld ⊢
        refine wpAnyH_ready (rs := [2]) (by kernel_rfl) (by simp) ?_
        refine AllReadyH.cons rfl (fun K hK => ?_) AllReadyH.nil
        go_simp
        have MA := (Mods.refl (S := []) (w := w5)).alloc (.cells p.cells.toArray 31)
        refine hK.out _ _ (EntBox.mods0 hHeld MA) (fun hHeld => ?_)
        clear hK K
        refine wpAnyH_ready (rs := [3]) (by kernel_rfl) (by simp) ?_
        refine AllReadyH.cons rfl (fun K hK => ?_) AllReadyH.nil
        refine step_appE entOk (by rfl) 25 rfl (.tmp 22) (.tmp 24) rfl (by rfl) (HO5.out.mods0 MA) (by rfl) (RdE.one (a := p) (heap_alloc_new w5 _) rfl) (by rw [upL_length]; simp; omega) (by have := HZ5.out; simp; omega) (fun VB WB OB MB => ?_)
        have hown : ∀ k ∈ (Value.slice ad2 m cap2).ownBlock.toList, w.heap.size + 1 ≤ k := fun k hk => (HO5.out.lt k (by simpa using hk)).1
        have hownT : gp ∉ (Value.slice ad2 m cap2).ownBlock.toList := fun hk => by
          have := HLT.out gp (by simpa using hk)
          omega
        refine hK.out _ _ (EntBox.mods hHeld MB hownT) (fun hHeld => ?_)
        have HMB := Lib.hid ((HM5.out.trans MA).comp MB (fun k hk => .inr (by have := hown k hk; omega)))
        have HBB := Lib.hid ((HB5.out.mods0 MA).mods MB (fun hk => by have := hown _ hk; omega))
        have HOB := Lib.hid OB
        clear hK K OB MB MA hown hownT HO5 HB5
        simp only [List.setIfInBounds_toArray, List.set_cons_zero, List.set_cons_succ]
        refine takeD (i := 5) (d := 5) (v := ?_) rfl rfl (by kernel_rfl) (by kernel_rfl) (by kernel_rfl) (fun _ _ _ h => h) (Or.inl ⟨by rfl, ?_⟩) hHeld ?_
        rotate_left 1
        · (intro w hSw; (try dsimp only at hSw); go_simp; (try with_reducible rfl))
        simp only [List.setIfInBounds_toArray, List.set_cons_zero, List.set_cons_succ]
        refine wpAnyH_ready (rs := [6]) (by kernel_rfl) (by simp) ?_
        refine AllReadyH.cons rfl (fun K hK => ?_) AllReadyH.nil
        refine exec_store (cs := p.cells.toArray) rfl rfl rfl HBB.out (by rfl) (by rfl) (by rfl) Tryz.sizeEnt (Ent.one p) (fun WC RC MC => ?_)
        refine hK.out _ _ (EntBox.mods hHeld MC (by simp; omega)) (fun hHeld => ?_)
        clear hK K
        have HST := Lib.hid (show ArStep w l e VB WC (m + 1) from ⟨by rw [HP1.out]; rfl, HN.out, by
          have := HOB.out.mods MC (fun k hk hm => by simp at hm; subst hm; have := (HOB.out.lt _ hk).1; omega)
          rw [upL, HP1.out]
          exact this, by rw [HP1.out]; exact RC, HMB.out.comp MC (fun k hk => by simp at hk; subst hk; exact .inr (Nat.le_refl _))⟩)
        obtain ⟨ad3, cap3, hvb⟩ := (HST.out.own.rd entOk).len
        rw [upL_length] at hvb
        subst hvb
        refine wpAnyH_done (by kernel_rfl) ?_ _
        go_wp2_with fail
        go_roundw
        case rel => exact ⟨m + 1, HST.out⟩
        case measure => have := HL.out; simp [sliceLen]; omega
end Go.Proofs.YtijjkonephjodaaGreatDoor

namespace Go.Proofs.YtijjkonephjodaaGreatDoor
open Go.RowKit

set_option maxRecDepth 100000 in
set_option maxHeartbeats 2000000 in
theorem refHas_ok (w : World) (l : List Ent) (e : Ent) (v : Value) (hv : RdE entE w v l) :
    Calls Tryz.prog 137 #[v, .agg e.cells.toArray] w fun en w' => en = .returned (.bool (decide (e ∈ l))) ∧ Mods [] w w' := by
  obtain ⟨ad, cap, rfl⟩ := hv.len
  have hcap := hv.bound
  have M0 := ((Mods.refl (S := []) (w := w)).alloc (.cells e.cells.toArray 31))
  have B0 := EntBox.new w e
  have HV := Lib.hid hv
  obtain ⟨K, hK⟩ : ∃ K, K = l.findIdx fun x => decide (x = e) := ⟨_, rfl⟩
  have hKl : K ≤ l.length := hK ▸ List.findIdx_le_length
  have HB := Lib.hid (fun j (hj : j < K) => show decide (l.getD j default = e) = false from by
    have hj2 : j < l.length := by omega
    have := List.not_of_lt_findIdx (p := fun x : Ent => decide (x = e)) (xs := l) (i := j) (by rw [hK] at hj; exact hj)
    rw [List.getD_eq_getElem?_getD, List.getElem?_eq_getElem hj2]
    simpa using this)
  have HA := Lib.hid (fun (h : K < l.length) => show decide (l.getD K default = e) = true from by
    have := List.findIdx_getElem (p := fun x : Ent => decide (x = e)) (xs := l) (w := by rw [hK] at h; exact h)
    rw [List.getD_eq_getElem?_getD, List.getElem?_eq_getElem h]
    subst hK
    exact this)
  have HI := Lib.hid (show decide (e ∈ l) = decide (K < l.length) by
    rw [hK, Bool.eq_iff_iff, decide_eq_true_eq, decide_eq_true_eq, List.findIdx_lt_length]
    simp)
  generalize decide (e ∈ l) = V at HI ⊢
  clear hv hK
  go_enter Tryz.func137, Tryz.ntmps137
  go_wp2_with fail
  generalize (w.alloc (.cells e.cells.toArray 31)) = w2 at B0 M0 ⊢
  generalize w.heap.size = g0 at B0 ⊢
  go_loopw [5] (fun i wr => ∃ k : Nat, k ≤ K ∧ i = .int .i64 k ∧ Mods [] w2 wr) (fun i _ => K - (intOf i).toNat)
  case atStart => exact ⟨0, Nat.zero_le _, rfl, Mods.refl⟩
  case round =>
    obtain ⟨k, hk, rfl, M⟩ := hrel
    have i0 : (0 : Int) ≤ (k : Int) := by omega
    have BR := B0.mods0 M
    have HM := Lib.hid (M0.trans M)
    have HM2 := Lib.hid M
    have e0 := BR.c0
    have e1 := BR.c1
    clear BR M
    by_cases hlt : k < l.length
    · have i1 : (k : Int) < (l.length : Int) := by omega
      obtain ⟨bb, off, cap, hv2, _, _, hc⟩ := (HV.out.mods0 entOk HM.out).ent (by omega)
      injection hv2 with hv3 _ hv4
      subst hv3 hv4
      obtain ⟨y0, y1⟩ := hc k hlt
      have HBk := Lib.hid (HB.out k)
      have HAk := Lib.hid (fun h : k = K => show decide (l.getD k default = e) = true from by rw [h]; exact HA.out (h ▸ hlt))
      generalize (l.getD k default) = x at y0 y1 HBk HAk
      have hE := fun w => ent_eq' x e w
      generalize decide (x = e) = r at hE HBk HAk
      clear hc
      by_cases hkK : k < K
      · obtain rfl : r = false := HBk.out hkK
        go_wp2_with fail
        go_quiet (fail)
        go_wp2_with fail
        go_roundw
        case rel => exact ⟨k + 1, by omega, by go_num, HM2.out.drewN nq⟩
        case measure => simp [intOf]; omega
      · obtain rfl : k = K := by omega
        obtain rfl : r = true := HAk.out rfl
        have HRES := Lib.hid (show V = true by rw [HI.out, decide_eq_true hlt])
        go_wp2_with fail
        go_quiet (fail)
        go_wp2_with fail
        go_ret
        exact ⟨ret_bool HRES.out.symm, HM.out.drewN nq⟩
    · have i1 : ¬ (k : Int) < (l.length : Int) := by omega
      have HRES := Lib.hid (show V = false by rw [HI.out, decide_eq_false (by omega)])
      go_wp2_with fail
      go_ret
      exact ⟨ret_bool HRES.out.symm, HM.out⟩
set_option maxHeartbeats 1000000 in
theorem entLess_ok (w : World) (a b : Ent) :
    Calls Tryz.prog 157 #[.agg a.cells.toArray, .agg b.cells.toArray] w fun en w' => en = .returned (.bool (decide (ltE a b))) ∧ Mods [] w w' := by
  have M0 := Lib.hid (((Mods.refl (S := []) (w := w)).alloc (.cells a.cells.toArray 31)).alloc (.cells b.cells.toArray 31))
  obtain ⟨⟨a0, ha0⟩, ⟨a1, ha1⟩⟩ := a
  obtain ⟨⟨b0, hb0⟩, ⟨b1, hb1⟩⟩ := b
  have HD := Lib.hid (show decide (ltE ⟨⟨a0, ha0⟩, ⟨a1, ha1⟩⟩ ⟨⟨b0, hb0⟩, ⟨b1, hb1⟩⟩) = decide (a0 < b0 ∨ (a0 = b0 ∧ a1 < b1)) from rfl)
  rw [HD.out]
  simp only [Ent.cells] at M0 ⊢
  clear HD
  go_enter Tryz.func157, Tryz.ntmps157
  by_cases h1 : a0 < b0
  · have d1 : decide ((a0 : Int) < (b0 : Int)) = true := decide_eq_true (by omega)
    go_wp2_with fail
    go_ret
    exact ⟨ret_bool (by simp [h1]), M0.out⟩
  · have d1 : decide ((a0 : Int) < (b0 : Int)) = false := decide_eq_false (by omega)
    by_cases h2 : a0 = b0
    · subst h2
      go_wp2_with fail
      go_ret
      exact ⟨ret_bool (by simp), M0.out⟩
    · have d2 : ((a0 : Int) == (b0 : Int)) = false := by simp; omega
      go_wp2_with fail
      go_ret
      exact ⟨ret_bool (by simp [h1, h2]), M0.out⟩
/-- e and what is around it, of the call's own. -/
def RefAroundRes (w : World) (l : List Asc) (e : Ent) (en : Ending) (w' : World) : Prop := ∃ v A, en = .returned v ∧ OwnE entE w' w.heap.size v (e :: A) ∧ Arnd l e A ∧ Mods [] w w'
structure RaStep (w : World) (l : List Asc) (e : Ent) (v : Value) (wr : World) (m : Nat) : Prop where
  some : (up l e m).isSome = true
  own : OwnE entE wr w.heap.size v (e :: upL l e m)
  M : Mods [] w wr
theorem last_up {l : List Asc} {e x : Ent} {m : Nat} (hx : up l e m = some x) : (e :: upL l e m).getD m default = x := by
  cases m with
  | zero => exact Option.some.inj hx
  | succ m =>
    rw [List.getD_cons_succ, upL, List.getD_eq_getElem?_getD, List.getElem?_append_right (by rw [upL_length]; exact Nat.le_refl _), upL_length, Nat.sub_self, hx]
    rfl
set_option maxRecDepth 100000 in
set_option maxHeartbeats 4000000 in
theorem refAround_ok (w : World) (l : List Asc) (hl : l.length ≤ 1000) (hc : cycB l = false) (e : Ent) (v : Value) (hv : RdE ascE w v l) :
    Calls Tryz.prog 136 #[v, .agg e.cells.toArray] w fun en w' => RefAroundRes w l e en w' := by
  obtain ⟨ad, cap, rfl⟩ := hv.len
  have HV := Lib.hid hv
  have HC := Lib.hid hc
  have M0 := (Mods.refl (S := []) (w := w)).alloc (.cells e.cells.toArray 31)
  have O1 := OwnE.lit entOk (w.alloc (.cells e.cells.toArray 31)) (B := w.heap.size) M0.size [e] (by unfold maxLen; simp)
  have HS0 := Lib.hid (show RaStep w l e (.slice (some ⟨w.heap.size + 1, 0, none⟩) 1 1) ((w.alloc (.cells e.cells.toArray 31)).alloc (.cells e.cells.toArray 31)) 0 from ⟨rfl, by
    rw [World.size_alloc] at O1
    exact O1, M0.alloc _⟩)
  have HF := Lib.hid (fun (v : Value) (A : List Ent) (w' : World) (O : OwnE entE w' w.heap.size v (e :: A)) (hA : Arnd l e A) (M : Mods [] w w') => show RefAroundRes w l e (.returned v) w' from ⟨v, A, rfl, O, hA, M⟩)
  have B0 := EntBox.new w e
  have e0 := B0.c0
  have e1 := B0.c1
  clear hv M0 O1 hc B0
  go_enter Tryz.func136, Tryz.ntmps136
  go_wp2_with fail
  change Hid (RaStep w l e _ ((w.alloc (.cells e.cells.toArray 31)).alloc (.cells #[.int .u8 ((e.id.val : Nat) : Int), .int .u8 ((e.inst.val : Nat) : Int)] 31)) 0) at HS0
  clear e0 e1
  generalize ((w.alloc (.cells e.cells.toArray 31)).alloc (.cells #[.int .u8 ((e.id.val : Nat) : Int), .int .u8 ((e.inst.val : Nat) : Int)] 31)) = w0 at HS0 ⊢
  go_loopw [5] (fun u wr => ∃ m, RaStep w l e u wr m) (fun u _ => l.length + 2 - sliceLen u)
  case atStart => exact ⟨0, HS0.out⟩
  case round =>
    obtain ⟨m, hS⟩ := hrel
    obtain ⟨x, hx⟩ := Option.isSome_iff_exists.1 hS.some
    have hlen : (e :: upL l e m).length = m + 1 := by rw [List.length_cons, upL_length]
    obtain ⟨g, off, cap2, hu, hcp, hcp2, hcl⟩ := (hS.own.rd entOk).ent (by omega)
    obtain ⟨y0, y1⟩ := hcl m (by omega)
    rw [last_up hx] at y0 y1
    rw [hlen] at hu hcp
    subst hu
    have HS := Lib.hid hS
    have HX := Lib.hid hx
    have hml : m ≤ l.length := by have := upL_le hS.some (nocyc_nodup HC.out hS.some).1; omega
    have i0 : (0 : Int) ≤ (m : Int) := by omega
    have hws : IntKind.i64.wrap ((m : Int) + 1 - 1) = (m : Int) := by rw [show (m : Int) + 1 - 1 = m by omega]; exact IntWalk.i64_in _ (by omega)
    clear hS hx hcl hlen
    go_wp2_with fail
    refine (refParent_ok wr l x _ (HV.out.mods0 ascOk HS.out.M)).mono ?_
    rintro en w2 ⟨rfl, M2⟩
    obtain ⟨p, hp⟩ : ∃ p, p = parV l x := ⟨_, rfl⟩
    obtain ⟨ok, hok⟩ : ∃ ok, ok = (par l x).isSome := ⟨_, rfl⟩
    rw [← hp, ← hok]
    have HP := Lib.hid (show par l x = if ok = true then some p else none by
      rw [hok, hp]
      unfold parV
      cases par l x <;> simp)
    have HM2 := Lib.hid (HS.out.M.trans M2)
    have HO2 := Lib.hid (HS.out.own.mods0 M2)
    have hz2 := HM2.out.size
    clear hp hok M2 y0 y1 hws
    cases ok with
    | false =>
      go_wp2_with (refine wpList_store_row (cs := p.cells.toArray) rfl 31 (.tmp 6) (.tmp 19) rfl (heap_alloc_new w2 _) (by rfl) (by rfl) (by rfl) Tryz.sizeEnt (Ent.one p) ?_; intro w3 R3 M3; have HF3 := Lib.hid (freshA M3); clear R3 M3)
      have HM3 := Lib.hid (HM2.out.trans HF3.out)
      have HO3 := Lib.hid (HO2.out.mods0 HF3.out)
      have HE := Lib.hid (arnd_end HS.out.some (nocyc_nodup HC.out HS.out.some).1 (fun q hq => by
        have h1 : up l e (m + 1) = (up l e m).bind (par l) := rfl
        rw [h1, HX.out] at hq
        have h2 : par l x = some q := hq
        rw [HP.out] at h2
        cases h2))
      go_wp2_with fail
      go_ret
      exact HF.out _ _ _ HO3.out HE.out HM3.out
    | true =>
      have HP1 := Lib.hid (show up l e (m + 1) = some p by
        have h1 : up l e (m + 1) = (up l e m).bind (par l) := rfl
        rw [h1, HX.out]
        exact HP.out)
      have HL := Lib.hid (show m < l.length from by have := upL_le (m := m + 1) (by rw [HP1.out]; rfl) (nocyc_nodup HC.out (by rw [HP1.out]; rfl)).1; omega)
      have HAF : Hid (∀ w3, Mods [] w2 w3 → OwnE entE (w3.alloc (.cells p.cells.toArray 31)) w.heap.size (.slice (some ⟨g, off, none⟩) (m + 1) cap2) (e :: upL l e m) ∧ RdE entE (w3.alloc (.cells p.cells.toArray 31)) (.slice (some ⟨w3.heap.size, 0, none⟩) 1 1) [p] ∧ Mods [] w (w3.alloc (.cells p.cells.toArray 31))) := Lib.hid (fun w3 M3 => by
        have MA := (Mods.refl (S := []) (w := w3)).alloc (.cells p.cells.toArray 31)
        exact ⟨HO2.out.mods0 (M3.trans MA), RdE.one (a := p) (heap_alloc_new w3 _) rfl, (HM2.out.trans M3).trans MA⟩)
      go_wp2_with (first
        | (refine wpList_store_row (cs := p.cells.toArray) rfl 31 (.tmp 6) (.tmp 19) rfl (heap_alloc_new w2 _) (by rfl) (by rfl) (by rfl) Tryz.sizeEnt (Ent.one p) ?_; intro w3 R3 M3; have HAP := Lib.hid (HAF.out w3 (freshA M3)); have hz3 := HAP.out.2.2.size; have b0 := (show EntBox w3 w2.heap.size p from R3).c0; have b1 := (show EntBox w3 w2.heap.size p from R3).c1; clear R3 M3)
        | (at_builtin; refine wpList_appE entOk (by rfl) (.tmp 24) (.tmp 26) rfl (by rfl) HAP.out.1 (by rfl) HAP.out.2.1 (by rw [List.length_cons, upL_length]; simp; omega) (by simp at hz3 ⊢; omega) ?_; intro VB WB OB MB; have HST := Lib.hid (show RaStep w l e VB WB (m + 1) from ⟨by rw [HP1.out]; rfl, by rw [upL, HP1.out]; exact OB, HAP.out.2.2.comp MB (fun k hk => .inr (HAP.out.1.back hk))⟩); clear OB MB))
      obtain ⟨ad3, cap3, hvb⟩ := (HST.out.own.rd entOk).len
      rw [List.length_cons, upL_length] at hvb
      subst hvb
      go_roundw
      case rel => exact ⟨m + 1, HST.out⟩
      case measure => have := HL.out; simp [sliceLen]; omega
end Go.Proofs.YtijjkonephjodaaGreatDoor

namespace Go.Proofs.YtijjkonephjodaaGreatDoor
open Go.RowKit

theorem abv_all {l : List Asc} {e x : Ent} (h : ∀ j, j < l.length → up l e (j + 1) ≠ some x) : abv l e x = false := by
  unfold abv
  rw [List.any_eq_false]
  intro j hj
  have := h j (List.mem_range.1 hj)
  simpa using this
theorem abv_stop {l : List Asc} {e x : Ent} {k : Nat} (h : ∀ j, j < k → up l e (j + 1) ≠ some x) (hn : up l e (k + 1) = none) : abv l e x = false := by
  refine abv_all fun j _ => ?_
  rcases Nat.lt_or_ge j k with h1 | h1
  · exact h j h1
  · intro hj
    have := up_some_le (k := j + 1) (j := k + 1) (by rw [hj]; rfl) (by omega)
    rw [hn] at this
    cases this
theorem dup_none {l : List Asc} (h : ∀ i, i < l.length → ∀ j, j < i → (l.getD j default).inn ≠ (l.getD i default).inn) : dupB l = false := by
  unfold dupB
  rw [List.any_eq_false]
  intro i hi
  simp only [Bool.not_eq_true]
  rw [List.any_eq_false]
  intro j hj
  have := h i (List.mem_range.1 hi) j (List.mem_range.1 hj)
  simpa using this
theorem dup_some {l : List Asc} {i j : Nat} (hi : i < l.length) (hj : j < i) (h : (l.getD j default).inn = (l.getD i default).inn) : dupB l = true := by
  unfold dupB
  rw [List.any_eq_true]
  refine ⟨i, List.mem_range.2 hi, ?_⟩
  rw [List.any_eq_true]
  exact ⟨j, List.mem_range.2 hj, by simpa using h⟩
theorem cyc_none {l : List Asc} (h : ∀ i, i < l.length → abv l (l.getD i default).inn (l.getD i default).inn = false) : cycB l = false := by
  unfold cycB
  rw [List.any_eq_false]
  intro x hx
  obtain ⟨i, hi, rfl⟩ := List.mem_iff_getElem.1 hx
  have := h i hi
  rw [List.getD_eq_getElem?_getD, List.getElem?_eq_getElem hi] at this
  simpa using this
theorem cyc_some {l : List Asc} {i : Nat} (hi : i < l.length) (h : abv l (l.getD i default).inn (l.getD i default).inn = true) : cycB l = true := by
  unfold cycB
  rw [List.any_eq_true]
  refine ⟨l[i], List.getElem_mem hi, ?_⟩
  rw [List.getD_eq_getElem?_getD, List.getElem?_eq_getElem hi] at h
  exact h
def NoDup (l : List Asc) (k : Nat) : Prop := ∀ i, i < k → ∀ j, j < i → (l.getD j default).inn ≠ (l.getD i default).inn
def NoCyc (l : List Asc) (k : Nat) : Prop := ∀ i, i < k → abv l (l.getD i default).inn (l.getD i default).inn = false
/-- The way from e, k steps up, in block g: it has not come to e again. -/
structure CkStep (w : World) (l : List Asc) (e : Ent) (g : Nat) (wr : World) (k : Nat) : Prop where
  isS : (up l e k).isSome = true
  box : EntBox wr g ((up l e k).getD default)
  nov : ∀ j, j < k → up l e (j + 1) ≠ some e
  M : Mods [] w wr
set_option maxRecDepth 100000 in
set_option maxHeartbeats 8000000 in
theorem refCheck_ok (w : World) (l : List Asc) (v : Value) (hv : RdE ascE w v l) :
    Calls Tryz.prog 63 #[v] w fun en w' => en = .returned (.int .i64 (chkE l)) ∧ Mods [] w w' := by
  obtain ⟨ad, cap, rfl⟩ := hv.len
  have hcap := hv.bound
  have HV := Lib.hid hv
  have HCK := Lib.hid (show chkE l = if 32 < l.length then 3 else if dupB l = true then 7 else if cycB l = true then 14 else 0 from rfl)
  generalize chkE l = V at HCK ⊢
  clear hv
  by_cases h32 : 32 < l.length
  · have d1 : decide ((l.length : Int) > 32) = true := decide_eq_true (by omega)
    have HR := Lib.hid (HCK.out.trans (if_pos h32))
    clear h32
    go_enter Tryz.func63, Tryz.ntmps63
    go_wp2_with fail
    go_ret
    exact ⟨ret_int HR.out.symm, Mods.refl⟩
  · have d1 : decide ((l.length : Int) > 32) = false := decide_eq_false (by omega)
    have HR := Lib.hid (HCK.out.trans (if_neg h32))
    go_enter Tryz.func63, Tryz.ntmps63
    go_wp2_with fail
    go_loopw [3] (fun i wr => ∃ k : Nat, k ≤ l.length ∧ i = .int .i64 k ∧ Mods [] w wr ∧ Hid (NoDup l k)) (fun i _ => l.length - (intOf i).toNat)
    case atStart => exact ⟨0, Nat.zero_le _, rfl, Mods.refl, fun i hi => by omega⟩
    case round =>
      obtain ⟨k, hk, rfl, M, hND⟩ := hrel
      have i0 : (0 : Int) ≤ (k : Int) := by omega
      by_cases hlt : k < l.length
      · have i1 : (k : Int) < (l.length : Int) := by omega
        have HM := Lib.hid M
        clear M
        go_wp2_with fail
        go_loopw [4] (fun i wr2 => ∃ j : Nat, j ≤ k ∧ i = .int .i64 j ∧ Mods [] w wr2 ∧ Hid (∀ q, q < j → (l.getD q default).inn ≠ (l.getD k default).inn)) (fun i _ => k - (intOf i).toNat)
        case atStart => exact ⟨0, Nat.zero_le _, rfl, HM.out, fun i hi => by omega⟩
        case round =>
          obtain ⟨j, hj, rfl, M2, hNE⟩ := hrel
          have j0 : (0 : Int) ≤ (j : Int) := by omega
          by_cases hjk : j < k
          · have j1 : (j : Int) < (k : Int) := by omega
            have j2 : (j : Int) < (l.length : Int) := by omega
            obtain ⟨bb, off, cap, hv2, _, _, hc⟩ := (HV.out.mods0 ascOk M2).asc (by omega)
            injection hv2 with hv3 _ hv4
            subst hv3 hv4
            obtain ⟨-, -, y2, y3⟩ := hc k hlt
            obtain ⟨-, -, z2, z3⟩ := hc j (by omega)
            have HX := Lib.hid (show (l.getD j default).inn = (l.getD j default).inn ∧ (l.getD k default).inn = (l.getD k default).inn from ⟨rfl, rfl⟩)
            obtain ⟨x, hx⟩ : ∃ x, x = (l.getD j default).inn := ⟨_, rfl⟩
            obtain ⟨y, hy⟩ : ∃ y, y = (l.getD k default).inn := ⟨_, rfl⟩
            rw [← hx] at z2 z3
            rw [← hy] at y2 y3
            have HXE := Lib.hid hx
            have HYE := Lib.hid hy
            have hE := fun w => ent_eq' x y w
            have HD := Lib.hid (show decide (x = y) = decide ((l.getD j default).inn = (l.getD k default).inn) by rw [hx, hy])
            generalize decide (x = y) = r at hE HD
            have HM2 := Lib.hid M2
            clear hc HX hx hy M2
            cases r with
            | true =>
              have HDU := Lib.hid (dup_some hlt hjk (of_decide_eq_true HD.out.symm))
              have HRR := Lib.hid (HR.out.trans (if_pos HDU.out))
              go_wp2_with fail
              go_quiet (fail)
              go_wp2_with fail
              go_ret
              exact ⟨ret_int HRR.out.symm, HM2.out.drewN nq⟩
            | false =>
              have HNE := Lib.hid (of_decide_eq_false HD.out.symm)
              go_wp2_with fail
              go_quiet (fail)
              go_wp2_with fail
              go_roundw
              case rel => exact ⟨j + 1, by omega, by go_num, HM2.out.drewN nq, fun q hq => by
                rcases Nat.lt_or_ge q j with h | h
                · exact hNE.out q h
                · obtain rfl : q = j := by omega
                  exact HNE.out⟩
              case measure => simp [intOf]; omega
          · have j1 : ¬ (j : Int) < (k : Int) := by omega
            have hjk2 : j = k := by omega
            have HND := Lib.hid (show NoDup l (k + 1) from fun i hi q hq => by
              rcases Nat.lt_or_ge i k with h | h
              · exact hND.out i h q hq
              · obtain rfl : i = k := by omega
                exact hNE.out q (by omega))
            have HM2 := Lib.hid M2
            clear M2 hjk2
            go_wp2_with fail
            go_roundw
            case rel => exact ⟨k + 1, by omega, by go_num, HM2.out, HND⟩
            case measure => simp [intOf]; omega
      · have i1 : ¬ (k : Int) < (l.length : Int) := by omega
        have hk2 : k = l.length := by omega
        have HR := Lib.hid (HR.out.trans (if_neg (by rw [dup_none (by rw [← hk2]; exact hND.out)]; simp)))
        have HM := Lib.hid M
        clear M hk2
        go_wp2_with fail
        go_loopw [5] (fun i wr => ∃ k : Nat, k ≤ l.length ∧ i = .int .i64 k ∧ Mods [] w wr ∧ Hid (NoCyc l k)) (fun i _ => l.length - (intOf i).toNat)
        case atStart => exact ⟨0, Nat.zero_le _, rfl, HM.out, fun i hi => by omega⟩
        clear HM hlt i1 i0 hk
        case round =>
          obtain ⟨k, hk, rfl, M, hNC⟩ := hrel
          have i0 : (0 : Int) ≤ (k : Int) := by omega
          by_cases hlt : k < l.length
          · have i1 : (k : Int) < (l.length : Int) := by omega
            obtain ⟨bb, off, cap, hv2, _, _, hc⟩ := (HV.out.mods0 ascOk M).asc (by omega)
            injection hv2 with hv3 _ hv4
            subst hv3 hv4
            obtain ⟨-, -, y2, y3⟩ := hc k hlt
            obtain ⟨e, he⟩ : ∃ e, e = (l.getD k default).inn := ⟨_, rfl⟩
            rw [← he] at y2 y3
            have HE := Lib.hid he
            have HM := Lib.hid M
            have HCC : Hid (∀ W, Mods [] w W → W.cell? ⟨bb, off + k * 4 + 2, none⟩ = some (.int .u8 ((e.id.val : Nat) : Int)) ∧ W.cell? ⟨bb, off + k * 4 + 3, none⟩ = some (.int .u8 ((e.inst.val : Nat) : Int))) := Lib.hid (fun W MW => by
              obtain ⟨bb', off', cap', hv2, _, _, hc⟩ := (HV.out.mods0 ascOk MW).asc (by omega)
              injection hv2 with hv3 _ hv4
              injection hv3 with hv3
              injection hv3 with hv3 hv5
              subst hv3 hv5
              obtain ⟨-, -, y2, y3⟩ := hc k hlt
              rw [← he] at y2 y3
              exact ⟨y2, y3⟩)
            clear hc he M
            go_wp2_with (refine wpList_store_row (cs := #[.int .u8 ((e.id.val : Nat) : Int), .int .u8 ((e.inst.val : Nat) : Int)]) rfl 31 (.tmp 6) (.tmp 45) rfl (heap_alloc_new wr _) (by rfl) (by rfl) (by rfl) Tryz.sizeEnt (Ent.one e) ?_; intro w3 R3 M3; have HST := Lib.hid (show CkStep w l e wr.heap.size w3 0 from ⟨rfl, R3, fun j hj => by omega, HM.out.trans (freshA M3)⟩); clear R3 M3)
            have hgs : w.heap.size ≤ wr.heap.size := HM.out.size
            clear HM y2 y3
            generalize wr.heap.size = g at HST hgs ⊢
            go_loopw [7] (fun i wr => ∃ j : Nat, j ≤ l.length ∧ i = .int .i64 j ∧ CkStep w l e g wr j) (fun i _ => l.length - (intOf i).toNat)
            case atStart => exact ⟨0, Nat.zero_le _, rfl, HST.out⟩
            clear HST
            case round =>
              obtain ⟨j, hj, rfl, hS⟩ := hrel
              have j0 : (0 : Int) ≤ (j : Int) := by omega
              have HS := Lib.hid hS
              by_cases hjl : j < l.length
              · have j1 : (j : Int) < (l.length : Int) := by omega
                obtain ⟨x, hx⟩ := Option.isSome_iff_exists.1 hS.isS
                have hB := hS.box
                rw [hx] at hB
                have hB : EntBox wr g x := hB
                have e0 := hB.c0
                have e1 := hB.c1
                have HX := Lib.hid hx
                clear hS hx
                go_wp2_with fail
                refine (refParent_ok wr l x _ (HV.out.mods0 ascOk HS.out.M)).mono ?_
                rintro en w2 ⟨rfl, M2⟩
                obtain ⟨p, hp⟩ : ∃ p, p = parV l x := ⟨_, rfl⟩
                obtain ⟨ok, hok⟩ : ∃ ok, ok = (par l x).isSome := ⟨_, rfl⟩
                rw [← hp, ← hok]
                have HP := Lib.hid (show par l x = if ok = true then some p else none by
                  rw [hok, hp]
                  unfold parV
                  cases par l x <;> simp)
                have HM2 := Lib.hid (HS.out.M.trans M2)
                have HB2 := Lib.hid (HS.out.box.mods0 M2)
                clear hp hok M2 e0 e1 hB
                cases ok with
                | false =>
                  have HNN := Lib.hid (show up l e (j + 1) = none by
                    have h1 : up l e (j + 1) = (up l e j).bind (par l) := rfl
                    rw [h1, HX.out]
                    exact HP.out)
                  have HNC := Lib.hid (show NoCyc l (k + 1) from fun i hi => by
                    rcases Nat.lt_or_ge i k with h | h
                    · exact hNC.out i h
                    · obtain rfl : i = k := by omega
                      rw [← HE.out]
                      exact abv_stop HS.out.nov HNN.out)
                  go_wp2_with (refine wpList_store_row (cs := p.cells.toArray) rfl 31 (.tmp 8) (.tmp 56) rfl (heap_alloc_new w2 _) (by rfl) (by rfl) (by rfl) Tryz.sizeEnt (Ent.one p) ?_; intro w3 R3 M3; have HM3 := Lib.hid (HM2.out.trans (freshA M3)); clear R3 M3)
                  go_roundw
                  case rel => exact ⟨k + 1, by omega, by go_num, HM3.out, HNC⟩
                  case measure => simp [intOf]; omega
                | true =>
                  have HP1 := Lib.hid (show up l e (j + 1) = some p by
                    have h1 : up l e (j + 1) = (up l e j).bind (par l) := rfl
                    rw [h1, HX.out]
                    exact HP.out)
                  have hE := fun w => ent_eq' p e w
                  obtain ⟨r, hr⟩ : ∃ r, r = decide (p = e) := ⟨_, rfl⟩
                  rw [← hr] at hE
                  have HRD := Lib.hid hr
                  clear hr
                  have hgl : g < w2.heap.size := HB2.out.lt
                  go_wp2_with (refine wpList_store_row (cs := p.cells.toArray) rfl 31 (.tmp 8) (.tmp 56) rfl (heap_alloc_new w2 _) (by rfl) (by rfl) (by rfl) Tryz.sizeEnt (Ent.one p) ?_; intro w3 R3 M3; have HM3 := Lib.hid (HM2.out.trans (freshA M3)); have HB3 := Lib.hid (HB2.out.mods0 (freshA M3)); have HR3 := Lib.hid (show EntBox w3 w2.heap.size p from R3); clear R3 M3)
                  have b0 := HR3.out.c0
                  have b1 := HR3.out.c1
                  obtain ⟨y2, y3⟩ := HCC.out w3 HM3.out
                  generalize w2.heap.size = gp at b0 b1 hgl HR3 ⊢
                  go_quiet (fail)
                  have HB4 := Lib.hid (HB3.out.mods0 (Mods.refl.drewN nq))
                  have HM4 := Lib.hid (HM3.out.drewN nq)
                  have b0' := (HR3.out.mods0 (Mods.refl.drewN nq)).c0
                  have b1' := (HR3.out.mods0 (Mods.refl.drewN nq)).c1
                  clear b0 b1 y2 y3 HM3 HB3 HR3
                  generalize w3.drewN nq = w4 at b0' b1' HB4 HM4 ⊢
                  cases r with
                  | true =>
                    have HCY := Lib.hid (cyc_some hlt (by rw [← HE.out]; exact abv_iff.2 ⟨j, by rw [HP1.out, of_decide_eq_true HRD.out.symm]⟩))
                    have HRR := Lib.hid (HR.out.trans (if_pos HCY.out))
                    go_wp2_with fail
                    go_ret
                    exact ⟨ret_int HRR.out.symm, HM4.out⟩
                  | false =>
                    have HNE := Lib.hid (of_decide_eq_false HRD.out.symm)
                    go_wp2_with (refine wpList_store_row (cs := #[.int .u8 ((p.id.val : Nat) : Int), .int .u8 ((p.inst.val : Nat) : Int)]) rfl 31 (.tmp 6) (.tmp 67) rfl HB4.out (by rfl) (by rfl) (by rfl) Tryz.sizeEnt (Ent.one p) ?_; intro w5 R5 M5; have HST := Lib.hid (show CkStep w l e g w5 (j + 1) from ⟨by rw [HP1.out]; rfl, by rw [HP1.out]; exact R5, fun q hq => by
                      rcases Nat.lt_or_ge q j with h | h
                      · exact HS.out.nov q h
                      · obtain rfl : q = j := by omega
                        rw [HP1.out]
                        exact fun h => HNE.out (Option.some.inj h), HM4.out.comp M5 (fun q hq => by simp at hq; subst hq; exact .inr hgs)⟩); clear R5 M5)
                    go_roundw
                    case rel => exact ⟨j + 1, by omega, by go_num, HST.out⟩
                    case measure => simp [intOf]; omega
              · have j1 : ¬ (j : Int) < (l.length : Int) := by omega
                have HNC := Lib.hid (show NoCyc l (k + 1) from fun i hi => by
                  rcases Nat.lt_or_ge i k with h | h
                  · exact hNC.out i h
                  · obtain rfl : i = k := by omega
                    rw [← HE.out]
                    exact abv_all fun q hq => HS.out.nov q (by omega))
                clear hS
                go_wp2_with fail
                go_roundw
                case rel => exact ⟨k + 1, by omega, by go_num, HS.out.M, HNC⟩
                case measure => simp [intOf]; omega
          · have i1 : ¬ (k : Int) < (l.length : Int) := by omega
            have hk2 : k = l.length := by omega
            have HRR := Lib.hid (HR.out.trans (if_neg (by rw [cyc_none (by rw [← hk2]; exact hNC.out)]; simp)))
            have HM := Lib.hid M
            clear M hk2
            go_wp2_with fail
            go_ret
            exact ⟨ret_int HRR.out.symm, HM.out⟩
end Go.Proofs.YtijjkonephjodaaGreatDoor

namespace Go.Proofs.YtijjkonephjodaaGreatDoor
open Go.RowKit Go.Maps

theorem Tryz.laidOutE : laidOutB Tryz.prog = true := by kernel_rfl
theorem Tryz.rowE : (31 : TypeId) < Tryz.prog.types.size := of_decide_eq_true (by kernel_rfl)
theorem Tryz.cellsE : Tryz.prog.cellsOf 31 = 2 := by kernel_rfl
theorem Tryz.cellsB1 : Tryz.prog.cellsOf 5 = 1 := by kernel_rfl
theorem Tryz.deepE : Tryz.prog.keyType 31 = true := by kernel_rfl
theorem Tryz.wideE : (match Tryz.prog.underlying 31 with | some (.array _ _) | some (.struct _) => true | _ => false) = true := by kernel_rfl
set_option maxRecDepth 100000 in
theorem Tryz.keyedE : Keyed Tryz.prog 31 := Keyed.of_law (deep_law_laid Tryz.laidOutE (m := 2) (by omega) Tryz.rowE (by kernel_rfl) Tryz.wideE)
theorem Tryz.zeroB (w : World) : (zeroValue 4).run Tryz.prog w = .ok (.bool false) w := by kernel_rfl
theorem Tryz.typesPos : ∃ m, Tryz.prog.types.size = m + 1 := by
  have h : decide (0 < Tryz.prog.types.size) = true := by kernel_rfl
  have h := of_decide_eq_true h
  exact ⟨Tryz.prog.types.size - 1, by omega⟩
theorem ent_key (e : Ent) : ∃ kl, keyOf Tryz.prog 31 (.agg e.cells.toArray) = some kl := by
  obtain ⟨m, hm⟩ := Tryz.typesPos
  obtain ⟨⟨a, ha⟩, ⟨b, hb⟩⟩ := e
  have wa : (Lit.int .u8 (a : Int)).wf = true := by have h1 : IntKind.u8.min = 0 := rfl; have h2 : IntKind.u8.max = 255 := rfl; simp [Lit.wf, h1, h2]; omega
  have wb : (Lit.int .u8 (b : Int)).wf = true := by have h1 : IntKind.u8.min = 0 := rfl; have h2 : IntKind.u8.max = 255 := rfl; simp [Lit.wf, h1, h2]; omega
  have hf : (Value.agg (Ent.cells ⟨⟨a, ha⟩, ⟨b, hb⟩⟩).toArray).formed Tryz.prog 31 = true := by
    simp [Value.formed, Tryz.underlying31, Tryz.cellsE, Ent.cells]
  unfold keyOf
  rw [Tryz.underlying31, Tryz.deepE, hf, hm]
  simp [Program.keyLits, Tryz.underlying31, Tryz.underlying5, Tryz.cellsE, Tryz.cellsB1, Ent.cells, Value.cells, wa, wb]
noncomputable def entKey (e : Ent) : Lit := (ent_key e).choose
theorem entKey_is (e : Ent) : keyOf Tryz.prog 31 (.agg e.cells.toArray) = some (entKey e) := (ent_key e).choose_spec
theorem entKey_inj {e f : Ent} (h : entKey e = entKey f) : e = f := by
  have := Tryz.keyedE.inj (entKey_is e) (by rw [h]; exact entKey_is f)
  injection this with h
  obtain ⟨⟨a, ha⟩, ⟨b, hb⟩⟩ := e
  obtain ⟨⟨c, hc⟩, ⟨d, hd⟩⟩ := f
  simp [Ent.cells] at h
  simp; omega
theorem plainElem_bool_inv {P : Program} {e : TypeId} (he : P.underlying e = some .bool) {v : Value} {z : DataW Unit × List MemPlace} (h : plainElem P e v = some z) : ∃ x, v = .bool x ∧ z = (.lit (.bool x), []) := by
  unfold plainElem at h
  rw [he] at h
  cases v <;> simp at h
  subst h
  exact ⟨_, rfl, rfl⟩
/-- Block b is a map of at most n entries that is true just at the entities of L. -/
def MetE (w : World) (b n : Nat) (L : List Ent) : Prop :=
  ∃ D : DataW Unit, w.ownsMap Tryz.prog 31 (plainElem Tryz.prog 4) b n D ∧ ∀ e : Ent, D.atKey (entKey e) (.lit (.bool false)) = .lit (.bool (decide (e ∈ L)))
theorem MetE.made (w : World) : MetE (w.alloc (.map #[] 0)) w.heap.size 0 [] := ⟨.map [], World.ownsMap_made _ _ _ _, fun _ => rfl⟩
theorem MetE.lt {w : World} {b n : Nat} {L : List Ent} (h : MetE w b n L) : b < w.heap.size := by obtain ⟨D, h, _⟩ := h; exact h.lt
theorem MetE.mods {S : List Nat} {w W : World} {b n : Nat} {L : List Ent} (h : MetE w b n L) (M : Mods S w W) (hb : b ∉ S) : MetE W b n L := by
  obtain ⟨D, ⟨es, clock, h1, h2⟩, h3⟩ := h
  exact ⟨D, ⟨es, clock, M.heap h1 hb, h2⟩, h3⟩
theorem MetE.mods0 {w W : World} {b n : Nat} {L : List Ent} (h : MetE w b n L) (M : Mods [] w W) : MetE W b n L := h.mods M (by simp)
theorem MetE.look {w : World} {b n : Nat} {L : List Ent} (h : MetE w b n L) (e : Ent) : (Instr.lookup 151 (.map (some b)) (.agg #[.int .u8 ((e.id.val : Nat) : Int), .int .u8 ((e.inst.val : Nat) : Int)]) false).run Tryz.prog w = .ok (.bool (decide (e ∈ L))) w := by
  obtain ⟨D, h1, h2⟩ := h
  obtain ⟨v, ps, hrun, hv⟩ := h1.lookup Tryz.keyedE Tryz.underlying151 (Tryz.zeroB w) (plainElem_bool Tryz.underlying4 false) (entKey_is e)
  obtain ⟨x, rfl, hx⟩ := plainElem_bool_inv Tryz.underlying4 hv
  rw [h2 e] at hx
  simp at hx
  obtain ⟨rfl, -⟩ := hx
  exact hrun
theorem wpList_met {ops : Array Oper} {rest : List Oper} {o : Oper} {a : Act} {Q : Exit → Act → World → Prop} {w : World} (hg : o.guard = none) (m x v : Operand) (hop : o.op = Op.mapUpdate 151 m x v)
    {b n : Nat} {L : List Ent} (hm : a.eval m = .map (some b)) (hown : MetE w b n L) (hn : n < 1000000) (e : Ent) (hx : a.eval x = .agg #[.int .u8 ((e.id.val : Nat) : Int), .int .u8 ((e.inst.val : Nat) : Int)]) (hv : a.eval v = .bool true)
    (hK : ∀ w', MetE w' b (n + 1) (L ++ [e]) → Mods [b] w w' → wpList Tryz.prog ops Q rest (a.put o.dst undef) w') : wpList Tryz.prog ops Q (o :: rest) a w := by
  obtain ⟨D, h1, h2⟩ := hown
  have hM : IsMap D := by obtain ⟨es, clock, _, _, _, h⟩ := h1; exact ⟨_, h⟩
  refine wpList_mapUpdate_own w hg m x v 151 hop 31 4 Tryz.keyedE Tryz.underlying151 _ b n D hm h1 (by unfold maxLen; omega) _ _ (entKey e) hx hv (entKey_is e) _ _ (plainElem_bool Tryz.underlying4 true) ?_
  intro w' h3 h4
  refine hK w' ⟨_, h3, fun f => ?_⟩ (by have := Mods.of_grown h4; simpa using this)
  by_cases hf : f = e
  · subst hf
    rw [atKey_put_same hM (Tryz.keyedE.key (entKey_is f))]
    simp
  · rw [atKey_put_other (fun h => hf (entKey_inj h)), h2 f]
    simp [hf]
end Go.Proofs.YtijjkonephjodaaGreatDoor

namespace Go.Proofs.YtijjkonephjodaaGreatDoor
open Go.RowKit

theorem Asc.one (x : Asc) : x.cells.toArray.all (·.oneCell') = true := by simp [Asc.cells, Value.oneCell']
theorem Tryz.sizeAsc : (Tryz.prog.info? 111).map (·.size) = some 4 := by kernel_rfl
theorem take_inn {l : List Asc} {k : Nat} (h : k < l.length) : (l.take (k + 1)).map (·.inn) = (l.take k).map (·.inn) ++ [(l.getD k default).inn] := by
  rw [List.take_succ_eq_append_getElem h, List.map_append, List.getD_eq_getElem?_getD, List.getElem?_eq_getElem h]
  rfl
theorem mem_take_inn {l : List Asc} {k : Nat} (h : k ≤ l.length) {e : Ent} : e ∈ (l.take k).map (·.inn) ↔ ∃ j, j < k ∧ (l.getD j default).inn = e := by
  constructor
  · intro he
    obtain ⟨x, hx, rfl⟩ := List.mem_map.1 he
    obtain ⟨j, hj, rfl⟩ := List.mem_iff_getElem.1 hx
    rw [List.length_take] at hj
    refine ⟨j, by omega, ?_⟩
    rw [List.getD_eq_getElem?_getD, List.getElem?_eq_getElem (by omega)]
    simp
  · rintro ⟨j, hj, rfl⟩
    refine List.mem_map.2 ⟨l.getD j default, ?_, rfl⟩
    rw [List.getD_eq_getElem?_getD, List.getElem?_eq_getElem (by omega)]
    exact List.mem_iff_getElem.2 ⟨j, by rw [List.length_take]; omega, by simp⟩
set_option maxRecDepth 100000 in
set_option maxHeartbeats 8000000 in
theorem check_ok (w : World) (l : List Asc) (v : Value) (hv : RdE ascE w v l) :
    Calls Tryz.prog 44 #[v] w fun en w' => en = .returned (.int .i64 (chkE l)) ∧ Mods [] w w' := by
  obtain ⟨ad, cap, rfl⟩ := hv.len
  have hcap := hv.bound
  have HV := Lib.hid hv
  have HCK := Lib.hid (show chkE l = if 32 < l.length then 3 else if dupB l = true then 7 else if cycB l = true then 14 else 0 from rfl)
  generalize chkE l = V at HCK ⊢
  clear hv
  by_cases h32 : 32 < l.length
  · have d1 : decide ((l.length : Int) > 32) = true := decide_eq_true (by omega)
    have HR := Lib.hid (HCK.out.trans (if_pos h32))
    clear h32
    go_enter Tryz.func44, Tryz.ntmps44
    go_wp2_with fail
    go_ret
    exact ⟨ret_int HR.out.symm, Mods.refl⟩
  · have d1 : decide ((l.length : Int) > 32) = false := decide_eq_false (by omega)
    have HR := Lib.hid (HCK.out.trans (if_neg h32))
    have hmm := @run_makeMap Tryz.prog
    have HM0 := Lib.hid ((Mods.refl (S := []) (w := w)).alloc (.map #[] 0))
    have HT0 := Lib.hid (MetE.made w)
    have hl32 : l.length ≤ 32 := by omega
    clear h32
    go_enter Tryz.func44, Tryz.ntmps44
    go_wp2_with fail
    generalize w.alloc (.map #[] 0) = w0 at HM0 HT0 ⊢
    generalize hbb : w.heap.size = b at HT0 ⊢
    have HBB := Lib.hid hbb
    clear hbb
    go_loopw [14] (fun i wr => ∃ k : Nat, k ≤ l.length ∧ i = .int .i64 k ∧ Mods [] w wr ∧ Hid (MetE wr b k ((l.take k).map (·.inn))) ∧ Hid (NoDup l k)) (fun i _ => l.length - (intOf i).toNat)
    case atStart => exact ⟨0, Nat.zero_le _, rfl, HM0.out, HT0, fun i hi => by omega⟩
    clear HM0 HT0
    case round =>
      obtain ⟨k, hk, rfl, M, hT, hND⟩ := hrel
      have i0 : (0 : Int) ≤ (k : Int) := by omega
      by_cases hlt : k < l.length
      · have i1 : (k : Int) < (l.length : Int) := by omega
        obtain ⟨bb, off, cap, hv2, _, _, hc⟩ := (HV.out.mods0 ascOk M).asc (by omega)
        injection hv2 with hv3 _ hv4
        subst hv3 hv4
        obtain ⟨y0, y1, y2, y3⟩ := hc k hlt
        have HX := Lib.hid (take_inn hlt)
        have HMM := Lib.hid (fun e => mem_take_inn (l := l) (k := k) hk (e := e))
        obtain ⟨x, hx⟩ : ∃ x, x = l.getD k default := ⟨_, rfl⟩
        rw [← hx] at y0 y1 y2 y3 HX
        have HXE := Lib.hid hx
        obtain ⟨r, hr⟩ : ∃ r, r = decide (x.inn ∈ (l.take k).map (·.inn)) := ⟨_, rfl⟩
        have HL : Hid (∀ W, Mods [] wr W → (Instr.lookup 151 (.map (some b)) (.agg #[.int .u8 ((x.inn.id.val : Nat) : Int), .int .u8 ((x.inn.inst.val : Nat) : Int)]) false).run Tryz.prog W = .ok (.bool r) W) := Lib.hid (fun W MW => by
          rw [hr]
          exact (hT.out.mods0 MW).look x.inn)
        have HRD := Lib.hid hr
        have HM := Lib.hid M
        have hbl : b < wr.heap.size := hT.out.lt
        clear hc hx hr M
        cases r with
        | true =>
          obtain ⟨j, hj, he⟩ := (HMM.out _).1 (of_decide_eq_true HRD.out.symm)
          have HDU := Lib.hid (dup_some hlt hj (by rw [he, HXE.out]))
          have HRR := Lib.hid (HR.out.trans (if_pos HDU.out))
          clear hj he
          go_wp2_with (first
            | (refine wpList_store_row (cs := #[.int .u8 ((x.out.id.val : Nat) : Int), .int .u8 ((x.out.inst.val : Nat) : Int), .int .u8 ((x.inn.id.val : Nat) : Int), .int .u8 ((x.inn.inst.val : Nat) : Int)]) rfl 111 (.tmp 5) (.tmp 17) rfl (heap_alloc_new wr _) (by rfl) (by rfl) (by rfl) Tryz.sizeAsc (Asc.one x) ?_; intro w3 R3 M3; have HF3 := Lib.hid (freshA M3); have c2 := cell_blk R3 2; have c3 := cell_blk R3 3; have hlk := HL.out w3 HF3.out; have HT3 := Lib.hid (hT.out.mods0 HF3.out); simp only [List.getElem?_toArray, List.getElem?_cons_succ, List.getElem?_cons_zero] at c2 c3; clear R3 M3)
            | (fail))
          go_ret
          exact ⟨ret_int HRR.out.symm, HM.out.trans HF3.out⟩
        | false =>
          have HND := Lib.hid (show NoDup l (k + 1) from fun i hi q hq => by
            rcases Nat.lt_or_ge i k with h | h
            · exact hND.out i h q hq
            · obtain rfl : i = k := by omega
              intro he
              exact of_decide_eq_false HRD.out.symm ((HMM.out _).2 ⟨q, hq, by rw [he, HXE.out]⟩))
          go_wp2_with (first
            | (refine wpList_store_row (cs := #[.int .u8 ((x.out.id.val : Nat) : Int), .int .u8 ((x.out.inst.val : Nat) : Int), .int .u8 ((x.inn.id.val : Nat) : Int), .int .u8 ((x.inn.inst.val : Nat) : Int)]) rfl 111 (.tmp 5) (.tmp 17) rfl (heap_alloc_new wr _) (by rfl) (by rfl) (by rfl) Tryz.sizeAsc (Asc.one x) ?_; intro w3 R3 M3; have HF3 := Lib.hid (freshA M3); have c2 := cell_blk R3 2; have c3 := cell_blk R3 3; have hlk := HL.out w3 HF3.out; have HT3 := Lib.hid (hT.out.mods0 HF3.out); simp only [List.getElem?_toArray, List.getElem?_cons_succ, List.getElem?_cons_zero] at c2 c3; clear R3 M3)
            | (at_mapUpdate; refine wpList_met rfl (.tmp 22) (.tmp 24) _ rfl rfl HT3.out (by omega) x.inn rfl rfl ?_; intro w4 HT4 M4; have HT5 := Lib.hid HT4; have HM4 := Lib.hid ((HM.out.trans HF3.out).comp M4 (fun q hq => by simp at hq; subst hq; exact .inr (by have := HBB.out; omega))); clear HT4 M4))
          go_roundw
          case rel => exact ⟨k + 1, by omega, by go_num, HM4.out, by rw [HX.out]; exact HT5, HND⟩
          case measure => simp [intOf]; omega
      · have i1 : ¬ (k : Int) < (l.length : Int) := by omega
        have hk2 : k = l.length := by omega
        have HR := Lib.hid (HR.out.trans (if_neg (by rw [dup_none (by rw [← hk2]; exact hND.out)]; simp)))
        have HM := Lib.hid M
        clear M hk2 hT hND hmm
        go_wp2_with fail
        go_loopw [28] (fun i wr => ∃ k : Nat, k ≤ l.length ∧ i = .int .i64 k ∧ Mods [] w wr ∧ Hid (NoCyc l k)) (fun i _ => l.length - (intOf i).toNat)
        case atStart => exact ⟨0, Nat.zero_le _, rfl, HM.out, fun i hi => by omega⟩
        clear HM hlt i1 i0 hk
        case round =>
          obtain ⟨k, hk, rfl, M, hNC⟩ := hrel
          have i0 : (0 : Int) ≤ (k : Int) := by omega
          by_cases hlt : k < l.length
          · have i1 : (k : Int) < (l.length : Int) := by omega
            obtain ⟨bb, off, cap, hv2, _, _, hc⟩ := (HV.out.mods0 ascOk M).asc (by omega)
            injection hv2 with hv3 _ hv4
            subst hv3 hv4
            obtain ⟨y0, y1, y2, y3⟩ := hc k hlt
            obtain ⟨x, hx⟩ : ∃ x, x = l.getD k default := ⟨_, rfl⟩
            rw [← hx] at y0 y1 y2 y3
            have HXE := Lib.hid hx
            have HM := Lib.hid M
            clear hc hx M
            go_wp2_with (refine wpList_store_row (cs := #[.int .u8 ((x.out.id.val : Nat) : Int), .int .u8 ((x.out.inst.val : Nat) : Int), .int .u8 ((x.inn.id.val : Nat) : Int), .int .u8 ((x.inn.inst.val : Nat) : Int)]) rfl 111 (.tmp 7) (.tmp 31) rfl (heap_alloc_new wr _) (by rfl) (by rfl) (by rfl) Tryz.sizeAsc (Asc.one x) ?_; intro w3 R3 M3; have HR3 := Lib.hid R3; have HM3 := Lib.hid (HM.out.trans (freshA M3)); clear R3 M3)
            generalize wr.heap.size = g at HR3 ⊢
            refine heldStart (S := fun W => W.heap[g]? = some (.cells #[.int .u8 ((x.out.id.val : Nat) : Int), .int .u8 ((x.out.inst.val : Nat) : Int), .int .u8 ((x.inn.id.val : Nat) : Int), .int .u8 ((x.inn.inst.val : Nat) : Int)] 111 (0, 0))) 7 rfl (by kernel_rfl) HR3.out (fun hHeld => ?_)
            refine takeD (i := 0) (d := 32) (v := ?_) rfl rfl (by kernel_rfl) (by kernel_rfl) (by kernel_rfl) (fun _ _ _ h => h) (Or.inl ⟨by rfl, ?_⟩) hHeld ?_
            rotate_left 1
            · (intro w hSw; (try dsimp only at hSw); go_simp; (try with_reducible rfl))
            simp only [List.setIfInBounds_toArray, List.set_cons_zero, List.set_cons_succ]
            refine takeD (i := 1) (d := 33) (v := ?_) rfl rfl (by kernel_rfl) (by kernel_rfl) (by kernel_rfl) (fun _ _ _ h => h) (Or.inl ⟨by rfl, ?_⟩) hHeld ?_
            rotate_left 1
            · (intro w hSw; (try dsimp only at hSw); go_simp; (try with_reducible rfl))
            simp only [List.setIfInBounds_toArray, List.set_cons_zero, List.set_cons_succ]
            refine takeD (i := 2) (d := 34) (v := .agg #[.int .u8 ((x.inn.id.val : Nat) : Int), .int .u8 ((x.inn.inst.val : Nat) : Int)]) rfl rfl (by kernel_rfl) (by kernel_rfl) (by kernel_rfl) (fun _ _ _ h => h) (Or.inl ⟨by rfl, fun w hSw => ?_⟩) hHeld ?_
            · have c2 := (cell_blk hSw 2).trans (show _ = some (Value.int .u8 ((x.inn.id.val : Nat) : Int)) from rfl)
              have c3 := (cell_blk hSw 3).trans (show _ = some (Value.int .u8 ((x.inn.inst.val : Nat) : Int)) from rfl)
              go_simp
            simp only [List.setIfInBounds_toArray, List.set_cons_zero, List.set_cons_succ]
            refine takeD (i := 4) (d := 36) (v := ?_) rfl rfl (by kernel_rfl) (by kernel_rfl) (by kernel_rfl) (fun _ _ _ h => h) (Or.inl ⟨by rfl, ?_⟩) hHeld ?_
            rotate_left 1
            · (intro w hSw; (try dsimp only at hSw); go_simp; (try with_reducible rfl))
            simp only [List.setIfInBounds_toArray, List.set_cons_zero, List.set_cons_succ]
            refine takeD (i := 5) (d := 37) (v := .agg #[.int .u8 ((x.inn.id.val : Nat) : Int), .int .u8 ((x.inn.inst.val : Nat) : Int)]) rfl rfl (by kernel_rfl) (by kernel_rfl) (by kernel_rfl) (fun _ _ _ h => h) (Or.inl ⟨by rfl, fun w hSw => ?_⟩) hHeld ?_
            · have c2 := (cell_blk hSw 2).trans (show _ = some (Value.int .u8 ((x.inn.id.val : Nat) : Int)) from rfl)
              have c3 := (cell_blk hSw 3).trans (show _ = some (Value.int .u8 ((x.inn.inst.val : Nat) : Int)) from rfl)
              go_simp
            simp only [List.setIfInBounds_toArray, List.set_cons_zero, List.set_cons_succ]
            have HAR := Lib.hid (around_ok w3.drew l (by omega) x.inn _ (HV.out.mods0 ascOk HM3.out.drew))
            refine wpAnyH_ready (rs := [3]) (by kernel_rfl) (by simp) ?_
            refine AllReadyH.cons rfl (fun K hK => ?_) AllReadyH.nil
            go_simp
            go_wp2_with (refine HAR.out.mono ?_; rintro en w4 ⟨va, A, rfl, OA, HA, M4⟩)
            refine hK.out _ _ ?_ (fun hHeld => ?_)
            · exact M4.heap hHeld (by simp)
            clear hK K
            have HM4 := Lib.hid (HM3.out.drew.trans M4)
            have HCO := Lib.hid (contains_ok w4 A x.inn va (OA.rd entOk))
            rw [HA.ab] at HCO
            obtain ⟨r, hr⟩ : ∃ r, r = abv l x.inn x.inn := ⟨_, rfl⟩
            rw [← hr] at HCO
            have HRD := Lib.hid hr
            clear hr M4 OA HA HAR
            refine wpAnyH_ready (rs := [6]) (by kernel_rfl) (by simp) ?_
            refine AllReadyH.cons rfl (fun K hK => ?_) AllReadyH.nil
            go_simp
            go_wp2_with (refine HCO.out.mono ?_; rintro en w5 ⟨rfl, M5⟩)
            refine hK.out _ _ ?_ (fun hHeld => ?_)
            · exact M5.heap hHeld (by simp)
            clear hK K
            have HM5 := Lib.hid (HM4.out.trans M5)
            clear M5 HCO
            refine wpAnyH_done (by kernel_rfl) ?_ _
            cases r with
            | true =>
              have HCY := Lib.hid (cyc_some hlt (by rw [← HXE.out]; exact HRD.out.symm))
              have HRR := Lib.hid (HR.out.trans (if_pos HCY.out))
              go_wp2_with fail
              go_ret
              exact ⟨ret_int HRR.out.symm, HM5.out⟩
            | false =>
              have HNC := Lib.hid (show NoCyc l (k + 1) from fun i hi => by
                rcases Nat.lt_or_ge i k with h | h
                · exact hNC.out i h
                · obtain rfl : i = k := by omega
                  rw [← HXE.out]
                  exact HRD.out.symm)
              go_wp2_with fail
              go_roundw
              case rel => exact ⟨k + 1, by omega, by go_num, HM5.out, HNC⟩
              case measure => simp [intOf]; omega
          · have i1 : ¬ (k : Int) < (l.length : Int) := by omega
            have hk2 : k = l.length := by omega
            have HRR := Lib.hid (HR.out.trans (if_neg (by rw [cyc_none (by rw [← hk2]; exact hNC.out)]; simp)))
            have HM := Lib.hid M
            clear M hk2
            go_wp2_with fail
            go_ret
            exact ⟨ret_int HRR.out.symm, HM.out⟩
end Go.Proofs.YtijjkonephjodaaGreatDoor

namespace Go.Proofs.YtijjkonephjodaaGreatDoor
open Go.RowKit

section
variable {P : Program} {md : Region.Mode} {S : World → Prop} {Q : Exit → Act → World → Prop} {T : TypeId}
theorem twoBoxesAt {ops : Array Oper} {lst : Array Bool} {i2 i3 i4 i5 : Nat} (h23 : i2 ≠ i3) {a : Act} {w : World} {o2 o3 o4 o5 : Oper} {dA dB sA sB : Nat} {ty : TypeId} {z csA csB : Array Value} {fuel : Nat}
    (h2 : ops[i2]? = some o2) (h3 : ops[i3]? = some o3) (h4 : ops[i4]? = some o4) (h5 : ops[i5]? = some o5)
    (g2 : o2.guard = none) (g3 : o3.guard = none) (g4 : o4.guard = none) (g5 : o5.guard = none) (d2 : o2.dst = some dA) (d3 : o3.dst = some dB) (d4 : o4.dst = none) (d5 : o5.dst = none)
    (r2 : ∀ (a : Act) w, (execOp a.eval o2).run P w = .ok (.value (.pointer (some ⟨w.heap.size, 0, none⟩))) (w.alloc (.cells z T)))
    (r3 : ∀ (a : Act) w, (execOp a.eval o3).run P w = .ok (.value (.pointer (some ⟨w.heap.size, 0, none⟩))) (w.alloc (.cells z T)))
    (p4 : o4.op = .store ty (.tmp dA) (.tmp sA)) (p5 : o5.op = .store ty (.tmp dB) (.tmp sB))
    (zA : z.size = csA.size) (zB : z.size = csB.size) (iA : (P.info? ty).map (·.size) = some csA.size) (iB : (P.info? ty).map (·.size) = some csB.size)
    (oneA : csA.all (·.oneCell') = true) (oneB : csB.all (·.oneCell') = true)
    (lA : dA < a.tmps.size) (lB : dB < a.tmps.size) (nAB : dA ≠ dB) (nA1 : dA ≠ sA) (nA2 : dA ≠ sB) (nB1 : dB ≠ sA) (nB2 : dB ≠ sB)
    (vA : a.tmps.getD sA undef = .agg csA) (vB : a.tmps.getD sB undef = .agg csB)
    (t1 : Region.ready md ops lst = [i2, i3]) (t2 : Region.ready md ops (lst.setIfInBounds i2 true) = [i3]) (t3 : Region.ready md ops (lst.setIfInBounds i3 true) = [i2])
    (t4 : Region.ready md ops ((lst.setIfInBounds i2 true).setIfInBounds i3 true) = [i4]) (t5 : Region.ready md ops (((lst.setIfInBounds i2 true).setIfInBounds i3 true).setIfInBounds i4 true) = [i5]) (t6 : Region.ready md ops ((((lst.setIfInBounds i2 true).setIfInBounds i3 true).setIfInBounds i4 true).setIfInBounds i5 true) = []) (hK : ∀ w', Mods [] w w' → S w')
    (h : ∀ gA gB W, TB T w W (some (gA, csA)) (some (gB, csB)) → Q .normal { a with tmps := (a.tmps.setIfInBounds dA (.pointer (some ⟨gA, 0, none⟩))).setIfInBounds dB (.pointer (some ⟨gB, 0, none⟩)) } W) :
    wpAnyH P md ops Q S (fuel + 4) lst a w := by
  have comm : ∀ gA gB, (a.tmps.setIfInBounds dB (.pointer (some ⟨gB, 0, none⟩))).setIfInBounds dA (.pointer (some ⟨gA, 0, none⟩)) = (a.tmps.setIfInBounds dA (.pointer (some ⟨gA, 0, none⟩))).setIfInBounds dB (.pointer (some ⟨gB, 0, none⟩)) := fun gA gB => Array.setIfInBounds_comm _ _ nAB.symm
  have e1 : ∀ gA gB, ({ a with tmps := (a.tmps.setIfInBounds dA (.pointer (some ⟨gA, 0, none⟩))).setIfInBounds dB (.pointer (some ⟨gB, 0, none⟩)) } : Act).eval (.tmp dA) = .pointer (some ⟨gA, 0, none⟩) := fun gA gB => (getD_set_other nAB.symm).trans (getD_set_same lA)
  have e2 : ∀ gA gB, ({ a with tmps := (a.tmps.setIfInBounds dA (.pointer (some ⟨gA, 0, none⟩))).setIfInBounds dB (.pointer (some ⟨gB, 0, none⟩)) } : Act).eval (.tmp sA) = .agg csA := fun gA gB => (getD_set_other nB1).trans ((getD_set_other nA1).trans vA)
  have e3 : ∀ gA gB, ({ a with tmps := (a.tmps.setIfInBounds dA (.pointer (some ⟨gA, 0, none⟩))).setIfInBounds dB (.pointer (some ⟨gB, 0, none⟩)) } : Act).eval (.tmp dB) = .pointer (some ⟨gB, 0, none⟩) := fun gA gB => getD_set_same (by simpa using lB)
  have e4 : ∀ gA gB, ({ a with tmps := (a.tmps.setIfInBounds dA (.pointer (some ⟨gA, 0, none⟩))).setIfInBounds dB (.pointer (some ⟨gB, 0, none⟩)) } : Act).eval (.tmp sB) = .agg csB := fun gA gB => (getD_set_other nB2).trans ((getD_set_other nA2).trans vB)
  have both : ∀ gA gB W, TB T w W (some (gA, z)) (some (gB, z)) → wpAnyH P md ops Q S (fuel + 2) ((lst.setIfInBounds i2 true).setIfInBounds i3 true) { a with tmps := (a.tmps.setIfInBounds dA (.pointer (some ⟨gA, 0, none⟩))).setIfInBounds dB (.pointer (some ⟨gB, 0, none⟩)) } W := by
    intro gA gB W hW
    refine wpAnyH_ready t4 (by simp) (AllReadyH.cons h4 (fun K hk => ?_) AllReadyH.nil)
    refine exec_store g4 d4 p4 (hW.A _ rfl).1 (e1 gA gB) (e2 gA gB) zA iA oneA (fun W' R M => ?_)
    have hW' := hW.storeA R M
    refine hk.out _ _ (hK _ hW'.M) (fun _ => ?_)
    refine wpAnyH_ready t5 (by simp) (AllReadyH.cons h5 (fun K hk => ?_) AllReadyH.nil)
    refine exec_store g5 d5 p5 (hW'.B _ rfl).1 (e3 gA gB) (e4 gA gB) zB iB oneB (fun W'' R M => ?_)
    have hW'' := (hW'.swap.storeA R M).swap
    exact hk.out _ _ (hK _ hW''.M) (fun _ => wpAnyH_done t6 (h _ _ _ hW'') _)
  refine wpAnyH_ready t1 (by simp) (AllReadyH.cons h2 (fun K hk => ?_) (AllReadyH.cons h3 (fun K hk => ?_) AllReadyH.nil))
  · refine exec_alloc g2 d2 r2 ?_
    have hW := (TB.start (T := T) w).allocA z
    refine hk.out _ _ (hK _ hW.M) (fun _ => ?_)
    refine wpAnyH_ready t2 (by simp) (AllReadyH.cons h3 (fun K hk => ?_) AllReadyH.nil)
    refine exec_alloc g3 d3 r3 ?_
    have hW2 := (hW.swap.allocA z).swap
    exact hk.out _ _ (hK _ hW2.M) (fun _ => both _ _ _ hW2)
  · refine exec_alloc g3 d3 r3 ?_
    have hW := ((TB.start (T := T) w).allocA z).swap
    refine hk.out _ _ (hK _ hW.M) (fun _ => ?_)
    refine wpAnyH_ready t3 (by simp) (AllReadyH.cons h2 (fun K hk => ?_) AllReadyH.nil)
    refine exec_alloc g2 d2 r2 ?_
    have hW2 := hW.allocA z
    refine hk.out _ _ (hK _ hW2.M) (fun _ => ?_)
    rw [comm, Array.setIfInBounds_comm _ _ h23.symm]
    exact both _ _ _ hW2
end
end Go.Proofs.YtijjkonephjodaaGreatDoor

namespace Go.Proofs.YtijjkonephjodaaGreatDoor
open Go.RowKit

/-- Two blocks under way, next to calls that write into the block b. -/
structure TBC (T : TypeId) (b : Nat) (w0 w : World) (oA oB : Option (Nat × Array Value)) : Prop where
  M : Mods [b] w0 w
  A : ∀ p, oA = some p → w.heap[p.1]? = some (.cells p.2 T (0, 0)) ∧ w0.heap.size ≤ p.1
  B : ∀ p, oB = some p → w.heap[p.1]? = some (.cells p.2 T (0, 0)) ∧ w0.heap.size ≤ p.1
  ne : ∀ p q, oA = some p → oB = some q → p.1 ≠ q.1
section
variable {T : TypeId} {b : Nat} {w0 w W : World} {oA oB : Option (Nat × Array Value)}
theorem TBC.start (w : World) : TBC T b w w none none := ⟨Mods.refl, fun _ h => (by cases h), fun _ h => (by cases h), fun _ _ h => (by cases h)⟩
theorem TBC.swap (h : TBC T b w0 w oA oB) : TBC T b w0 w oB oA := ⟨h.M, h.B, h.A, fun p q hp hq => (h.ne q p hq hp).symm⟩
theorem TBC.allocA (h : TBC T b w0 w none oB) (c : Array Value) : TBC T b w0 (w.alloc (.cells c T)) (some (w.heap.size, c)) oB :=
  ⟨h.M.alloc _, fun p hp => by cases hp; exact ⟨heap_alloc_new w _, h.M.size⟩, fun p hp => ⟨heap_alloc (h.B p hp).1, (h.B p hp).2⟩, fun p q hp hq => by cases hp; have := lt_of_block (h.B q hq).1; omega⟩
theorem TBC.storeA {g : Nat} {c cs : Array Value} (h : TBC T b w0 w (some (g, c)) oB) (R : W.heap[g]? = some (.cells cs T (0, 0))) (M : Mods [g] w W) : TBC T b w0 W (some (g, cs)) oB :=
  ⟨h.M.comp M fun k hk => by simp at hk; subst hk; exact .inr (h.A _ rfl).2, fun p hp => by cases hp; exact ⟨R, (h.A _ rfl).2⟩, fun p hp => ⟨M.heap (h.B p hp).1 (by have := h.ne _ p rfl hp; simp; omega), (h.B p hp).2⟩, fun p q hp hq => by cases hp; exact h.ne (g, c) q rfl hq⟩
theorem TBC.call (h : TBC T b w0 w oA oB) (hb : b < w0.heap.size) (M : Mods [b] w W) : TBC T b w0 W oA oB :=
  ⟨h.M.comp M fun k hk => .inl hk, fun p hp => ⟨M.heap (h.A p hp).1 (by have := (h.A p hp).2; simp; omega), (h.A p hp).2⟩, fun p hp => ⟨M.heap (h.B p hp).1 (by have := (h.B p hp).2; simp; omega), (h.B p hp).2⟩, h.ne⟩
end

def oset {α : Type} (t : Array α) (d : Nat) : Option α → Array α
  | none => t
  | some v => t.setIfInBounds d v
theorem oset_comm {α : Type} {t : Array α} {d e : Nat} (h : d ≠ e) (o : Option α) (v : α) : (oset t d o).setIfInBounds e v = oset (t.setIfInBounds e v) d o := by
  cases o with
  | none => rfl
  | some u => exact Array.setIfInBounds_comm _ _ h
theorem oset_get {t : Array Value} {d k : Nat} (h : d ≠ k) (o : Option Value) : (oset t d o).getD k undef = t.getD k undef := by
  cases o with
  | none => rfl
  | some u => exact getD_set_other h
theorem oset_size {α : Type} {t : Array α} {d : Nat} (o : Option α) : (oset t d o).size = t.size := by cases o <;> simp [oset]
/-- The slots behind the first calls. -/
def cvs {α : Type} (dc : Nat → Nat) : Nat → Array α → List α → Array α
  | _, t, [] => t
  | k, t, v :: l => cvs dc (k + 1) (t.setIfInBounds (dc k) v) l
theorem cvs_snoc {α : Type} (dc : Nat → Nat) (v : α) : ∀ (l : List α) k t, cvs dc k t (l ++ [v]) = (cvs dc k t l).setIfInBounds (dc (k + l.length)) v
  | [], _, _ => rfl
  | u :: l, k, t => by
    show cvs dc (k + 1) _ (l ++ [v]) = _
    rw [cvs_snoc dc v l]
    show _ = (cvs dc (k + 1) _ l).setIfInBounds (dc (k + (l.length + 1))) v
    rw [show k + 1 + l.length = k + (l.length + 1) by omega]
theorem cvs_get (dc : Nat → Nat) {j : Nat} (h : ∀ k, dc k ≠ j) : ∀ (l : List Value) k t, (cvs dc k t l).getD j undef = t.getD j undef
  | [], _, _ => rfl
  | _ :: l, k, _ => (cvs_get dc h l (k + 1) _).trans (getD_set_other (h k))
theorem cvs_size {α : Type} (dc : Nat → Nat) : ∀ (l : List α) k t, (cvs dc k t l).size = t.size
  | [], _, _ => rfl
  | _ :: l, k, _ => (cvs_size dc l (k + 1) _).trans (by simp)

section
variable {P : Program} {ops : Array Oper} {Q : Exit → Act → World → Prop} {S : World → Prop} {md : Region.Mode} {T : TypeId}
theorem exec_call {o : Oper} {a : Act} {w : World} {K : Act → World → Prop} {E : Prop} (hgd : o.guard = none) {d : Nat} (hd : o.dst = some d) {f : FuncId} {args : Array Value}
    (hr : (execOp a.eval o).run P w = .ok (.enter f args) w) {R : Value → World → Prop} (hc : Calls P f args w fun e w' => ∃ v, e = .returned v ∧ R v w')
    (h : ∀ v w', R v w' → K { a with tmps := a.tmps.setIfInBounds d v } w') : if Region.wanted o (yielded ops a.tmps) = true then Oper.wp P o a w K Q else E := by
  rw [if_pos (by simp [Region.wanted, hgd])]
  unfold Oper.wp
  rw [hr]
  show Calls P f args w _
  refine hc.mono ?_
  rintro e w' ⟨v, rfl, hR⟩
  show K (a.put o.dst v) w'
  unfold Act.put
  rw [hd]
  exact h v w' hR
/-- The state: k calls are over. -/
def cbT (t : Array Value) (dc : Nat → Nat) (dA dB : Nat) (vs : List Value) (oA oB : Option Nat) : Array Value :=
  oset (oset (cvs dc 0 t vs) dA (oA.map fun g => .pointer (some ⟨g, 0, none⟩))) dB (oB.map fun g => .pointer (some ⟨g, 0, none⟩))
def cbL (l : Array Bool) (ic : Nat → Nat) (iA iB : Nat) (k : Nat) (bA bB : Bool) : Array Bool :=
  oset (oset (cvs ic 0 l (List.replicate k true)) iA (if bA then some true else none)) iB (if bB then some true else none)
theorem cbT_call {t : Array Value} {dc : Nat → Nat} {dA dB : Nat} (hA : ∀ k, dA ≠ dc k) (hB : ∀ k, dB ≠ dc k) (vs : List Value) (oA oB : Option Nat) (v : Value) :
    (cbT t dc dA dB vs oA oB).setIfInBounds (dc vs.length) v = cbT t dc dA dB (vs ++ [v]) oA oB := by
  unfold cbT
  rw [oset_comm (hB _), oset_comm (hA _), cvs_snoc, Nat.zero_add]
theorem cbT_A {t : Array Value} {dc : Nat → Nat} {dA dB : Nat} (h : dB ≠ dA) (vs : List Value) (oB : Option Nat) (g : Nat) :
    (cbT t dc dA dB vs none oB).setIfInBounds dA (.pointer (some ⟨g, 0, none⟩)) = cbT t dc dA dB vs (some g) oB := by
  unfold cbT
  rw [oset_comm h]; rfl
theorem cbT_B {t : Array Value} {dc : Nat → Nat} {dA dB : Nat} (vs : List Value) (oA : Option Nat) (g : Nat) :
    (cbT t dc dA dB vs oA none).setIfInBounds dB (.pointer (some ⟨g, 0, none⟩)) = cbT t dc dA dB vs oA (some g) := rfl
theorem cbL_call {l : Array Bool} {ic : Nat → Nat} {iA iB : Nat} (hA : ∀ k, iA ≠ ic k) (hB : ∀ k, iB ≠ ic k) (k : Nat) (bA bB : Bool) :
    (cbL l ic iA iB k bA bB).setIfInBounds (ic k) true = cbL l ic iA iB (k + 1) bA bB := by
  unfold cbL
  rw [oset_comm (hB _), oset_comm (hA _), List.replicate_succ', cvs_snoc, Nat.zero_add, List.length_replicate]
theorem cbL_A {l : Array Bool} {ic : Nat → Nat} {iA iB : Nat} (h : iB ≠ iA) (k : Nat) (bB : Bool) : (cbL l ic iA iB k false bB).setIfInBounds iA true = cbL l ic iA iB k true bB := by
  unfold cbL
  rw [oset_comm h]; rfl
theorem cbL_B {l : Array Bool} {ic : Nat → Nat} {iA iB : Nat} (k : Nat) (bA : Bool) : (cbL l ic iA iB k bA false).setIfInBounds iB true = cbL l ic iA iB k bA true := rfl

theorem cbT_get {t : Array Value} {dc : Nat → Nat} {dA dB s : Nat} (hA : dA ≠ s) (hB : dB ≠ s) (vs : List Value) (p q : Option Nat) : (cbT t dc dA dB vs p q).getD s undef = (cvs dc 0 t vs).getD s undef := by
  unfold cbT
  rw [oset_get hB, oset_get hA]
theorem callBoxes {lst : Array Bool} {n iA iB i4 i5 : Nat} {ic dc : Nat → Nat} {oc : Nat → Oper} {fc : Nat → FuncId} {ac : Nat → Array Value} {a : Act} {w0 w : World} {b : Nat} {J : List Value → World → Prop} {oA oB o4 o5 : Oper} {dA dB sA sB : Nat} {ty : TypeId} {z : Array Value} {fuel : Nat}
    (hc : ∀ k, k < n → ops[ic k]? = some (oc k) ∧ (oc k).guard = none ∧ (oc k).dst = some (dc k))
    (hrun : ∀ k, k < n → ∀ (x : List Value) (p q : Option Nat) w, (execOp (Act.eval { a with tmps := cbT a.tmps dc dA dB x p q }) (oc k)).run P w = .ok (.enter (fc k) (ac k)) w)
    (hcall : ∀ vs w, vs.length < n → J vs w → Calls P (fc vs.length) (ac vs.length) w fun e w' => ∃ v, e = .returned v ∧ (J (vs ++ [v]) w' ∧ Mods [b] w w'))
    (hJ : ∀ vs w c, J vs w → J vs (w.alloc c))
    (h2 : ops[iA]? = some oA) (h3 : ops[iB]? = some oB) (h4 : ops[i4]? = some o4) (h5 : ops[i5]? = some o5)
    (g2 : oA.guard = none) (g3 : oB.guard = none) (g4 : o4.guard = none) (g5 : o5.guard = none) (d2 : oA.dst = some dA) (d3 : oB.dst = some dB) (d4 : o4.dst = none) (d5 : o5.dst = none)
    (r2 : ∀ (a : Act) w, (execOp a.eval oA).run P w = .ok (.value (.pointer (some ⟨w.heap.size, 0, none⟩))) (w.alloc (.cells z T)))
    (r3 : ∀ (a : Act) w, (execOp a.eval oB).run P w = .ok (.value (.pointer (some ⟨w.heap.size, 0, none⟩))) (w.alloc (.cells z T)))
    (p4 : o4.op = .store ty (.tmp dA) (.tmp sA)) (p5 : o5.op = .store ty (.tmp dB) (.tmp sB))
    (hEnd : ∀ vs w, vs.length = n → J vs w → ∃ csA csB : Array Value, (∀ p q, (cbT a.tmps dc dA dB vs p q).getD sA undef = .agg csA) ∧ (∀ p q, (cbT a.tmps dc dA dB vs p q).getD sB undef = .agg csB) ∧ z.size = csA.size ∧ z.size = csB.size ∧ csA.all (·.oneCell') = true ∧ csB.all (·.oneCell') = true ∧
      ∀ gA gB W, TBC T b w0 W (some (gA, csA)) (some (gB, csB)) → (∃ w1, J vs w1 ∧ TBC T b w0 w1 (some (gA, z)) (some (gB, z)) ∧ Mods [gA, gB] w1 W) → wpAnyH P md ops Q S fuel (((cbL lst ic iA iB n true true).setIfInBounds i4 true).setIfInBounds i5 true) { a with tmps := cbT a.tmps dc dA dB vs (some gA) (some gB) } W)
    (iZ : (P.info? ty).map (·.size) = some z.size)
    (lA : dA < a.tmps.size) (lB : dB < a.tmps.size) (nAB : dA ≠ dB) (nA : ∀ k, dA ≠ dc k) (nB : ∀ k, dB ≠ dc k) (mAB : iA ≠ iB) (mA : ∀ k, iA ≠ ic k) (mB : ∀ k, iB ≠ ic k)
    (tab : ∀ k, k ≤ n → ∀ bA bB, Region.ready md ops (cbL lst ic iA iB k bA bB) = (if k < n then [ic k] else []) ++ ((if bA then [] else [iA]) ++ ((if bB then [] else [iB]) ++ (if k = n ∧ bA = true ∧ bB = true then [i4] else []))))
    (tab5 : Region.ready md ops ((cbL lst ic iA iB n true true).setIfInBounds i4 true) = [i5])
    (hS : ∀ w', Mods [b] w0 w' → S w') (hb : b < w0.heap.size)
    (hJ0 : J [] w) (hw : Mods [b] w0 w) :
    wpAnyH P md ops Q S (fuel + 2 + (n + 2)) lst a w := by
  have both : ∀ vs w gA gB, vs.length = n → J vs w → TBC T b w0 w (some (gA, z)) (some (gB, z)) → wpAnyH P md ops Q S (fuel + 2) (cbL lst ic iA iB n true true) { a with tmps := cbT a.tmps dc dA dB vs (some gA) (some gB) } w := by
    intro vs w gA gB hl hJv hW
    obtain ⟨csA, csB, vA, vB, zA, zB, oneA, oneB, hE⟩ := hEnd vs w hl hJv
    have e1 : (Act.eval { a with tmps := cbT a.tmps dc dA dB vs (some gA) (some gB) } (.tmp dA)) = .pointer (some ⟨gA, 0, none⟩) :=
      (getD_set_other nAB.symm).trans (getD_set_same (by rw [cvs_size]; exact lA))
    have e3 : (Act.eval { a with tmps := cbT a.tmps dc dA dB vs (some gA) (some gB) } (.tmp dB)) = .pointer (some ⟨gB, 0, none⟩) :=
      getD_set_same (by rw [oset_size, cvs_size]; exact lB)
    refine wpAnyH_ready (rs := [i4]) (by rw [tab n (Nat.le_refl _)]; simp) (by simp) (AllReadyH.cons h4 (fun K hk => ?_) AllReadyH.nil)
    refine exec_store g4 d4 p4 (hW.A _ rfl).1 e1 (vA _ _) zA (zA ▸ iZ) oneA (fun W' R M => ?_)
    have hW' := hW.storeA R M
    refine hk.out _ _ (hS _ hW'.M) (fun _ => ?_)
    refine wpAnyH_ready tab5 (by simp) (AllReadyH.cons h5 (fun K hk => ?_) AllReadyH.nil)
    refine exec_store g5 d5 p5 (hW'.B _ rfl).1 e3 (vB _ _) zB (zB ▸ iZ) oneB (fun W'' R M' => ?_)
    have hW'' := (hW'.swap.storeA R M').swap
    exact hk.out _ _ (hS _ hW''.M) (fun _ => hE _ _ _ hW'' ⟨w, hJv, hW, ((Mods.refl (S := [gA, gB])).comp M (fun k hk => .inl (by simp at hk; simp [hk]))).comp M' (fun k hk => .inl (by simp at hk; simp [hk]))⟩)
  have all : ∀ t vs (xA xB : Option (Nat × Array Value)) w, vs.length ≤ n → t = (n - vs.length) + ((if xA.isSome then 0 else 1) + (if xB.isSome then 0 else 1)) → J vs w → (∀ p, xA = some p → p.2 = z) → (∀ p, xB = some p → p.2 = z) → TBC T b w0 w xA xB →
      wpAnyH P md ops Q S (fuel + 2 + t) (cbL lst ic iA iB vs.length xA.isSome xB.isSome) { a with tmps := cbT a.tmps dc dA dB vs (xA.map (·.1)) (xB.map (·.1)) } w := by
    intro t
    induction t with
    | zero =>
      intro vs xA xB w hle ht hJv hA hB hW
      cases xA with
      | none => simp at ht; omega
      | some pA =>
        cases xB with
        | none => simp at ht
        | some pB =>
          have hl : vs.length = n := by simp at ht; omega
          obtain ⟨gA, zA⟩ := pA
          obtain ⟨gB, zB⟩ := pB
          obtain rfl : zA = z := hA _ rfl
          obtain rfl : zB = zA := hB _ rfl
          have := both vs w gA gB hl hJv hW
          rw [← hl] at this
          exact this
    | succ t ih =>
      intro vs xA xB w hle ht hJv hA hB hW
      have hr := tab vs.length hle xA.isSome xB.isSome
      refine wpAnyH_ready hr ?_ ?_
      · intro he
        rcases Nat.lt_or_ge vs.length n with hk | hk
        · rw [if_pos hk] at he; cases he
        · have hk : vs.length = n := by omega
          cases xA with
          | none => rw [if_neg (by omega)] at he; cases he
          | some pA =>
            cases xB with
            | none => rw [if_neg (by omega)] at he; cases he
            | some pB => simp at ht; omega
      · intro i hi
        simp only [List.mem_append] at hi
        rcases hi with hi | hi | hi | hi
        · by_cases hk : vs.length < n
          · rw [if_pos hk] at hi
            obtain rfl := List.mem_singleton.1 hi
            obtain ⟨c1, c2, c3⟩ := hc _ hk
            refine (AllReadyH.cons c1 (fun K hK => ?_) AllReadyH.nil) _ (List.mem_singleton.2 rfl)
            refine exec_call c2 c3 (hrun _ hk vs _ _ w) (hcall vs w hk hJv) ?_
            rintro v w' ⟨hJ', M⟩
            have hW' := hW.call hb M
            refine hK.out _ _ (hS _ hW'.M) (fun _ => ?_)
            have := ih (vs ++ [v]) xA xB w' (by simp; omega) (by simp; omega) hJ' hA hB hW'
            rw [List.length_append, List.length_singleton, ← cbL_call mA mB, ← cbT_call nA nB] at this
            exact this
          · rw [if_neg hk] at hi; cases hi
        · cases xA with
          | some pA => simp at hi
          | none =>
            obtain rfl : i = iA := by simpa using hi
            refine (AllReadyH.cons h2 (fun K hK => ?_) AllReadyH.nil) _ (List.mem_singleton.2 rfl)
            refine exec_alloc g2 d2 r2 ?_
            have hW' := hW.allocA z
            refine hK.out _ _ (hS _ hW'.M) (fun _ => ?_)
            have := ih vs (some (w.heap.size, z)) xB _ hle (by simp at ht ⊢; omega) (hJ _ _ (.cells z T) hJv) (fun p hp => by cases hp; rfl) hB hW'
            simp only [Option.isSome_some, Option.map_some] at this
            rw [← cbL_A mAB.symm, ← cbT_A nAB.symm] at this
            exact this
        · cases xB with
          | some pA => simp at hi
          | none =>
            obtain rfl : i = iB := by simpa using hi
            refine (AllReadyH.cons h3 (fun K hK => ?_) AllReadyH.nil) _ (List.mem_singleton.2 rfl)
            refine exec_alloc g3 d3 r3 ?_
            have hW' := (hW.swap.allocA z).swap
            refine hK.out _ _ (hS _ hW'.M) (fun _ => ?_)
            have := ih vs xA (some (w.heap.size, z)) _ hle (by simp at ht ⊢; omega) (hJ _ _ (.cells z T) hJv) hA (fun p hp => by cases hp; rfl) hW'
            simp only [Option.isSome_some, Option.map_some] at this
            rw [← cbL_B, ← cbT_B] at this
            exact this
        · split at hi
          · rename_i he
            obtain ⟨e1, e2, e3⟩ := he
            rw [if_pos e2, if_pos e3] at ht
            omega
          · cases hi
  exact all (n + 2) [] none none w (by simp) (by simp) hJ0 (fun _ h => (by cases h)) (fun _ h => (by cases h)) ⟨hw, fun _ h => (by cases h), fun _ h => (by cases h), fun _ _ h => (by cases h)⟩
end
end Go.Proofs.YtijjkonephjodaaGreatDoor
