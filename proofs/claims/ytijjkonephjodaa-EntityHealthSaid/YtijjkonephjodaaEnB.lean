/- Joined texts. What is around an entity: entity.around, the reference's Has, Less and Around: contracts. | The reference's Has, Less and Around: contracts. | The reference's Check of associations: contract. -/
import Derived.Test.YtijjkonephjodaaEnA
import Derived.Test.YtijjkonephjodaaAppB
namespace Go.Proofs.Ytijjkonephjodaa
open Go.RowKit

theorem freshA {w w' : World} {o : Obj} (M : Mods [w.heap.size] (w.alloc o) w') : Mods [] w w' := (Mods.refl.alloc o).comp M fun k hk => by simp at hk; subst hk; exact .inr (Nat.le_refl _)
theorem Ent.one (e : Ent) : e.cells.toArray.all (·.oneCell') = true := by simp [Ent.cells, Value.oneCell']
def sliceLen : Value → Nat
  | .slice _ n _ => n
  | _ => 0
/-- A list of what is around e, of the call's own. -/
def AroundRes (w : World) (l : List Asc) (e : Ent) (en : Ending) (w' : World) : Prop := ∃ v A, en = .returned v ∧ OwnE entE w' w.heap.size v A ∧ Arnd l e A ∧ Mods [] w w'
structure ArStep (w : World) (l : List Asc) (e : Ent) (v : Value) (wr : World) (m : Nat) : Prop where
  some : (up l e m).isSome = true
  nod : (upL l e m).Nodup
  own : OwnE entE wr (w.heap.size + 1) v (upL l e m)
  box : EntBox wr w.heap.size ((up l e m).getD default)
  M : Mods [] w wr
set_option maxRecDepth 100000 in
set_option maxHeartbeats 4000000 in
theorem around_ok (w : World) (l : List Asc) (hl : l.length ≤ 1000) (e : Ent) (v : Value) (hv : RdE ascE w v l) :
    Calls Try.prog 66 #[v, .agg e.cells.toArray] w fun en w' => AroundRes w l e en w' := by
  obtain ⟨ad, cap, rfl⟩ := hv.len
  have HV := Lib.hid hv
  have M0 := (Mods.refl (S := []) (w := w)).alloc (.cells e.cells.toArray 23)
  have HS0 := Lib.hid (show ArStep w l e (.slice none 0 0) (w.alloc (.cells e.cells.toArray 23)) 0 from ⟨rfl, by simp [upL], OwnE.nil _ _ _, EntBox.new w e, M0⟩)
  have HF := Lib.hid (fun (v : Value) (A : List Ent) (w' : World) (O : OwnE entE w' (w.heap.size + 1) v A) (hA : Arnd l e A) (M : Mods [] w w') => show AroundRes w l e (.returned v) w' from ⟨v, A, rfl, O.down (Nat.le_succ _), hA, M⟩)
  clear hv M0
  go_enter Try.func66, Try.ntmps66
  go_wp2_with fail
  generalize (w.alloc (.cells e.cells.toArray 23)) = w0 at HS0 ⊢
  go_loopw [5] (fun u wr => ∃ m, ArStep w l e u wr m) (fun u _ => l.length + 1 - sliceLen u)
  case atStart => exact ⟨0, HS0.out⟩
  case round =>
    obtain ⟨m, hS⟩ := hrel
    obtain ⟨x, hx⟩ := Option.isSome_iff_exists.1 hS.some
    have hB := hS.box
    rw [hx] at hB
    have hB : EntBox wr w.heap.size x := hB
    obtain ⟨ad2, cap2, hu⟩ := (hS.own.rd entOk).len
    have hsz : w.heap.size + 1 ≤ wr.heap.size := by have := hB.lt; omega
    rw [upL_length] at hu
    subst hu
    have HS := Lib.hid hS
    have HX := Lib.hid hx
    have e0 := hB.c0
    have e1 := hB.c1
    have hml : m ≤ l.length := by have := upL_le hS.some hS.nod; omega
    clear hS hx hB
    go_wp2_with fail
    refine (parent_ok wr l x _ (HV.out.mods0 ascOk HS.out.M)).mono ?_
    rintro en w2 ⟨rfl, M2⟩
    obtain ⟨p, hp⟩ : ∃ p, p = parV l x := ⟨_, rfl⟩
    obtain ⟨ok, hok⟩ : ∃ ok, ok = (par l x).isSome := ⟨_, rfl⟩
    rw [← hp, ← hok]
    have HP := Lib.hid (show par l x = if ok = true then some p else none by
      rw [hok, hp]
      unfold parV
      cases par l x <;> simp)
    have HM2 := Lib.hid (HS.out.M.trans M2)
    have HO2 := Lib.hid (HS.out.own.mods0 M2)
    have HB2 := Lib.hid (HS.out.box.mods0 M2)
    have hz2 : w.heap.size + 1 ≤ w2.heap.size := Nat.le_trans hsz M2.size
    have HZ2 := Lib.hid hz2
    clear hp hok M2 e0 e1 hsz hz2
    cases ok with
    | false =>
      go_wp2_with (refine wpList_store_row (cs := p.cells.toArray) rfl 23 (.tmp 6) (.tmp 12) rfl (heap_alloc_new w2 _) (by rfl) (by rfl) (by rfl) Try.sizeEnt (Ent.one p) ?_; intro w3 R3 M3; have HF3 := Lib.hid (freshA M3); have HR3 := Lib.hid (show EntBox w3 w2.heap.size p from R3); have b0 := HR3.out.c0; have b1 := HR3.out.c1; clear R3 M3)
      have HM3 := Lib.hid (HM2.out.trans HF3.out)
      have HO3 := Lib.hid (HO2.out.mods0 HF3.out)
      have HB3 := Lib.hid (HB2.out.mods0 HF3.out)
      have HE := Lib.hid (arnd_end HS.out.some HS.out.nod (fun q hq => by
        have h1 : up l e (m + 1) = (up l e m).bind (par l) := rfl
        rw [h1, HX.out] at hq
        have h2 : par l x = some q := hq
        rw [HP.out] at h2
        cases h2))
      go_wp2_with fail
      go_ret
      exact HF.out _ _ _ HO3.out HE.out HM3.out
    | true =>
      go_wp2_with (refine wpList_store_row (cs := p.cells.toArray) rfl 23 (.tmp 6) (.tmp 12) rfl (heap_alloc_new w2 _) (by rfl) (by rfl) (by rfl) Try.sizeEnt (Ent.one p) ?_; intro w3 R3 M3; have HF3 := Lib.hid (freshA M3); have HR3 := Lib.hid (show EntBox w3 w2.heap.size p from R3); have b0 := HR3.out.c0; have b1 := HR3.out.c1; clear R3 M3)
      have HM3 := Lib.hid (HM2.out.trans HF3.out)
      have HO3 := Lib.hid (HO2.out.mods0 HF3.out)
      have HB3 := Lib.hid (HB2.out.mods0 HF3.out)
      have HP1 := Lib.hid (show up l e (m + 1) = some p by
        have h1 : up l e (m + 1) = (up l e m).bind (par l) := rfl
        rw [h1, HX.out]
        exact HP.out)
      have HC := Lib.hid (contains_ok w3 (upL l e m) p _ (HO3.out.rd entOk))
      go_wp2_with fail
      refine HC.out.mono ?_
      by_cases hin : p ∈ upL l e m
      · rw [decide_eq_true hin]
        rintro en w4 ⟨rfl, M4⟩
        have HE := Lib.hid (arnd_end HS.out.some HS.out.nod (fun q hq => by rw [HP1.out] at hq; injection hq with hq; rw [← hq]; exact hin))
        have HM4 := Lib.hid (HM3.out.trans M4)
        have HO4 := Lib.hid (HO3.out.mods0 M4)
        clear M4 hin
        go_wp2_with fail
        go_ret
        exact HF.out _ _ _ HO4.out HE.out HM4.out
      · rw [decide_eq_false hin]
        rintro en w4 ⟨rfl, M4⟩
        have HN := Lib.hid (upL_nodup_snoc HS.out.nod HP1.out hin)
        have HM4 := Lib.hid (HM3.out.trans M4)
        have HO4 := Lib.hid (HO3.out.mods0 M4)
        have HB4 := Lib.hid (HB3.out.mods0 M4)
        have HR4 := Lib.hid (HR3.out.mods0 M4)
        have HZ4 := Lib.hid (show w.heap.size + 1 ≤ w4.heap.size from Nat.le_trans HZ2.out (HF3.out.trans M4).size)
        have HL := Lib.hid (show m < l.length from by have := upL_le (m := m + 1) (by rw [HP1.out]; rfl) HN.out; omega)
        clear M4 hin b0 b1
        go_wp2_with fail
        have hgp : w.heap.size < w2.heap.size := by have := HZ2.out; omega
        have HLT := Lib.hid (fun k hk => (HO2.out.lt k hk).2)
        generalize w2.heap.size = gp at HR4 hgp HLT ⊢
        refine heldStart (S := fun W => EntBox W gp p) 7 rfl (by kernel_rfl) (HR4.out.mods0 Mods.refl.drew) (fun hHeld => ?_)
        refine takeD (i := 0) (d := 22) (v := ?_) rfl rfl (by kernel_rfl) (by kernel_rfl) (by kernel_rfl) (fun _ _ _ h => h) (Or.inl ⟨by rfl, ?_⟩) hHeld ?_
        rotate_left 1
        · (intro w hSw; (try dsimp only at hSw); go_simp; (try with_reducible rfl))
        simp only [List.setIfInBounds_toArray, List.set_cons_zero, List.set_cons_succ]
        refine takeD (i := 1) (d := 23) (v := .agg #[.int .u8 ((p.id.val : Nat) : Int), .int .u8 ((p.inst.val : Nat) : Int)]) rfl rfl (by kernel_rfl) (by kernel_rfl) (by kernel_rfl) (fun _ _ _ h => h) (yieldsIf_load_row rfl 23 (.tmp 6) rfl gp rfl 23 #[.int .u8 ((p.id.val : Nat) : Int), .int .u8 ((p.inst.val : Nat) : Int)] (0, 0) _ (fun _ h=>h) Try.underlying23 rfl Try.sizeEnt) hHeld ?_
        simp only [List.setIfInBounds_toArray, List.set_cons_zero, List.set_cons_succ]
        refine takeD (i := 4) (d := 26) (v := .agg #[.int .u8 ((p.id.val : Nat) : Int), .int .u8 ((p.inst.val : Nat) : Int)]) rfl rfl (by kernel_rfl) (by kernel_rfl) (by kernel_rfl) (fun _ _ _ h => h) (yieldsIf_load_row rfl 23 (.tmp 6) rfl gp rfl 23 #[.int .u8 ((p.id.val : Nat) : Int), .int .u8 ((p.inst.val : Nat) : Int)] (0, 0) _ (fun _ h=>h) Try.underlying23 rfl Try.sizeEnt) hHeld ?_
        simp only [List.setIfInBounds_toArray, List.set_cons_zero, List.set_cons_succ]
        have HM5 := Lib.hid (HM4.out.drew)
        have HO5 := Lib.hid (HO4.out.mods0 Mods.refl.drew)
        have HB5 := Lib.hid (HB4.out.mods0 Mods.refl.drew)
        have HZ5 := Lib.hid (show w.heap.size + 1 ≤ w4.drew.heap.size from HZ4.out)
        clear HM4 HO4 HB4 HZ4
        generalize w4.drew = w5 at HM5 HO5 HB5 HZ5 hHeld ⊢
        refine wpAnyH_ready (rs := [2]) (by kernel_rfl) (by simp) ?_
        refine AllReadyH.cons rfl (fun K hK => ?_) AllReadyH.nil
        go_simp
        have MA := (Mods.refl (S := []) (w := w5)).alloc (.cells p.cells.toArray 23)
        refine hK.out _ _ (EntBox.mods0 hHeld MA) (fun hHeld => ?_)
        clear hK K
        refine wpAnyH_ready (rs := [3]) (by kernel_rfl) (by simp) ?_
        refine AllReadyH.cons rfl (fun K hK => ?_) AllReadyH.nil
        refine step_appE entOk (by rfl) 25 rfl (.tmp 22) (.tmp 24) rfl (by rfl) (HO5.out.mods0 MA) (by rfl) (RdE.one (a := p) (heap_alloc_new w5 _) rfl) (by rw [upL_length]; simp; omega) (by have := HZ5.out; simp; omega) (fun VB WB OB MB => ?_)
        have hown : ∀ k ∈ (Value.slice ad2 m cap2).ownBlock.toList, w.heap.size + 1 ≤ k := fun k hk => (HO5.out.lt k (by simpa using hk)).1
        have hownT : gp ∉ (Value.slice ad2 m cap2).ownBlock.toList := fun hk => by
          have := HLT.out gp (by simpa using hk)
          omega
        refine hK.out _ _ (EntBox.mods hHeld MB hownT) (fun hHeld => ?_)
        have HMB := Lib.hid ((HM5.out.trans MA).comp MB (fun k hk => .inr (by have := hown k hk; omega)))
        have HBB := Lib.hid ((HB5.out.mods0 MA).mods MB (fun hk => by have := hown _ hk; omega))
        have HOB := Lib.hid OB
        clear hK K OB MB MA hown hownT HO5 HB5
        simp only [List.setIfInBounds_toArray, List.set_cons_zero, List.set_cons_succ]
        refine takeD (i := 5) (d := 5) (v := ?_) rfl rfl (by kernel_rfl) (by kernel_rfl) (by kernel_rfl) (fun _ _ _ h => h) (Or.inl ⟨by rfl, ?_⟩) hHeld ?_
        rotate_left 1
        · (intro w hSw; (try dsimp only at hSw); go_simp; (try with_reducible rfl))
        simp only [List.setIfInBounds_toArray, List.set_cons_zero, List.set_cons_succ]
        refine wpAnyH_ready (rs := [6]) (by kernel_rfl) (by simp) ?_
        refine AllReadyH.cons rfl (fun K hK => ?_) AllReadyH.nil
        refine exec_store (cs := p.cells.toArray) rfl rfl rfl HBB.out (by rfl) (by rfl) (by rfl) Try.sizeEnt (Ent.one p) (fun WC RC MC => ?_)
        refine hK.out _ _ (EntBox.mods hHeld MC (by simp; omega)) (fun hHeld => ?_)
        clear hK K
        have HST := Lib.hid (show ArStep w l e VB WC (m + 1) from ⟨by rw [HP1.out]; rfl, HN.out, by
          have := HOB.out.mods MC (fun k hk hm => by simp at hm; subst hm; have := (HOB.out.lt _ hk).1; omega)
          rw [upL, HP1.out]
          exact this, by rw [HP1.out]; exact RC, HMB.out.comp MC (fun k hk => by simp at hk; subst hk; exact .inr (Nat.le_refl _))⟩)
        obtain ⟨ad3, cap3, hvb⟩ := (HST.out.own.rd entOk).len
        rw [upL_length] at hvb
        subst hvb
        refine wpAnyH_done (by kernel_rfl) ?_ _
        go_wp2_with fail
        go_roundw
        case rel => exact ⟨m + 1, HST.out⟩
        case measure => have := HL.out; simp [sliceLen]; omega
end Go.Proofs.Ytijjkonephjodaa

namespace Go.Proofs.Ytijjkonephjodaa
open Go.RowKit

set_option maxRecDepth 100000 in
set_option maxHeartbeats 2000000 in
theorem refHas_ok (w : World) (l : List Ent) (e : Ent) (v : Value) (hv : RdE entE w v l) :
    Calls Try.prog 68 #[v, .agg e.cells.toArray] w fun en w' => en = .returned (.bool (decide (e ∈ l))) ∧ Mods [] w w' := by
  obtain ⟨ad, cap, rfl⟩ := hv.len
  have hcap := hv.bound
  have M0 := ((Mods.refl (S := []) (w := w)).alloc (.cells e.cells.toArray 23))
  have B0 := EntBox.new w e
  have HV := Lib.hid hv
  obtain ⟨K, hK⟩ : ∃ K, K = l.findIdx fun x => decide (x = e) := ⟨_, rfl⟩
  have hKl : K ≤ l.length := hK ▸ List.findIdx_le_length
  have HB := Lib.hid (fun j (hj : j < K) => show decide (l.getD j default = e) = false from by
    have hj2 : j < l.length := by omega
    have := List.not_of_lt_findIdx (p := fun x : Ent => decide (x = e)) (xs := l) (i := j) (by rw [hK] at hj; exact hj)
    rw [List.getD_eq_getElem?_getD, List.getElem?_eq_getElem hj2]
    simpa using this)
  have HA := Lib.hid (fun (h : K < l.length) => show decide (l.getD K default = e) = true from by
    have := List.findIdx_getElem (p := fun x : Ent => decide (x = e)) (xs := l) (w := by rw [hK] at h; exact h)
    rw [List.getD_eq_getElem?_getD, List.getElem?_eq_getElem h]
    subst hK
    exact this)
  have HI := Lib.hid (show decide (e ∈ l) = decide (K < l.length) by
    rw [hK, Bool.eq_iff_iff, decide_eq_true_eq, decide_eq_true_eq, List.findIdx_lt_length]
    simp)
  generalize decide (e ∈ l) = V at HI ⊢
  clear hv hK
  go_enter Try.func68, Try.ntmps68
  go_wp2_with fail
  generalize (w.alloc (.cells e.cells.toArray 23)) = w2 at B0 M0 ⊢
  generalize w.heap.size = g0 at B0 ⊢
  go_loopw [5] (fun i wr => ∃ k : Nat, k ≤ K ∧ i = .int .i64 k ∧ Mods [] w2 wr) (fun i _ => K - (intOf i).toNat)
  case atStart => exact ⟨0, Nat.zero_le _, rfl, Mods.refl⟩
  case round =>
    obtain ⟨k, hk, rfl, M⟩ := hrel
    have i0 : (0 : Int) ≤ (k : Int) := by omega
    have BR := B0.mods0 M
    have HM := Lib.hid (M0.trans M)
    have HM2 := Lib.hid M
    have e0 := BR.c0
    have e1 := BR.c1
    clear BR M
    by_cases hlt : k < l.length
    · have i1 : (k : Int) < (l.length : Int) := by omega
      obtain ⟨bb, off, cap, hv2, _, _, hc⟩ := (HV.out.mods0 entOk HM.out).ent (by omega)
      injection hv2 with hv3 _ hv4
      subst hv3 hv4
      obtain ⟨y0, y1⟩ := hc k hlt
      have HBk := Lib.hid (HB.out k)
      have HAk := Lib.hid (fun h : k = K => show decide (l.getD k default = e) = true from by rw [h]; exact HA.out (h ▸ hlt))
      generalize (l.getD k default) = x at y0 y1 HBk HAk
      have hE := fun w => ent_eq' x e w
      generalize decide (x = e) = r at hE HBk HAk
      clear hc
      by_cases hkK : k < K
      · obtain rfl : r = false := HBk.out hkK
        go_wp2_with fail
        go_quiet (fail)
        go_wp2_with fail
        go_roundw
        case rel => exact ⟨k + 1, by omega, by go_num, HM2.out.drewN nq⟩
        case measure => simp [intOf]; omega
      · obtain rfl : k = K := by omega
        obtain rfl : r = true := HAk.out rfl
        have HRES := Lib.hid (show V = true by rw [HI.out, decide_eq_true hlt])
        go_wp2_with fail
        go_quiet (fail)
        go_wp2_with fail
        go_ret
        exact ⟨ret_bool HRES.out.symm, HM.out.drewN nq⟩
    · have i1 : ¬ (k : Int) < (l.length : Int) := by omega
      have HRES := Lib.hid (show V = false by rw [HI.out, decide_eq_false (by omega)])
      go_wp2_with fail
      go_ret
      exact ⟨ret_bool HRES.out.symm, HM.out⟩
set_option maxHeartbeats 1000000 in
theorem entLess_ok (w : World) (a b : Ent) :
    Calls Try.prog 70 #[.agg a.cells.toArray, .agg b.cells.toArray] w fun en w' => en = .returned (.bool (decide (ltE a b))) ∧ Mods [] w w' := by
  have M0 := Lib.hid (((Mods.refl (S := []) (w := w)).alloc (.cells a.cells.toArray 23)).alloc (.cells b.cells.toArray 23))
  obtain ⟨⟨a0, ha0⟩, ⟨a1, ha1⟩⟩ := a
  obtain ⟨⟨b0, hb0⟩, ⟨b1, hb1⟩⟩ := b
  have HD := Lib.hid (show decide (ltE ⟨⟨a0, ha0⟩, ⟨a1, ha1⟩⟩ ⟨⟨b0, hb0⟩, ⟨b1, hb1⟩⟩) = decide (a0 < b0 ∨ (a0 = b0 ∧ a1 < b1)) from rfl)
  rw [HD.out]
  simp only [Ent.cells] at M0 ⊢
  clear HD
  go_enter Try.func70, Try.ntmps70
  by_cases h1 : a0 < b0
  · have d1 : decide ((a0 : Int) < (b0 : Int)) = true := decide_eq_true (by omega)
    go_wp2_with fail
    go_ret
    exact ⟨ret_bool (by simp [h1]), M0.out⟩
  · have d1 : decide ((a0 : Int) < (b0 : Int)) = false := decide_eq_false (by omega)
    by_cases h2 : a0 = b0
    · subst h2
      go_wp2_with fail
      go_ret
      exact ⟨ret_bool (by simp), M0.out⟩
    · have d2 : ((a0 : Int) == (b0 : Int)) = false := by simp; omega
      go_wp2_with fail
      go_ret
      exact ⟨ret_bool (by simp [h1, h2]), M0.out⟩
/-- e and what is around it, of the call's own. -/
def RefAroundRes (w : World) (l : List Asc) (e : Ent) (en : Ending) (w' : World) : Prop := ∃ v A, en = .returned v ∧ OwnE entE w' w.heap.size v (e :: A) ∧ Arnd l e A ∧ Mods [] w w'
structure RaStep (w : World) (l : List Asc) (e : Ent) (v : Value) (wr : World) (m : Nat) : Prop where
  some : (up l e m).isSome = true
  own : OwnE entE wr w.heap.size v (e :: upL l e m)
  M : Mods [] w wr
theorem last_up {l : List Asc} {e x : Ent} {m : Nat} (hx : up l e m = some x) : (e :: upL l e m).getD m default = x := by
  cases m with
  | zero => exact Option.some.inj hx
  | succ m =>
    rw [List.getD_cons_succ, upL, List.getD_eq_getElem?_getD, List.getElem?_append_right (by rw [upL_length]; exact Nat.le_refl _), upL_length, Nat.sub_self, hx]
    rfl
set_option maxRecDepth 100000 in
set_option maxHeartbeats 4000000 in
theorem refAround_ok (w : World) (l : List Asc) (hl : l.length ≤ 1000) (hc : cycB l = false) (e : Ent) (v : Value) (hv : RdE ascE w v l) :
    Calls Try.prog 69 #[v, .agg e.cells.toArray] w fun en w' => RefAroundRes w l e en w' := by
  obtain ⟨ad, cap, rfl⟩ := hv.len
  have HV := Lib.hid hv
  have HC := Lib.hid hc
  have M0 := (Mods.refl (S := []) (w := w)).alloc (.cells e.cells.toArray 23)
  have O1 := OwnE.lit entOk (w.alloc (.cells e.cells.toArray 23)) (B := w.heap.size) M0.size [e] (by unfold maxLen; simp)
  have HS0 := Lib.hid (show RaStep w l e (.slice (some ⟨w.heap.size + 1, 0, none⟩) 1 1) ((w.alloc (.cells e.cells.toArray 23)).alloc (.cells e.cells.toArray 23)) 0 from ⟨rfl, by
    rw [World.size_alloc] at O1
    exact O1, M0.alloc _⟩)
  have HF := Lib.hid (fun (v : Value) (A : List Ent) (w' : World) (O : OwnE entE w' w.heap.size v (e :: A)) (hA : Arnd l e A) (M : Mods [] w w') => show RefAroundRes w l e (.returned v) w' from ⟨v, A, rfl, O, hA, M⟩)
  have B0 := EntBox.new w e
  have e0 := B0.c0
  have e1 := B0.c1
  clear hv M0 O1 hc B0
  go_enter Try.func69, Try.ntmps69
  go_wp2_with fail
  change Hid (RaStep w l e _ ((w.alloc (.cells e.cells.toArray 23)).alloc (.cells #[.int .u8 ((e.id.val : Nat) : Int), .int .u8 ((e.inst.val : Nat) : Int)] 23)) 0) at HS0
  clear e0 e1
  generalize ((w.alloc (.cells e.cells.toArray 23)).alloc (.cells #[.int .u8 ((e.id.val : Nat) : Int), .int .u8 ((e.inst.val : Nat) : Int)] 23)) = w0 at HS0 ⊢
  go_loopw [5] (fun u wr => ∃ m, RaStep w l e u wr m) (fun u _ => l.length + 2 - sliceLen u)
  case atStart => exact ⟨0, HS0.out⟩
  case round =>
    obtain ⟨m, hS⟩ := hrel
    obtain ⟨x, hx⟩ := Option.isSome_iff_exists.1 hS.some
    have hlen : (e :: upL l e m).length = m + 1 := by rw [List.length_cons, upL_length]
    obtain ⟨g, off, cap2, hu, hcp, hcp2, hcl⟩ := (hS.own.rd entOk).ent (by omega)
    obtain ⟨y0, y1⟩ := hcl m (by omega)
    rw [last_up hx] at y0 y1
    rw [hlen] at hu hcp
    subst hu
    have HS := Lib.hid hS
    have HX := Lib.hid hx
    have hml : m ≤ l.length := by have := upL_le hS.some (nocyc_nodup HC.out hS.some).1; omega
    have i0 : (0 : Int) ≤ (m : Int) := by omega
    have hws : IntKind.i64.wrap ((m : Int) + 1 - 1) = (m : Int) := by rw [show (m : Int) + 1 - 1 = m by omega]; exact IntWalk.i64_in _ (by omega)
    clear hS hx hcl hlen
    go_wp2_with fail
    refine (refParent_ok wr l x _ (HV.out.mods0 ascOk HS.out.M)).mono ?_
    rintro en w2 ⟨rfl, M2⟩
    obtain ⟨p, hp⟩ : ∃ p, p = parV l x := ⟨_, rfl⟩
    obtain ⟨ok, hok⟩ : ∃ ok, ok = (par l x).isSome := ⟨_, rfl⟩
    rw [← hp, ← hok]
    have HP := Lib.hid (show par l x = if ok = true then some p else none by
      rw [hok, hp]
      unfold parV
      cases par l x <;> simp)
    have HM2 := Lib.hid (HS.out.M.trans M2)
    have HO2 := Lib.hid (HS.out.own.mods0 M2)
    have hz2 := HM2.out.size
    clear hp hok M2 y0 y1 hws
    cases ok with
    | false =>
      go_wp2_with (refine wpList_store_row (cs := p.cells.toArray) rfl 23 (.tmp 6) (.tmp 19) rfl (heap_alloc_new w2 _) (by rfl) (by rfl) (by rfl) Try.sizeEnt (Ent.one p) ?_; intro w3 R3 M3; have HF3 := Lib.hid (freshA M3); clear R3 M3)
      have HM3 := Lib.hid (HM2.out.trans HF3.out)
      have HO3 := Lib.hid (HO2.out.mods0 HF3.out)
      have HE := Lib.hid (arnd_end HS.out.some (nocyc_nodup HC.out HS.out.some).1 (fun q hq => by
        have h1 : up l e (m + 1) = (up l e m).bind (par l) := rfl
        rw [h1, HX.out] at hq
        have h2 : par l x = some q := hq
        rw [HP.out] at h2
        cases h2))
      go_wp2_with fail
      go_ret
      exact HF.out _ _ _ HO3.out HE.out HM3.out
    | true =>
      have HP1 := Lib.hid (show up l e (m + 1) = some p by
        have h1 : up l e (m + 1) = (up l e m).bind (par l) := rfl
        rw [h1, HX.out]
        exact HP.out)
      have HL := Lib.hid (show m < l.length from by have := upL_le (m := m + 1) (by rw [HP1.out]; rfl) (nocyc_nodup HC.out (by rw [HP1.out]; rfl)).1; omega)
      have HAF : Hid (∀ w3, Mods [] w2 w3 → OwnE entE (w3.alloc (.cells p.cells.toArray 23)) w.heap.size (.slice (some ⟨g, off, none⟩) (m + 1) cap2) (e :: upL l e m) ∧ RdE entE (w3.alloc (.cells p.cells.toArray 23)) (.slice (some ⟨w3.heap.size, 0, none⟩) 1 1) [p] ∧ Mods [] w (w3.alloc (.cells p.cells.toArray 23))) := Lib.hid (fun w3 M3 => by
        have MA := (Mods.refl (S := []) (w := w3)).alloc (.cells p.cells.toArray 23)
        exact ⟨HO2.out.mods0 (M3.trans MA), RdE.one (a := p) (heap_alloc_new w3 _) rfl, (HM2.out.trans M3).trans MA⟩)
      go_wp2_with (first
        | (refine wpList_store_row (cs := p.cells.toArray) rfl 23 (.tmp 6) (.tmp 19) rfl (heap_alloc_new w2 _) (by rfl) (by rfl) (by rfl) Try.sizeEnt (Ent.one p) ?_; intro w3 R3 M3; have HAP := Lib.hid (HAF.out w3 (freshA M3)); have hz3 := HAP.out.2.2.size; have b0 := (show EntBox w3 w2.heap.size p from R3).c0; have b1 := (show EntBox w3 w2.heap.size p from R3).c1; clear R3 M3)
        | (at_builtin; refine wpList_appE entOk (by rfl) (.tmp 24) (.tmp 26) rfl (by rfl) HAP.out.1 (by rfl) HAP.out.2.1 (by rw [List.length_cons, upL_length]; simp; omega) (by simp at hz3 ⊢; omega) ?_; intro VB WB OB MB; have HST := Lib.hid (show RaStep w l e VB WB (m + 1) from ⟨by rw [HP1.out]; rfl, by rw [upL, HP1.out]; exact OB, HAP.out.2.2.comp MB (fun k hk => .inr (HAP.out.1.back hk))⟩); clear OB MB))
      obtain ⟨ad3, cap3, hvb⟩ := (HST.out.own.rd entOk).len
      rw [List.length_cons, upL_length] at hvb
      subst hvb
      go_roundw
      case rel => exact ⟨m + 1, HST.out⟩
      case measure => have := HL.out; simp [sliceLen]; omega
end Go.Proofs.Ytijjkonephjodaa

namespace Go.Proofs.Ytijjkonephjodaa
open Go.RowKit

theorem abv_all {l : List Asc} {e x : Ent} (h : ∀ j, j < l.length → up l e (j + 1) ≠ some x) : abv l e x = false := by
  unfold abv
  rw [List.any_eq_false]
  intro j hj
  have := h j (List.mem_range.1 hj)
  simpa using this
theorem abv_stop {l : List Asc} {e x : Ent} {k : Nat} (h : ∀ j, j < k → up l e (j + 1) ≠ some x) (hn : up l e (k + 1) = none) : abv l e x = false := by
  refine abv_all fun j _ => ?_
  rcases Nat.lt_or_ge j k with h1 | h1
  · exact h j h1
  · intro hj
    have := up_some_le (k := j + 1) (j := k + 1) (by rw [hj]; rfl) (by omega)
    rw [hn] at this
    cases this
theorem dup_none {l : List Asc} (h : ∀ i, i < l.length → ∀ j, j < i → (l.getD j default).inn ≠ (l.getD i default).inn) : dupB l = false := by
  unfold dupB
  rw [List.any_eq_false]
  intro i hi
  simp only [Bool.not_eq_true]
  rw [List.any_eq_false]
  intro j hj
  have := h i (List.mem_range.1 hi) j (List.mem_range.1 hj)
  simpa using this
theorem dup_some {l : List Asc} {i j : Nat} (hi : i < l.length) (hj : j < i) (h : (l.getD j default).inn = (l.getD i default).inn) : dupB l = true := by
  unfold dupB
  rw [List.any_eq_true]
  refine ⟨i, List.mem_range.2 hi, ?_⟩
  rw [List.any_eq_true]
  exact ⟨j, List.mem_range.2 hj, by simpa using h⟩
theorem cyc_none {l : List Asc} (h : ∀ i, i < l.length → abv l (l.getD i default).inn (l.getD i default).inn = false) : cycB l = false := by
  unfold cycB
  rw [List.any_eq_false]
  intro x hx
  obtain ⟨i, hi, rfl⟩ := List.mem_iff_getElem.1 hx
  have := h i hi
  rw [List.getD_eq_getElem?_getD, List.getElem?_eq_getElem hi] at this
  simpa using this
theorem cyc_some {l : List Asc} {i : Nat} (hi : i < l.length) (h : abv l (l.getD i default).inn (l.getD i default).inn = true) : cycB l = true := by
  unfold cycB
  rw [List.any_eq_true]
  refine ⟨l[i], List.getElem_mem hi, ?_⟩
  rw [List.getD_eq_getElem?_getD, List.getElem?_eq_getElem hi] at h
  exact h
def NoDup (l : List Asc) (k : Nat) : Prop := ∀ i, i < k → ∀ j, j < i → (l.getD j default).inn ≠ (l.getD i default).inn
def NoCyc (l : List Asc) (k : Nat) : Prop := ∀ i, i < k → abv l (l.getD i default).inn (l.getD i default).inn = false
/-- The way from e, k steps up, in block g: it has not come to e again. -/
structure CkStep (w : World) (l : List Asc) (e : Ent) (g : Nat) (wr : World) (k : Nat) : Prop where
  isS : (up l e k).isSome = true
  box : EntBox wr g ((up l e k).getD default)
  nov : ∀ j, j < k → up l e (j + 1) ≠ some e
  M : Mods [] w wr
set_option maxRecDepth 100000 in
set_option maxHeartbeats 8000000 in
theorem refCheck_ok (w : World) (l : List Asc) (v : Value) (hv : RdE ascE w v l) :
    Calls Try.prog 33 #[v] w fun en w' => en = .returned (.int .i64 (chkE l)) ∧ Mods [] w w' := by
  obtain ⟨ad, cap, rfl⟩ := hv.len
  have hcap := hv.bound
  have HV := Lib.hid hv
  have HCK := Lib.hid (show chkE l = if 32 < l.length then 3 else if dupB l = true then 7 else if cycB l = true then 14 else 0 from rfl)
  generalize chkE l = V at HCK ⊢
  clear hv
  by_cases h32 : 32 < l.length
  · have d1 : decide ((l.length : Int) > 32) = true := decide_eq_true (by omega)
    have HR := Lib.hid (HCK.out.trans (if_pos h32))
    clear h32
    go_enter Try.func33, Try.ntmps33
    go_wp2_with fail
    go_ret
    exact ⟨ret_int HR.out.symm, Mods.refl⟩
  · have d1 : decide ((l.length : Int) > 32) = false := decide_eq_false (by omega)
    have HR := Lib.hid (HCK.out.trans (if_neg h32))
    go_enter Try.func33, Try.ntmps33
    go_wp2_with fail
    go_loopw [3] (fun i wr => ∃ k : Nat, k ≤ l.length ∧ i = .int .i64 k ∧ Mods [] w wr ∧ Hid (NoDup l k)) (fun i _ => l.length - (intOf i).toNat)
    case atStart => exact ⟨0, Nat.zero_le _, rfl, Mods.refl, fun i hi => by omega⟩
    case round =>
      obtain ⟨k, hk, rfl, M, hND⟩ := hrel
      have i0 : (0 : Int) ≤ (k : Int) := by omega
      by_cases hlt : k < l.length
      · have i1 : (k : Int) < (l.length : Int) := by omega
        have HM := Lib.hid M
        clear M
        go_wp2_with fail
        go_loopw [4] (fun i wr2 => ∃ j : Nat, j ≤ k ∧ i = .int .i64 j ∧ Mods [] w wr2 ∧ Hid (∀ q, q < j → (l.getD q default).inn ≠ (l.getD k default).inn)) (fun i _ => k - (intOf i).toNat)
        case atStart => exact ⟨0, Nat.zero_le _, rfl, HM.out, fun i hi => by omega⟩
        case round =>
          obtain ⟨j, hj, rfl, M2, hNE⟩ := hrel
          have j0 : (0 : Int) ≤ (j : Int) := by omega
          by_cases hjk : j < k
          · have j1 : (j : Int) < (k : Int) := by omega
            have j2 : (j : Int) < (l.length : Int) := by omega
            obtain ⟨bb, off, cap, hv2, _, _, hc⟩ := (HV.out.mods0 ascOk M2).asc (by omega)
            injection hv2 with hv3 _ hv4
            subst hv3 hv4
            obtain ⟨-, -, y2, y3⟩ := hc k hlt
            obtain ⟨-, -, z2, z3⟩ := hc j (by omega)
            have HX := Lib.hid (show (l.getD j default).inn = (l.getD j default).inn ∧ (l.getD k default).inn = (l.getD k default).inn from ⟨rfl, rfl⟩)
            obtain ⟨x, hx⟩ : ∃ x, x = (l.getD j default).inn := ⟨_, rfl⟩
            obtain ⟨y, hy⟩ : ∃ y, y = (l.getD k default).inn := ⟨_, rfl⟩
            rw [← hx] at z2 z3
            rw [← hy] at y2 y3
            have HXE := Lib.hid hx
            have HYE := Lib.hid hy
            have hE := fun w => ent_eq' x y w
            have HD := Lib.hid (show decide (x = y) = decide ((l.getD j default).inn = (l.getD k default).inn) by rw [hx, hy])
            generalize decide (x = y) = r at hE HD
            have HM2 := Lib.hid M2
            clear hc HX hx hy M2
            cases r with
            | true =>
              have HDU := Lib.hid (dup_some hlt hjk (of_decide_eq_true HD.out.symm))
              have HRR := Lib.hid (HR.out.trans (if_pos HDU.out))
              go_wp2_with fail
              go_quiet (fail)
              go_wp2_with fail
              go_ret
              exact ⟨ret_int HRR.out.symm, HM2.out.drewN nq⟩
            | false =>
              have HNE := Lib.hid (of_decide_eq_false HD.out.symm)
              go_wp2_with fail
              go_quiet (fail)
              go_wp2_with fail
              go_roundw
              case rel => exact ⟨j + 1, by omega, by go_num, HM2.out.drewN nq, fun q hq => by
                rcases Nat.lt_or_ge q j with h | h
                · exact hNE.out q h
                · obtain rfl : q = j := by omega
                  exact HNE.out⟩
              case measure => simp [intOf]; omega
          · have j1 : ¬ (j : Int) < (k : Int) := by omega
            have hjk2 : j = k := by omega
            have HND := Lib.hid (show NoDup l (k + 1) from fun i hi q hq => by
              rcases Nat.lt_or_ge i k with h | h
              · exact hND.out i h q hq
              · obtain rfl : i = k := by omega
                exact hNE.out q (by omega))
            have HM2 := Lib.hid M2
            clear M2 hjk2
            go_wp2_with fail
            go_roundw
            case rel => exact ⟨k + 1, by omega, by go_num, HM2.out, HND⟩
            case measure => simp [intOf]; omega
      · have i1 : ¬ (k : Int) < (l.length : Int) := by omega
        have hk2 : k = l.length := by omega
        have HR := Lib.hid (HR.out.trans (if_neg (by rw [dup_none (by rw [← hk2]; exact hND.out)]; simp)))
        have HM := Lib.hid M
        clear M hk2
        go_wp2_with fail
        go_loopw [5] (fun i wr => ∃ k : Nat, k ≤ l.length ∧ i = .int .i64 k ∧ Mods [] w wr ∧ Hid (NoCyc l k)) (fun i _ => l.length - (intOf i).toNat)
        case atStart => exact ⟨0, Nat.zero_le _, rfl, HM.out, fun i hi => by omega⟩
        clear HM hlt i1 i0 hk
        case round =>
          obtain ⟨k, hk, rfl, M, hNC⟩ := hrel
          have i0 : (0 : Int) ≤ (k : Int) := by omega
          by_cases hlt : k < l.length
          · have i1 : (k : Int) < (l.length : Int) := by omega
            obtain ⟨bb, off, cap, hv2, _, _, hc⟩ := (HV.out.mods0 ascOk M).asc (by omega)
            injection hv2 with hv3 _ hv4
            subst hv3 hv4
            obtain ⟨-, -, y2, y3⟩ := hc k hlt
            obtain ⟨e, he⟩ : ∃ e, e = (l.getD k default).inn := ⟨_, rfl⟩
            rw [← he] at y2 y3
            have HE := Lib.hid he
            have HM := Lib.hid M
            have HCC : Hid (∀ W, Mods [] w W → W.cell? ⟨bb, off + k * 4 + 2, none⟩ = some (.int .u8 ((e.id.val : Nat) : Int)) ∧ W.cell? ⟨bb, off + k * 4 + 3, none⟩ = some (.int .u8 ((e.inst.val : Nat) : Int))) := Lib.hid (fun W MW => by
              obtain ⟨bb', off', cap', hv2, _, _, hc⟩ := (HV.out.mods0 ascOk MW).asc (by omega)
              injection hv2 with hv3 _ hv4
              injection hv3 with hv3
              injection hv3 with hv3 hv5
              subst hv3 hv5
              obtain ⟨-, -, y2, y3⟩ := hc k hlt
              rw [← he] at y2 y3
              exact ⟨y2, y3⟩)
            clear hc he M
            go_wp2_with (refine wpList_store_row (cs := #[.int .u8 ((e.id.val : Nat) : Int), .int .u8 ((e.inst.val : Nat) : Int)]) rfl 23 (.tmp 6) (.tmp 45) rfl (heap_alloc_new wr _) (by rfl) (by rfl) (by rfl) Try.sizeEnt (Ent.one e) ?_; intro w3 R3 M3; have HST := Lib.hid (show CkStep w l e wr.heap.size w3 0 from ⟨rfl, R3, fun j hj => by omega, HM.out.trans (freshA M3)⟩); clear R3 M3)
            have hgs : w.heap.size ≤ wr.heap.size := HM.out.size
            clear HM y2 y3
            generalize wr.heap.size = g at HST hgs ⊢
            go_loopw [7] (fun i wr => ∃ j : Nat, j ≤ l.length ∧ i = .int .i64 j ∧ CkStep w l e g wr j) (fun i _ => l.length - (intOf i).toNat)
            case atStart => exact ⟨0, Nat.zero_le _, rfl, HST.out⟩
            clear HST
            case round =>
              obtain ⟨j, hj, rfl, hS⟩ := hrel
              have j0 : (0 : Int) ≤ (j : Int) := by omega
              have HS := Lib.hid hS
              by_cases hjl : j < l.length
              · have j1 : (j : Int) < (l.length : Int) := by omega
                obtain ⟨x, hx⟩ := Option.isSome_iff_exists.1 hS.isS
                have hB := hS.box
                rw [hx] at hB
                have hB : EntBox wr g x := hB
                have e0 := hB.c0
                have e1 := hB.c1
                have HX := Lib.hid hx
                clear hS hx
                go_wp2_with fail
                refine (refParent_ok wr l x _ (HV.out.mods0 ascOk HS.out.M)).mono ?_
                rintro en w2 ⟨rfl, M2⟩
                obtain ⟨p, hp⟩ : ∃ p, p = parV l x := ⟨_, rfl⟩
                obtain ⟨ok, hok⟩ : ∃ ok, ok = (par l x).isSome := ⟨_, rfl⟩
                rw [← hp, ← hok]
                have HP := Lib.hid (show par l x = if ok = true then some p else none by
                  rw [hok, hp]
                  unfold parV
                  cases par l x <;> simp)
                have HM2 := Lib.hid (HS.out.M.trans M2)
                have HB2 := Lib.hid (HS.out.box.mods0 M2)
                clear hp hok M2 e0 e1 hB
                cases ok with
                | false =>
                  have HNN := Lib.hid (show up l e (j + 1) = none by
                    have h1 : up l e (j + 1) = (up l e j).bind (par l) := rfl
                    rw [h1, HX.out]
                    exact HP.out)
                  have HNC := Lib.hid (show NoCyc l (k + 1) from fun i hi => by
                    rcases Nat.lt_or_ge i k with h | h
                    · exact hNC.out i h
                    · obtain rfl : i = k := by omega
                      rw [← HE.out]
                      exact abv_stop HS.out.nov HNN.out)
                  go_wp2_with (refine wpList_store_row (cs := p.cells.toArray) rfl 23 (.tmp 8) (.tmp 56) rfl (heap_alloc_new w2 _) (by rfl) (by rfl) (by rfl) Try.sizeEnt (Ent.one p) ?_; intro w3 R3 M3; have HM3 := Lib.hid (HM2.out.trans (freshA M3)); clear R3 M3)
                  go_roundw
                  case rel => exact ⟨k + 1, by omega, by go_num, HM3.out, HNC⟩
                  case measure => simp [intOf]; omega
                | true =>
                  have HP1 := Lib.hid (show up l e (j + 1) = some p by
                    have h1 : up l e (j + 1) = (up l e j).bind (par l) := rfl
                    rw [h1, HX.out]
                    exact HP.out)
                  have hE := fun w => ent_eq' p e w
                  obtain ⟨r, hr⟩ : ∃ r, r = decide (p = e) := ⟨_, rfl⟩
                  rw [← hr] at hE
                  have HRD := Lib.hid hr
                  clear hr
                  have hgl : g < w2.heap.size := HB2.out.lt
                  go_wp2_with (refine wpList_store_row (cs := p.cells.toArray) rfl 23 (.tmp 8) (.tmp 56) rfl (heap_alloc_new w2 _) (by rfl) (by rfl) (by rfl) Try.sizeEnt (Ent.one p) ?_; intro w3 R3 M3; have HM3 := Lib.hid (HM2.out.trans (freshA M3)); have HB3 := Lib.hid (HB2.out.mods0 (freshA M3)); have HR3 := Lib.hid (show EntBox w3 w2.heap.size p from R3); clear R3 M3)
                  have b0 := HR3.out.c0
                  have b1 := HR3.out.c1
                  obtain ⟨y2, y3⟩ := HCC.out w3 HM3.out
                  generalize w2.heap.size = gp at b0 b1 hgl HR3 ⊢
                  go_quiet (fail)
                  have HB4 := Lib.hid (HB3.out.mods0 (Mods.refl.drewN nq))
                  have HM4 := Lib.hid (HM3.out.drewN nq)
                  have b0' := (HR3.out.mods0 (Mods.refl.drewN nq)).c0
                  have b1' := (HR3.out.mods0 (Mods.refl.drewN nq)).c1
                  clear b0 b1 y2 y3 HM3 HB3 HR3
                  generalize w3.drewN nq = w4 at b0' b1' HB4 HM4 ⊢
                  cases r with
                  | true =>
                    have HCY := Lib.hid (cyc_some hlt (by rw [← HE.out]; exact abv_iff.2 ⟨j, by rw [HP1.out, of_decide_eq_true HRD.out.symm]⟩))
                    have HRR := Lib.hid (HR.out.trans (if_pos HCY.out))
                    go_wp2_with fail
                    go_ret
                    exact ⟨ret_int HRR.out.symm, HM4.out⟩
                  | false =>
                    have HNE := Lib.hid (of_decide_eq_false HRD.out.symm)
                    go_wp2_with (refine wpList_store_row (cs := #[.int .u8 ((p.id.val : Nat) : Int), .int .u8 ((p.inst.val : Nat) : Int)]) rfl 23 (.tmp 6) (.tmp 67) rfl HB4.out (by rfl) (by rfl) (by rfl) Try.sizeEnt (Ent.one p) ?_; intro w5 R5 M5; have HST := Lib.hid (show CkStep w l e g w5 (j + 1) from ⟨by rw [HP1.out]; rfl, by rw [HP1.out]; exact R5, fun q hq => by
                      rcases Nat.lt_or_ge q j with h | h
                      · exact HS.out.nov q h
                      · obtain rfl : q = j := by omega
                        rw [HP1.out]
                        exact fun h => HNE.out (Option.some.inj h), HM4.out.comp M5 (fun q hq => by simp at hq; subst hq; exact .inr hgs)⟩); clear R5 M5)
                    go_roundw
                    case rel => exact ⟨j + 1, by omega, by go_num, HST.out⟩
                    case measure => simp [intOf]; omega
              · have j1 : ¬ (j : Int) < (l.length : Int) := by omega
                have HNC := Lib.hid (show NoCyc l (k + 1) from fun i hi => by
                  rcases Nat.lt_or_ge i k with h | h
                  · exact hNC.out i h
                  · obtain rfl : i = k := by omega
                    rw [← HE.out]
                    exact abv_all fun q hq => HS.out.nov q (by omega))
                clear hS
                go_wp2_with fail
                go_roundw
                case rel => exact ⟨k + 1, by omega, by go_num, HS.out.M, HNC⟩
                case measure => simp [intOf]; omega
          · have i1 : ¬ (k : Int) < (l.length : Int) := by omega
            have hk2 : k = l.length := by omega
            have HRR := Lib.hid (HR.out.trans (if_neg (by rw [cyc_none (by rw [← hk2]; exact hNC.out)]; simp)))
            have HM := Lib.hid M
            clear M hk2
            go_wp2_with fail
            go_ret
            exact ⟨ret_int HRR.out.symm, HM.out⟩
end Go.Proofs.Ytijjkonephjodaa
