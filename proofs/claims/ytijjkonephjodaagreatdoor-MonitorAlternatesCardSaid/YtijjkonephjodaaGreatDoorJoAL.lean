/- Joined texts. The health of an entity, equal lists of entities: contracts. | The reference's Health, equal lists, the dice's entities and associations: contracts. | The dice's entities and associations: contracts. | Events as plain data; their bytes, there and back. No program stands here. | Events in memory: a kind of element, comparison. | Slices of structs that came in: how they read. | Slices of structs of any kind that came in: how they read. No function of the program stands here. -/
import Derived.Test.YtijjkonephjodaaGreatDoorJoAK
import Derived.Test.YtijjkonephjodaaGreatDoorJoAC
import Derived.Test.YtijjkonephjodaaGreatDoorJoAA
import Derived.Test.YtijjkonephjodaaGreatDoorJoAI
import Derived.ChangeKeysEq
import Derived.Test.YtijjkonephjodaaGreatDoorJoAG
import Derived.Deep.Slices
import Derived.Deep.Fields
import Derived.ChangeSame
namespace Go.Proofs.YtijjkonephjodaaGreatDoor
open Go.RowKit

theorem Cnd.one (c : Cnd) : c.cells.toArray.all (·.oneCell') = true := by simp [Cnd.cells, Value.oneCell']
theorem Tryz.sizeCnd : (Tryz.prog.info? 148).map (·.size) = some 3 := by kernel_rfl
theorem sevOk_iff (c : Cnd) : sevOk c = true ↔ 0 ≤ c.sev ∧ c.sev ≤ 3 := by unfold sevOk; simp
set_option maxHeartbeats 1000000 in
theorem health1_ok (w : World) (c : Cnd) :
    Calls Tryz.prog 102 #[.agg c.cells.toArray] w fun en w' => en = .returned (.bool (!sevOk c)) ∧ Mods [] w w' := by
  have M0 := Lib.hid ((Mods.refl (S := []) (w := w)).alloc (.cells c.cells.toArray 148))
  have c2 := (cell_blk (heap_alloc_new w (.cells c.cells.toArray 148)) 2).trans (show _ = some (Value.int .i64 c.sev) from rfl)
  have HS := Lib.hid (sevOk_iff c)
  generalize sevOk c = r at HS ⊢
  generalize c.sev = s at HS c2
  by_cases h1 : s < 0
  · have HR := Lib.hid (show r = false by
      cases r with
      | false => rfl
      | true => exact absurd (HS.out.1 rfl).1 (by omega))
    go_enter Tryz.func102, Tryz.ntmps102
    go_wp2_with fail
    go_ret
    exact ⟨ret_bool (by rw [HR.out]; rfl), M0.out⟩
  · by_cases h2 : s ≤ 3
    · have HR := Lib.hid (show r = true from HS.out.2 ⟨by omega, h2⟩)
      have d1 : decide (s < 0) = false := decide_eq_false h1
      have d2 : decide (s > 3) = false := decide_eq_false (by omega)
      go_enter Tryz.func102, Tryz.ntmps102
      go_wp2_with fail
      go_ret
      exact ⟨ret_bool (by rw [HR.out]; rfl), M0.out⟩
    · have HR := Lib.hid (show r = false by
        cases r with
        | false => rfl
        | true => exact absurd (HS.out.1 rfl).2 (by omega))
      have d1 : decide (s < 0) = false := decide_eq_false h1
      have d2 : decide (s > 3) = true := decide_eq_true (by omega)
      go_enter Tryz.func102, Tryz.ntmps102
      go_wp2_with fail
      go_ret
      exact ⟨ret_bool (by rw [HR.out]; rfl), M0.out⟩
def badIdx (l : List Cnd) : Nat := l.findIdx fun x => !sevOk x
def badI (l : List Cnd) : Int := if badIdx l = l.length then (-1 : Int) else ((badIdx l : Nat) : Int)
theorem badI_any (l : List Cnd) : decide (0 ≤ badI l) = !l.all sevOk := by
  have hle : badIdx l ≤ l.length := List.findIdx_le_length
  have : badIdx l < l.length ↔ (!l.all sevOk) = true := by
    unfold badIdx
    rw [List.findIdx_lt_length]
    simp
  rw [Bool.eq_iff_iff, decide_eq_true_eq, ← this]
  unfold badI
  split <;> omega
set_option maxRecDepth 100000 in
set_option maxHeartbeats 2000000 in
theorem idxC_ok (w : World) (l : List Cnd) (v : Value) (hv : RdE cndE w v l) :
    Calls Tryz.prog 131 #[v, .func (.func 102) #[] #[]] w fun en w' => en = .returned (.int .i64 (badI l)) ∧ Mods [] w w' := by
  obtain ⟨ad, cap, rfl⟩ := hv.len
  have HV := Lib.hid hv
  have hcap := hv.bound
  obtain ⟨K, hK⟩ : ∃ K, K = badIdx l := ⟨_, rfl⟩
  have hKl : K ≤ l.length := hK ▸ List.findIdx_le_length
  have HB := Lib.hid (fun j (hj : j < K) => show (!sevOk (l.getD j default)) = false from by
    have hj2 : j < l.length := by omega
    have := List.not_of_lt_findIdx (p := fun x : Cnd => !sevOk x) (xs := l) (i := j) (by rw [hK] at hj; exact hj)
    rw [List.getD_eq_getElem?_getD, List.getElem?_eq_getElem hj2]
    simpa using this)
  have HA := Lib.hid (fun (h : K < l.length) => show (!sevOk (l.getD K default)) = true from by
    have := List.findIdx_getElem (p := fun x : Cnd => !sevOk x) (xs := l) (w := by rw [hK] at h; exact h)
    rw [List.getD_eq_getElem?_getD, List.getElem?_eq_getElem h]
    subst hK
    exact this)
  have HI := Lib.hid (show badI l = if K = l.length then (-1 : Int) else (K : Int) by unfold badI; rw [← hK])
  generalize badI l = V at HI ⊢
  clear hv hK
  go_enter Tryz.func131, Tryz.ntmps131
  go_wp2_with fail
  go_loopw [8] (fun i wr => ∃ k : Nat, k ≤ K ∧ i = .int .i64 k ∧ Mods [] w wr) (fun i _ => K - (intOf i).toNat)
  case atStart => exact ⟨0, Nat.zero_le _, rfl, Mods.refl⟩
  case round =>
    obtain ⟨k, hk, rfl, M⟩ := hrel
    have i0 : (0 : Int) ≤ (k : Int) := by omega
    by_cases hlt : k < l.length
    · have i1 : (k : Int) < (l.length : Int) := by omega
      obtain ⟨bb, off, cap, hv2, _, _, hc⟩ := (HV.out.mods0 cndOk M).cnd (by omega)
      injection hv2 with hv3 _ hv4
      subst hv3 hv4
      obtain ⟨y0, y1, y2⟩ := hc k hlt
      have BF := Lib.hid (health1_ok wr (l.getD k default))
      have HBk := Lib.hid (HB.out k)
      have HAk := Lib.hid (fun h : k = K => show (!sevOk (l.getD k default)) = true from by rw [h]; exact HA.out (h ▸ hlt))
      generalize (l.getD k default) = x at y0 y1 y2 BF HBk HAk
      have HM := Lib.hid M
      clear hc M
      by_cases hkK : k < K
      · have HD := Lib.hid (HBk.out hkK)
        go_wp2_with fail
        refine BF.out.mono ?_
        rw [HD.out]
        rintro en w2 ⟨rfl, M2⟩
        have HM2 := Lib.hid (HM.out.trans M2)
        clear M2
        go_wp2_with fail
        go_roundw
        case rel => exact ⟨k + 1, by omega, by go_num, HM2.out⟩
        case measure => simp [intOf]; omega
      · obtain rfl : k = K := by omega
        have HD := Lib.hid (HAk.out rfl)
        have HRES := Lib.hid (show V = (k : Int) by rw [HI.out, if_neg (by omega)])
        go_wp2_with fail
        refine BF.out.mono ?_
        rw [HD.out]
        rintro en w2 ⟨rfl, M2⟩
        have HM2 := Lib.hid (HM.out.trans M2)
        clear M2
        go_wp2_with fail
        go_ret
        exact ⟨ret_int HRES.out.symm, HM2.out⟩
    · have HRES := Lib.hid (show V = -1 by rw [HI.out, if_pos (by omega)])
      have i1 : ¬ (k : Int) < (l.length : Int) := by omega
      go_wp2_with fail
      go_ret
      exact ⟨ret_int HRES.out.symm, M⟩
set_option maxHeartbeats 400000 in
theorem anyC_ok (w : World) (l : List Cnd) (v : Value) (hv : RdE cndE w v l) :
    Calls Tryz.prog 101 #[v, .func (.func 102) #[] #[]] w fun en w' => en = .returned (.bool (!l.all sevOk)) ∧ Mods [] w w' := by
  have H1 := Lib.hid (idxC_ok w l v hv)
  have HD := Lib.hid (badI_any l)
  obtain ⟨ad, cap, rfl⟩ := hv.len
  generalize badI l = i at H1 HD
  generalize (!l.all sevOk) = r at HD ⊢
  clear hv
  go_enter Tryz.func101, Tryz.ntmps101
  go_wp2_with fail
  refine H1.out.mono ?_
  rintro en w' ⟨rfl, M⟩
  go_wp2_with fail
  go_ret
  exact ⟨ret_bool HD.out, M⟩
def hlthR (l : List Asc) (ab : List Ent) (own : List Cnd) (e : Ent) : Int × Int := if chkE l = 0 then if own.all sevOk = true then (hlthF l ab e own, 0) else (0, 2) else (0, chkE l)
def HealthE (w : World) (l : List Asc) (ab : List Ent) (own : List Cnd) (e : Ent) (en : Ending) (w' : World) : Prop := en = .returned (.tuple #[.int .i64 (hlthR l ab own e).1, .int .i64 (hlthR l ab own e).2]) ∧ Mods [] w w'
def hlthK (l : List Asc) (ab : List Ent) (e : Ent) (own : List Cnd) (k : Nat) : Int := (own.take k).foldl (hlthI l ab e) 0
theorem hlthK_succ {l : List Asc} {ab : List Ent} {e : Ent} {own : List Cnd} {k : Nat} (h : k < own.length) : hlthK l ab e own (k + 1) = hlthI l ab e (hlthK l ab e own k) (own.getD k default) := foldl_take_succ _ _ _ _ h _
theorem hlthK_all (l : List Asc) (ab : List Ent) (e : Ent) (own : List Cnd) : hlthK l ab e own own.length = hlthF l ab e own := by unfold hlthK hlthF; rw [List.take_length]
set_option maxRecDepth 100000 in
set_option maxHeartbeats 4000000 in
theorem healthE_ok (w : World) (l : List Asc) (v : Value) (hv : RdE ascE w v l) (vab : Value) (ab : List Ent) (hab : RdE entE w vab ab) (vo : Value) (own : List Cnd) (ho : RdE cndE w vo own) (e : Ent) :
    Calls Tryz.prog 72 #[v, vab, vo, .agg e.cells.toArray] w fun en w' => HealthE w l ab own e en w' := by
  obtain ⟨ad, cap, rfl⟩ := hv.len
  obtain ⟨ad2, cap2, rfl⟩ := hab.len
  obtain ⟨ad3, cap3, rfl⟩ := ho.len
  have hcap3 := ho.bound
  have M0 := (Mods.refl (S := []) (w := w)).alloc (.cells e.cells.toArray 31)
  have B0 := EntBox.new w e
  have HV := Lib.hid hv
  have HAB := Lib.hid hab
  have HO := Lib.hid ho
  have HM := Lib.hid M0
  have HB := Lib.hid B0
  have HC := Lib.hid (check_ok _ l _ (hv.mods0 ascOk M0))
  have HR := Lib.hid (fun (w' : World) (M : Mods [] w w') (x y : Int) (h : hlthR l ab own e = (x, y)) => show HealthE w l ab own e (.returned (.tuple #[.int .i64 x, .int .i64 y])) w' from ⟨by rw [h], M⟩)
  clear hv M0 B0 hab ho
  by_cases h : chkE l = 0
  · have hl := chk_len h
    have HW : Hid (hlthR l ab own e = if own.all sevOk = true then (hlthF l ab e own, 0) else (0, 2)) := Lib.hid (if_pos h)
    rw [h] at HC
    clear h
    go_enter Tryz.func72, Tryz.ntmps72
    go_wp2_with fail
    refine HC.out.mono ?_
    rintro en w1 ⟨rfl, M1⟩
    have HM1 := Lib.hid (HM.out.trans M1)
    have e0 := (HB.out.mods0 M1).c0
    have e1 := (HB.out.mods0 M1).c1
    have HAC := Lib.hid (anyC_ok w1 own _ (HO.out.mods0 cndOk HM1.out))
    have HB1 := Lib.hid (HB.out.mods0 M1)
    clear M1
    go_wp2_with fail
    refine HAC.out.mono ?_
    rintro en w2 ⟨rfl, M2⟩
    have HM2 := Lib.hid (HM1.out.trans M2)
    have f0 := (HB1.out.mods0 M2).c0
    have f1 := (HB1.out.mods0 M2).c1
    clear M2 e0 e1
    obtain ⟨ok, hok⟩ : ∃ ok, ok = own.all sevOk := ⟨_, rfl⟩
    rw [← hok] at HW ⊢
    clear hok
    cases ok with
    | false =>
      have HWF := Lib.hid (HW.out.trans (if_neg (by simp)))
      go_wp2_with fail
      go_ret2
      exact HR.out _ HM2.out _ _ HWF.out
    | true =>
      have HWT := Lib.hid (HW.out.trans (if_pos rfl))
      have HWI := Lib.hid (within_ok w2 l (by omega) _ (HV.out.mods0 ascOk HM2.out) e)
      go_wp2_with fail
      refine HWI.out.mono ?_
      rintro en w3 ⟨u, rfl, hu, M3⟩
      have HM3 := Lib.hid (HM2.out.trans M3)
      obtain ⟨au, cu, rfl⟩ := hu.len
      have HU := Lib.hid hu
      clear M3 hu f0 f1 HWI HAC HC
      generalize (wthL l e).length = nu at HU ⊢
      go_wp2_with fail
      go_loopw [12, 27] (fun o i wr => ∃ k : Nat, k ≤ own.length ∧ i = .int .i64 k ∧ o = .int .i64 (hlthK l ab e own k) ∧ Mods [] w3 wr) (fun _ i _ => own.length - (intOf i).toNat)
      case atStart => exact ⟨0, Nat.zero_le _, rfl, rfl, Mods.refl⟩
      case round =>
        obtain ⟨k, hk, rfl, rfl, hM⟩ := hrel
        have i0 : (0 : Int) ≤ (k : Int) := by omega
        have HMr := Lib.hid hM
        by_cases hlt : k < own.length
        · have i1 : (k : Int) < (own.length : Int) := by omega
          obtain ⟨bb, off, cap, hv2, _, _, hc⟩ := (HO.out.mods0 cndOk (HM3.out.trans hM)).cnd (by omega)
          injection hv2 with hv3 hv5 hv4
          subst hv3 hv4
          clear hv5
          obtain ⟨y0, y1, y2⟩ := hc k hlt
          have HKS := Lib.hid (hlthK_succ (l := l) (ab := ab) (e := e) hlt)
          obtain ⟨x, hx⟩ : ∃ x, x = own.getD k default := ⟨_, rfl⟩
          rw [← hx] at y0 y1 y2 HKS
          have HIX := Lib.hid (show hlthI l ab e (hlthK l ab e own k) x = if (decide (x.ent ∈ wthL l e) && presB l ab x.ent) = true then max (hlthK l ab e own k) x.sev else hlthK l ab e own k from rfl)
          generalize hlthK l ab e own k = o at HKS HIX ⊢
          clear hc hx hM
          go_wp2_with (refine wpList_store_row (cs := #[.int .u8 ((x.ent.id.val : Nat) : Int), .int .u8 ((x.ent.inst.val : Nat) : Int), .int .i64 x.sev]) rfl 148 (.tmp 14) (.tmp 30) rfl (heap_alloc_new wr _) (by rfl) (by rfl) (by rfl) Tryz.sizeCnd (Cnd.one x) ?_; intro w4 R4 M4; have HR4 := Lib.hid R4; have HM4 := Lib.hid (HMr.out.trans (freshA M4)); have c0 := (cell_blk R4 0).trans (show _ = some (Value.int .u8 ((x.ent.id.val : Nat) : Int)) from rfl); have c1 := (cell_blk R4 1).trans (show _ = some (Value.int .u8 ((x.ent.inst.val : Nat) : Int)) from rfl); clear R4 M4)
          have HCO := Lib.hid (contains_ok w4 (wthL l e) x.ent _ (HU.out.mods0 entOk HM4.out))
          refine HCO.out.mono ?_
          rintro en w5 ⟨rfl, M5⟩
          have HM5 := Lib.hid (HM4.out.trans M5)
          have HR5 := Lib.hid (M5.heap HR4.out (by simp))
          generalize wr.heap.size = g at HR5 ⊢
          have d0 := (cell_blk HR5.out 0).trans (show _ = some (Value.int .u8 ((x.ent.id.val : Nat) : Int)) from rfl)
          have d1 := (cell_blk HR5.out 1).trans (show _ = some (Value.int .u8 ((x.ent.inst.val : Nat) : Int)) from rfl)
          clear M5 c0 c1 HCO
          obtain ⟨r1, hr1⟩ : ∃ r, r = decide (x.ent ∈ wthL l e) := ⟨_, rfl⟩
          rw [← hr1] at HIX ⊢
          clear hr1
          cases r1 with
          | false =>
            have HE := Lib.hid (show hlthK l ab e own (k + 1) = o by rw [HKS.out, HIX.out]; rfl)
            go_wp2_with fail
            go_roundw
            case rel => exact ⟨k + 1, by omega, by go_num, by rw [HE.out], HM5.out⟩
            case measure => simp [intOf]; omega
          | true =>
            have HPR := Lib.hid (presentIn_ok w5 l (by omega) _ (HV.out.mods0 ascOk (HM3.out.trans HM5.out)) _ ab (HAB.out.mods0 entOk (HM3.out.trans HM5.out)) x.ent)
            go_wp2_with fail
            refine HPR.out.mono ?_
            rintro en w6 ⟨rfl, M6⟩
            have HM6 := Lib.hid (HM5.out.trans M6)
            have d2 := (cell_blk (M6.heap HR5.out (by simp)) 2).trans (show _ = some (Value.int .i64 x.sev) from rfl)
            clear M6 d0 d1 HPR
            obtain ⟨r2, hr2⟩ : ∃ r, r = presB l ab x.ent := ⟨_, rfl⟩
            rw [← hr2] at HIX ⊢
            clear hr2
            cases r2 with
            | false =>
              have HE := Lib.hid (show hlthK l ab e own (k + 1) = o by rw [HKS.out, HIX.out]; rfl)
              go_wp2_with fail
              go_roundw
              case rel => exact ⟨k + 1, by omega, by go_num, by rw [HE.out], HM6.out⟩
              case measure => simp [intOf]; omega
            | true =>
              have HE := Lib.hid (show hlthK l ab e own (k + 1) = max o x.sev by rw [HKS.out, HIX.out]; rfl)
              go_wp2_with fail
              go_roundw
              case rel => exact ⟨k + 1, by omega, by go_num, by rw [HE.out], HM6.out⟩
              case measure => simp [intOf]; omega
        · have i1 : ¬ (k : Int) < (own.length : Int) := by omega
          have hk2 : k = own.length := by omega
          have HF := Lib.hid (show hlthK l ab e own k = hlthF l ab e own by rw [hk2, hlthK_all])
          clear hM hk2
          go_wp2_with fail
          go_ret2
          exact HR.out _ (HM3.out.trans HMr.out) _ _ (by rw [HF.out]; exact HWT.out)
  · have HW : Hid (hlthR l ab own e = (0, chkE l)) := Lib.hid (if_neg h)
    generalize chkE l = c at HC HW h
    have hd : (c != 0) = true := by simpa using h
    clear h
    go_enter Tryz.func72, Tryz.ntmps72
    go_wp2_with fail
    refine HC.out.mono ?_
    rintro en w1 ⟨rfl, M1⟩
    have HM1 := Lib.hid (HM.out.trans M1)
    clear M1
    go_wp2_with fail
    go_ret2
    exact HR.out _ HM1.out _ _ HW.out
end Go.Proofs.YtijjkonephjodaaGreatDoor

namespace Go.Proofs.YtijjkonephjodaaGreatDoor
open Go.RowKit

theorem all_bad {own : List Cnd} {k : Nat} (hk : k < own.length) (h : sevOk (own.getD k default) = false) : own.all sevOk = false := by
  rw [List.all_eq_false]
  refine ⟨own[k], List.getElem_mem hk, ?_⟩
  rw [List.getD_eq_getElem?_getD, List.getElem?_eq_getElem hk] at h
  simpa using h
theorem all_good {own : List Cnd} (h : ∀ k, k < own.length → sevOk (own.getD k default) = true) : own.all sevOk = true := by
  rw [List.all_eq_true]
  intro x hx
  obtain ⟨k, hk, rfl⟩ := List.mem_iff_getElem.1 hx
  have := h k hk
  rwa [List.getD_eq_getElem?_getD, List.getElem?_eq_getElem hk] at this
set_option maxRecDepth 100000 in
set_option maxHeartbeats 4000000 in
theorem refHealthE_ok (w : World) (l : List Asc) (v : Value) (hv : RdE ascE w v l) (vab : Value) (ab : List Ent) (hab : RdE entE w vab ab) (vo : Value) (own : List Cnd) (ho : RdE cndE w vo own) (e : Ent) :
    Calls Tryz.prog 111 #[v, vab, vo, .agg e.cells.toArray] w fun en w' => HealthE w l ab own e en w' := by
  obtain ⟨ad, cap, rfl⟩ := hv.len
  obtain ⟨ad2, cap2, rfl⟩ := hab.len
  obtain ⟨ad3, cap3, rfl⟩ := ho.len
  have hcap3 := ho.bound
  have M0 := (Mods.refl (S := []) (w := w)).alloc (.cells e.cells.toArray 31)
  have B0 := EntBox.new w e
  have HV := Lib.hid hv
  have HAB := Lib.hid hab
  have HO := Lib.hid ho
  have HM := Lib.hid M0
  have e0 := B0.c0
  have e1 := B0.c1
  have HC := Lib.hid (refWithinE_ok _ l _ (hv.mods0 ascOk M0) e)
  have HR := Lib.hid (fun (w' : World) (M : Mods [] w w') (x y : Int) (h : hlthR l ab own e = (x, y)) => show HealthE w l ab own e (.returned (.tuple #[.int .i64 x, .int .i64 y])) w' from ⟨by rw [h], M⟩)
  clear hv M0 B0 hab ho
  go_enter Tryz.func111, Tryz.ntmps111
  go_wp2_with fail
  refine HC.out.mono ?_
  rintro en w1 ⟨u, rfl, hu, M1⟩
  have HM1 := Lib.hid (HM.out.trans M1)
  clear M1 e0 e1 HC
  by_cases h : chkE l = 0
  · have hl := chk_len h
    have HCY := Lib.hid (chk_parts h).2
    have HW : Hid (hlthR l ab own e = if own.all sevOk = true then (hlthF l ab e own, 0) else (0, 2)) := Lib.hid (if_pos h)
    have hwr : wthR l e = wthL l e := if_pos h
    rw [hwr] at hu
    rw [h]
    clear h hwr
    obtain ⟨au, cu, rfl⟩ := hu.len
    have HU := Lib.hid hu
    clear hu
    generalize (wthL l e).length = nu at HU ⊢
    go_wp2_with fail
    go_loopw [12, 13] (fun o i wr => ∃ k : Nat, k ≤ own.length ∧ i = .int .i64 k ∧ o = .int .i64 (hlthK l ab e own k) ∧ Mods [] w1 wr ∧ Hid (∀ j, j < k → sevOk (own.getD j default) = true)) (fun _ i _ => own.length - (intOf i).toNat)
    case atStart => exact ⟨0, Nat.zero_le _, rfl, rfl, Mods.refl, fun j hj => by omega⟩
    case round =>
      obtain ⟨k, hk, rfl, rfl, hM, hOK⟩ := hrel
      have i0 : (0 : Int) ≤ (k : Int) := by omega
      have HMr := Lib.hid hM
      by_cases hlt : k < own.length
      · have i1 : (k : Int) < (own.length : Int) := by omega
        obtain ⟨bb, off, cap, hv2, _, _, hc⟩ := (HO.out.mods0 cndOk (HM1.out.trans hM)).cnd (by omega)
        injection hv2 with hv3 hv5 hv4
        subst hv3 hv4
        clear hv5
        obtain ⟨y0, y1, y2⟩ := hc k hlt
        have HKS := Lib.hid (hlthK_succ (l := l) (ab := ab) (e := e) hlt)
        have HBAD := Lib.hid (fun h => all_bad (own := own) hlt h)
        obtain ⟨x, hx⟩ : ∃ x, x = own.getD k default := ⟨_, rfl⟩
        rw [← hx] at y0 y1 y2 HKS HBAD
        have HXE := Lib.hid hx
        have HIX := Lib.hid (show hlthI l ab e (hlthK l ab e own k) x = if (decide (x.ent ∈ wthL l e) && presB l ab x.ent) = true then max (hlthK l ab e own k) x.sev else hlthK l ab e own k from rfl)
        generalize hlthK l ab e own k = o at HKS HIX ⊢
        have HCC := Lib.hid (show ∀ W, Mods [] wr W → W.cell? ⟨bb, off + k * 3, none⟩ = some (.int .u8 ((x.ent.id.val : Nat) : Int)) ∧ W.cell? ⟨bb, off + k * 3 + 1, none⟩ = some (.int .u8 ((x.ent.inst.val : Nat) : Int)) ∧ W.cell? ⟨bb, off + k * 3 + 2, none⟩ = some (.int .i64 x.sev) from fun W MW => ⟨MW.cell y0 (by simp), MW.cell y1 (by simp), MW.cell y2 (by simp)⟩)
        have HSV := Lib.hid (sevOk_iff x)
        clear hc hx hM
        by_cases hs : 0 ≤ x.sev ∧ x.sev ≤ 3
        · have HNO := Lib.hid (show ∀ j, j < k + 1 → sevOk (own.getD j default) = true from fun j hj => by
            rcases Nat.lt_or_ge j k with h | h
            · exact hOK.out j h
            · obtain rfl : j = k := by omega
              rw [← HXE.out]
              exact HSV.out.2 hs)
          have d1 : decide (x.sev < 0) = false := decide_eq_false (by omega)
          have d2 : decide (x.sev > 3) = false := decide_eq_false (by omega)
          have HHS := Lib.hid (refHas_ok wr (wthL l e) x.ent _ (HU.out.mods0 entOk HMr.out))
          clear hs
          go_wp2_with fail
          refine HHS.out.mono ?_
          rintro en w5 ⟨rfl, M5⟩
          have HM5 := Lib.hid (HMr.out.trans M5)
          have ⟨d3, d4, d5⟩ := HCC.out _ M5
          have HW5 := Lib.hid M5
          clear M5 y0 y1 y2 HHS
          obtain ⟨r1, hr1⟩ : ∃ r, r = decide (x.ent ∈ wthL l e) := ⟨_, rfl⟩
          rw [← hr1] at HIX ⊢
          clear hr1
          cases r1 with
          | false =>
            have HE := Lib.hid (show hlthK l ab e own (k + 1) = o by rw [HKS.out, HIX.out]; rfl)
            go_wp2_with fail
            go_roundw
            case rel => exact ⟨k + 1, by omega, by go_num, by rw [HE.out], HM5.out, HNO⟩
            case measure => simp [intOf]; omega
          | true =>
            have HPR := Lib.hid (there_ok w5 l (by omega) HCY.out _ (HV.out.mods0 ascOk (HM1.out.trans HM5.out)) _ ab (HAB.out.mods0 entOk (HM1.out.trans HM5.out)) x.ent)
            go_wp2_with fail
            refine HPR.out.mono ?_
            rintro en w6 ⟨rfl, M6⟩
            have HM6 := Lib.hid (HM5.out.trans M6)
            have ⟨_, _, d6⟩ := HCC.out _ (HW5.out.trans M6)
            clear M6 d3 d4 d5 HPR
            obtain ⟨r2, hr2⟩ : ∃ r, r = presB l ab x.ent := ⟨_, rfl⟩
            rw [← hr2] at HIX ⊢
            clear hr2
            cases r2 with
            | false =>
              have HE := Lib.hid (show hlthK l ab e own (k + 1) = o by rw [HKS.out, HIX.out]; rfl)
              go_wp2_with fail
              go_roundw
              case rel => exact ⟨k + 1, by omega, by go_num, by rw [HE.out], HM6.out, HNO⟩
              case measure => simp [intOf]; omega
            | true =>
              have HE := Lib.hid (show hlthK l ab e own (k + 1) = max o x.sev by rw [HKS.out, HIX.out]; rfl)
              go_wp2_with fail
              go_roundw
              case rel => exact ⟨k + 1, by omega, by go_num, by rw [HE.out], HM6.out, HNO⟩
              case measure => simp [intOf]; omega
        · have HB := Lib.hid (HBAD.out (by
            cases hq : sevOk x with
            | false => rfl
            | true => exact absurd (HSV.out.1 hq) hs))
          have HWF := Lib.hid (HW.out.trans (if_neg (by rw [HB.out]; simp)))
          by_cases h1 : x.sev < 0
          · have d1 : decide (x.sev < 0) = true := decide_eq_true h1
            clear hs
            go_wp2_with fail
            go_ret2
            exact HR.out _ (HM1.out.trans HMr.out) _ _ HWF.out
          · have d1 : decide (x.sev < 0) = false := decide_eq_false h1
            have d2 : decide (x.sev > 3) = true := decide_eq_true (by omega)
            clear hs
            go_wp2_with fail
            go_ret2
            exact HR.out _ (HM1.out.trans HMr.out) _ _ HWF.out
      · have i1 : ¬ (k : Int) < (own.length : Int) := by omega
        have hk2 : k = own.length := by omega
        have HF := Lib.hid (show hlthK l ab e own k = hlthF l ab e own by rw [hk2, hlthK_all])
        have HWT := Lib.hid (HW.out.trans (if_pos (all_good (fun j hj => hOK.out j (by rw [hk2]; exact hj)))))
        clear hM hk2
        go_wp2_with fail
        go_ret2
        exact HR.out _ (HM1.out.trans HMr.out) _ _ (by rw [HF.out]; exact HWT.out)
  · have HW : Hid (hlthR l ab own e = (0, chkE l)) := Lib.hid (if_neg h)
    clear hu
    generalize chkE l = c at HW h ⊢
    have hd : (c != 0) = true := by simpa using h
    clear h
    go_wp2_with fail
    go_ret2
    exact HR.out _ HM1.out _ _ HW.out
end Go.Proofs.YtijjkonephjodaaGreatDoor

namespace Go.Proofs.YtijjkonephjodaaGreatDoor
open Go.RowKit

theorem IsDice.old {w : World} {b n : Nat} {v : Value} {L : List Int} (h : IsDice w b v L n) : L ≠ [] → ∀ k, v.ownBlock = some k → k < w.heap.size := fun hl k hk =>
  h.rd.block_lt (fun e => hl (List.eq_nil_of_length_eq_zero (by rw [← i64s_length, e]; rfl))) k hk
/-- At most n entities of the dice. -/
def MadeEnts (w : World) (b : Nat) (v : Value) (L : List Int) (n : Nat) (en : Ending) (w' : World) : Prop :=
  ∃ u A k, en = .returned u ∧ OwnE entE w' w.heap.size u A ∧ A.length ≤ n ∧ IsDice w' b v L k ∧ Mods [b] w w'
def MkEnts (w : World) (b : Nat) (v : Value) (L : List Int) (n : Nat) (u : Value) (k : Nat) (wr : World) : Prop :=
  ∃ A j, OwnE entE wr w.heap.size u A ∧ A.length + k ≤ n ∧ IsDice wr b v L j ∧ Mods [b] w wr
set_option maxRecDepth 100000 in
set_option maxHeartbeats 2000000 in
theorem entities_ok (w : World) (b : Nat) (v : Value) (L : List Int) (j : Nat) (h : IsDice w b v L j) (n : Nat) (hn : n ≤ 1000) :
    Calls Tryz.prog 31 #[.pointer (some ⟨b, 0, none⟩), .int .i64 n] w fun en w' => MadeEnts w b v L n en w' := by
  have H := Lib.hid h
  have HOL := Lib.hid h.old
  have hb := h.lt
  clear h
  go_enter Tryz.func31, Tryz.ntmps31
  go_wp2_with fail
  refine (next_ok w b v L j H.out _ (by omega) (by omega)).mono ?_
  rintro e w1 ⟨r, j1, rfl, r1, r2, D1, M1⟩
  obtain ⟨r, rfl⟩ := Int.eq_ofNat_of_zero_le r1
  have HST := Lib.hid (show MkEnts w b v L n (.slice none 0 0) r w1 from ⟨[], j1, OwnE.nil _ _ _, by simp; omega, D1, M1⟩)
  clear D1 M1 r2 r1
  go_wp2_with fail
  go_loopw [5, 6] (fun u i wr => ∃ k : Nat, i = .int .i64 k ∧ MkEnts w b v L n u k wr) (fun _ i _ => (intOf i).toNat)
  case atStart => exact ⟨r, rfl, HST.out⟩
  clear HST
  case round =>
    obtain ⟨k, rfl, A, j2, hO, hlen, hD, hM⟩ := hrel
    obtain ⟨au, cu, rfl⟩ := (hO.rd entOk).len
    have HO := Lib.hid hO
    have HD := Lib.hid hD
    have HM := Lib.hid hM
    clear hO hD hM
    by_cases hk : 0 < k
    · have d1 : decide ((k : Int) > 0) = true := decide_eq_true (by omega)
      have i0 : (1 : Int) ≤ (k : Int) := by omega
      have i1 : (k : Int) ≤ 1000 := by omega
      obtain ⟨m, rfl⟩ : ∃ m, k = m + 1 := ⟨k - 1, by omega⟩
      go_wp2_with fail
      refine (entity_ok wr b v L j2 HD.out).mono ?_
      rintro e w2 ⟨x, y, j3, rfl, hx, hy, D2, M2⟩
      have HO2 := Lib.hid (HO.out.mods M2 (fun k hk hm => by simp at hm; subst hm; have := (HO.out.lt _ hk).1; omega))
      have HM2 := Lib.hid (HM.out.trans M2)
      have hz2 : w.heap.size ≤ w2.heap.size := HM2.out.size
      have HD2 := Lib.hid D2
      obtain ⟨E, hE⟩ : ∃ E : Ent, E = ⟨⟨x, hx⟩, ⟨y, hy⟩⟩ := ⟨_, rfl⟩
      have MA := (Mods.refl (S := []) (w := w2)).alloc (.cells #[.int .u8 (x : Int), .int .u8 (y : Int)] 31)
      have HP := Lib.hid (show OwnE entE (w2.alloc (.cells #[.int .u8 (x : Int), .int .u8 (y : Int)] 31)) w.heap.size _ A ∧ RdE entE (w2.alloc (.cells #[.int .u8 (x : Int), .int .u8 (y : Int)] 31)) (.slice (some ⟨w2.heap.size, 0, none⟩) 1 1) [E] ∧ Mods [b] w (w2.alloc (.cells #[.int .u8 (x : Int), .int .u8 (y : Int)] 31)) ∧ IsDice (w2.alloc (.cells #[.int .u8 (x : Int), .int .u8 (y : Int)] 31)) b v L j3 from ⟨HO2.out.mods0 MA, RdE.one (a := E) (heap_alloc_new w2 _) (by rw [hE]; rfl), HM2.out.comp0 MA, HD2.out.mods0 MA⟩)
      clear MA D2 M2 hE HO HM HD
      go_wp2_with (at_builtin; refine wpList_appE entOk (by rfl) (.tmp 15) (.tmp 18) rfl (by rfl) HP.out.1 (by rfl) HP.out.2.1 (by simp; omega) (by simp; omega) ?_; intro VB WB OB MB; have HST := Lib.hid (show MkEnts w b v L n VB m WB from ⟨A ++ [E], j3, OB, by simp; omega, HP.out.2.2.2.mods MB (fun hm => by have := HP.out.1.back hm; omega) (fun hl k hk hm => by have := HP.out.1.back hm; have := HOL.out hl k hk; omega), HP.out.2.2.1.comp MB (fun q hq => .inr (HP.out.1.back hq))⟩); clear OB MB)
      go_roundw
      case rel => exact ⟨m, by go_num, HST.out⟩
      case measure => simp [intOf]
    · have hk0 : k = 0 := by omega
      subst hk0
      go_wp2_with fail
      go_ret
      exact ⟨_, A, j2, rfl, HO.out, by omega, HD.out, HM.out⟩
/-- At most n associations of the dice, valid together. -/
def MadeAscs (w : World) (b : Nat) (v : Value) (L : List Int) (n : Nat) (en : Ending) (w' : World) : Prop :=
  ∃ u A k, en = .returned u ∧ OwnE ascE w' w.heap.size u A ∧ A.length ≤ n ∧ chkE A = 0 ∧ IsDice w' b v L k ∧ Mods [b] w w'
def MkAscs (w : World) (b : Nat) (v : Value) (L : List Int) (n : Nat) (u : Value) (k : Nat) (wr : World) : Prop :=
  ∃ A j, OwnE ascE wr w.heap.size u A ∧ A.length + k ≤ n ∧ chkE A = 0 ∧ IsDice wr b v L j ∧ Mods [b] w wr
set_option maxRecDepth 100000 in
set_option maxHeartbeats 4000000 in
theorem ascs_ok (w : World) (b : Nat) (v : Value) (L : List Int) (j : Nat) (h : IsDice w b v L j) (n : Nat) (hn : n ≤ 1000) :
    Calls Tryz.prog 38 #[.pointer (some ⟨b, 0, none⟩), .int .i64 n] w fun en w' => MadeAscs w b v L n en w' := by
  have H := Lib.hid h
  have HOL := Lib.hid h.old
  have hb := h.lt
  clear h
  go_enter Tryz.func38, Tryz.ntmps38
  go_wp2_with fail
  refine (next_ok w b v L j H.out _ (by omega) (by omega)).mono ?_
  rintro e w1 ⟨r, j1, rfl, r1, r2, D1, M1⟩
  obtain ⟨r, rfl⟩ := Int.eq_ofNat_of_zero_le r1
  have HST := Lib.hid (show MkAscs w b v L n (.slice none 0 0) r w1 from ⟨[], j1, OwnE.nil _ _ _, by simp; omega, rfl, D1, M1⟩)
  clear D1 M1 r2 r1
  go_wp2_with fail
  go_loopw [5, 6] (fun u i wr => ∃ k : Nat, i = .int .i64 k ∧ MkAscs w b v L n u k wr) (fun _ i _ => (intOf i).toNat)
  case atStart => exact ⟨r, rfl, HST.out⟩
  clear HST
  case round =>
    obtain ⟨k, rfl, A, j2, hO, hlen, hck, hD, hM⟩ := hrel
    obtain ⟨au, cu, rfl⟩ := (hO.rd ascOk).len
    have HO := Lib.hid hO
    have HD := Lib.hid hD
    have HM := Lib.hid hM
    have HCK := Lib.hid hck
    have hzr : w.heap.size ≤ wr.heap.size := hM.size
    have HZR := Lib.hid hzr
    have HBR := Lib.hid (show b < wr.heap.size by omega)
    clear hO hD hM hck hzr
    by_cases hk : 0 < k
    · have d1 : decide ((k : Int) > 0) = true := decide_eq_true (by omega)
      have i0 : (1 : Int) ≤ (k : Int) := by omega
      have i1 : (k : Int) ≤ 1000 := by omega
      obtain ⟨m, rfl⟩ : ∃ m, k = m + 1 := ⟨k - 1, by omega⟩
      go_wp2_with (at_builtin; refine wpList_appE ascOk (by rfl) _ (.tmp 16) rfl (v := .slice none 0 0) (by rfl) (OwnE.nil ascE wr wr.heap.size) (by rfl) (HO.out.rd ascOk) (by simp; omega) (Nat.le_refl _) ?_; intro VA WA OA MA; have HOA := Lib.hid (show OwnE ascE WA wr.heap.size VA A from OA); have HMA := Lib.hid (show Mods [] wr WA from MA); clear OA MA)
      refine (entity_ok WA b v L j2 (HD.out.mods0 HMA.out)).mono ?_
      rintro e w2 ⟨x, y, j3, rfl, hx, hy, D2, M2⟩
      have HO2 := Lib.hid (HOA.out.mods M2 (fun k hk hm => by simp at hm; subst hm; have := (HOA.out.lt _ hk).1; have := HBR.out; omega))
      have HM2 := Lib.hid ((show Mods [b] wr WA from HMA.out.nil).trans M2)
      have HD2 := Lib.hid D2
      clear D2 M2
      go_wp2_with fail
      refine (entity_ok w2 b v L j3 HD2.out).mono ?_
      rintro e w3 ⟨x2, y2, j4, rfl, hx2, hy2, D3, M3⟩
      have HO3 := Lib.hid (HO2.out.mods M3 (fun k hk hm => by simp at hm; subst hm; have := (HO2.out.lt _ hk).1; have := HBR.out; omega))
      have HM3 := Lib.hid (HM2.out.trans M3)
      have HD3 := Lib.hid D3
      have hz3 : wr.heap.size ≤ w3.heap.size := HM3.out.size
      have HZ3 := Lib.hid hz3
      obtain ⟨X, hX⟩ : ∃ X : Asc, X = ⟨⟨⟨x, hx⟩, ⟨y, hy⟩⟩, ⟨⟨x2, hx2⟩, ⟨y2, hy2⟩⟩⟩ := ⟨_, rfl⟩
      have MA := (Mods.refl (S := []) (w := w3)).alloc (.cells #[.int .u8 (x : Int), .int .u8 (y : Int), .int .u8 (x2 : Int), .int .u8 (y2 : Int)] 111)
      have HP := Lib.hid (show OwnE ascE (w3.alloc (.cells #[.int .u8 (x : Int), .int .u8 (y : Int), .int .u8 (x2 : Int), .int .u8 (y2 : Int)] 111)) wr.heap.size _ A ∧ RdE ascE (w3.alloc (.cells #[.int .u8 (x : Int), .int .u8 (y : Int), .int .u8 (x2 : Int), .int .u8 (y2 : Int)] 111)) (.slice (some ⟨w3.heap.size, 0, none⟩) 1 1) [X] ∧ Mods [b] wr (w3.alloc (.cells #[.int .u8 (x : Int), .int .u8 (y : Int), .int .u8 (x2 : Int), .int .u8 (y2 : Int)] 111)) ∧ IsDice (w3.alloc (.cells #[.int .u8 (x : Int), .int .u8 (y : Int), .int .u8 (x2 : Int), .int .u8 (y2 : Int)] 111)) b v L j4 from ⟨HO3.out.mods0 MA, RdE.one (a := X) (heap_alloc_new w3 _) (by rw [hX]; rfl), HM3.out.comp0 MA, HD3.out.mods0 MA⟩)
      clear MA D3 M3 hX HOA HMA HO2 HM2 HD2 hz3
      go_wp2_with (at_builtin; refine wpList_appE ascOk (by rfl) (.tmp 17) (.tmp 23) rfl (by rfl) HP.out.1 (by rfl) HP.out.2.1 (by simp; omega) (by have := HZ3.out; simp; omega) ?_; intro VB WB OB MB; have HOB := Lib.hid OB; have HDB := Lib.hid (HP.out.2.2.2.mods MB (fun hm => by have := HP.out.1.back hm; have := HBR.out; omega) (fun hl k hk hm => by have := HP.out.1.back hm; have := HOL.out hl k hk; have := HZR.out; omega)); have HMB := Lib.hid (HP.out.2.2.1.comp MB (fun q hq => .inr (HP.out.1.back hq))); clear OB MB)
      obtain ⟨ab, cb, rfl⟩ := (HOB.out.rd ascOk).len
      have HCH := Lib.hid (refCheck_ok WB (A ++ [X]) _ (HOB.out.rd ascOk))
      have HUU := Lib.hid (HO.out.mods HMB.out (fun k hk hm => by simp at hm; subst hm; have := (HO.out.lt _ hk).1; omega))
      obtain ⟨N, hN⟩ : ∃ N, N = (A ++ [X]).length := ⟨_, rfl⟩
      have HN := Lib.hid hN
      rw [← hN] at HOB HCH ⊢
      clear hN HP
      refine HCH.out.mono ?_
      rintro en w5 ⟨rfl, M5⟩
      have HM5 := Lib.hid (HM.out.trans (HMB.out.comp0 M5))
      have HD5 := Lib.hid (HDB.out.mods0 M5)
      have HU5 := Lib.hid (HUU.out.mods0 M5)
      have HO5 := Lib.hid (HOB.out.mods0 M5)
      clear M5 HCH
      by_cases hc : chkE (A ++ [X]) = 0
      · have HST := Lib.hid (show MkAscs w b v L n (.slice ab N cb) m w5 from ⟨A ++ [X], j4, HO5.out.down HZR.out, by simp; omega, hc, HD5.out, HM5.out⟩)
        rw [hc]
        clear hc
        go_wp2_with fail
        go_roundw
        case rel => exact ⟨m, by go_num, HST.out⟩
        case measure => simp [intOf]
      · have HST := Lib.hid (show MkAscs w b v L n (.slice au A.length cu) m w5 from ⟨A, j4, HU5.out, by omega, HCK.out, HD5.out, HM5.out⟩)
        have d5 : (chkE (A ++ [X]) == 0) = false := by simpa using hc
        clear hc
        generalize chkE (A ++ [X]) = c at d5 ⊢
        go_wp2_with fail
        go_roundw
        case rel => exact ⟨m, by go_num, HST.out⟩
        case measure => simp [intOf]
    · have hk0 : k = 0 := by omega
      subst hk0
      go_wp2_with fail
      go_ret
      exact ⟨_, A, j2, rfl, HO.out, by omega, HCK.out, HD.out, HM.out⟩
end Go.Proofs.YtijjkonephjodaaGreatDoor

namespace Go.Proofs.YtijjkonephjodaaGreatDoor

structure Evt where
  id : Fin 65536
  time : Fin 4294967296
  gen : Fin 65536
  st : Fin 256
  sen : Fin 256
  typ : Fin 256
  de : Bool
  d0 : Fin 256
  d1 : Fin 256
  d2 : Fin 256
deriving DecidableEq
def f8 (x : Nat) : Fin 256 := ⟨x % 256, Nat.mod_lt _ (by decide)⟩
def f16 (x : Nat) : Fin 65536 := ⟨x % 65536, Nat.mod_lt _ (by decide)⟩
def f32 (x : Nat) : Fin 4294967296 := ⟨x % 4294967296, Nat.mod_lt _ (by decide)⟩
def zE : Evt := ⟨f16 0, f32 0, f16 0, f8 0, f8 0, f8 0, false, f8 0, f8 0, f8 0⟩
instance : Inhabited Evt := ⟨zE⟩
def validE (e : Evt) : Bool := decide (e.id.val ≤ 65534) && decide (e.time.val ≤ 4294967294) && decide (e.typ.val ≤ 127)
theorem validE_iff (e : Evt) : validE e = true ↔ e.id.val ≤ 65534 ∧ e.time.val ≤ 4294967294 ∧ e.typ.val ≤ 127 := by
  unfold validE
  simp only [Bool.and_eq_true, decide_eq_true_eq, and_assoc]
/-- The sixteen bytes of an event. -/
def encEv (e : Evt) : List Int :=
  [((e.id.val % 256 : Nat) : Int), ((e.id.val / 256 : Nat) : Int), 2, ((e.time.val % 256 : Nat) : Int), ((e.time.val / 256 % 256 : Nat) : Int), ((e.time.val / 65536 % 256 : Nat) : Int), ((e.time.val / 16777216 : Nat) : Int),
    ((e.gen.val % 256 : Nat) : Int), ((e.gen.val / 256 : Nat) : Int), 4, ((e.st.val : Nat) : Int), ((e.sen.val : Nat) : Int), ((e.typ.val + (if e.de then 128 else 0) : Nat) : Int), ((e.d0.val : Nat) : Int), ((e.d1.val : Nat) : Int), ((e.d2.val : Nat) : Int)]
theorem encEv_len (e : Evt) : (encEv e).length = 16 := rfl
theorem encEv_byte {e : Evt} (h : validE e = true) : ∀ i, 0 ≤ (encEv e).getD i 0 ∧ (encEv e).getD i 0 ≤ 255 := by
  obtain ⟨h1, h2, h3⟩ := (validE_iff e).1 h
  have k1 := e.id.isLt
  have k2 := e.time.isLt
  have k3 := e.gen.isLt
  have k4 := e.st.isLt
  have k5 := e.sen.isLt
  have k6 := e.d0.isLt
  have k7 := e.d1.isLt
  have k8 := e.d2.isLt
  intro i
  match i with
  | 0 => show 0 ≤ ((e.id.val % 256 : Nat) : Int) ∧ ((e.id.val % 256 : Nat) : Int) ≤ 255; omega
  | 1 => show 0 ≤ ((e.id.val / 256 : Nat) : Int) ∧ ((e.id.val / 256 : Nat) : Int) ≤ 255; omega
  | 2 => show 0 ≤ (2 : Int) ∧ (2 : Int) ≤ 255; omega
  | 3 => show 0 ≤ ((e.time.val % 256 : Nat) : Int) ∧ ((e.time.val % 256 : Nat) : Int) ≤ 255; omega
  | 4 => show 0 ≤ ((e.time.val / 256 % 256 : Nat) : Int) ∧ ((e.time.val / 256 % 256 : Nat) : Int) ≤ 255; omega
  | 5 => show 0 ≤ ((e.time.val / 65536 % 256 : Nat) : Int) ∧ ((e.time.val / 65536 % 256 : Nat) : Int) ≤ 255; omega
  | 6 => show 0 ≤ ((e.time.val / 16777216 : Nat) : Int) ∧ ((e.time.val / 16777216 : Nat) : Int) ≤ 255; omega
  | 7 => show 0 ≤ ((e.gen.val % 256 : Nat) : Int) ∧ ((e.gen.val % 256 : Nat) : Int) ≤ 255; omega
  | 8 => show 0 ≤ ((e.gen.val / 256 : Nat) : Int) ∧ ((e.gen.val / 256 : Nat) : Int) ≤ 255; omega
  | 9 => show 0 ≤ (4 : Int) ∧ (4 : Int) ≤ 255; omega
  | 10 => show 0 ≤ ((e.st.val : Nat) : Int) ∧ ((e.st.val : Nat) : Int) ≤ 255; omega
  | 11 => show 0 ≤ ((e.sen.val : Nat) : Int) ∧ ((e.sen.val : Nat) : Int) ≤ 255; omega
  | 12 => show 0 ≤ ((e.typ.val + (if e.de then 128 else 0) : Nat) : Int) ∧ ((e.typ.val + (if e.de then 128 else 0) : Nat) : Int) ≤ 255; split <;> omega
  | 13 => show 0 ≤ ((e.d0.val : Nat) : Int) ∧ ((e.d0.val : Nat) : Int) ≤ 255; omega
  | 14 => show 0 ≤ ((e.d1.val : Nat) : Int) ∧ ((e.d1.val : Nat) : Int) ≤ 255; omega
  | 15 => show 0 ≤ ((e.d2.val : Nat) : Int) ∧ ((e.d2.val : Nat) : Int) ≤ 255; omega
  | n + 16 => exact ⟨by show 0 ≤ (0 : Int); decide, by show (0 : Int) ≤ 255; decide⟩
/-- The event of sixteen bytes, valid or not. -/
def rawEv (c : Nat → Nat) : Evt :=
  ⟨f16 (c 0 + 256 * c 1), f32 (c 3 + 256 * c 4 + 65536 * c 5 + 16777216 * c 6), f16 (c 7 + 256 * c 8), f8 (c 10), f8 (c 11), f8 (c 12 % 128), decide (128 ≤ c 12), f8 (c 13), f8 (c 14), f8 (c 15)⟩
/-- What sixteen bytes are decoded to. -/
def decEv (c : Nat → Nat) : Option Evt := if c 2 = 2 ∧ c 9 = 4 then (if validE (rawEv c) then some (rawEv c) else none) else none
theorem dec_enc {e : Evt} (h : validE e = true) : decEv (fun i => ((encEv e).getD i 0).toNat) = some e := by
  obtain ⟨h1, h2, h3⟩ := (validE_iff e).1 h
  have hr : rawEv (fun i => ((encEv e).getD i 0).toNat) = e := by
    obtain ⟨⟨id, hid⟩, ⟨time, ht⟩, ⟨gen, hg⟩, ⟨st, hs⟩, ⟨sen, hn⟩, ⟨typ, hy⟩, de, ⟨d0, h0⟩, ⟨d1, h1'⟩, ⟨d2, h2'⟩⟩ := e
    simp only at h1 h2 h3
    unfold rawEv f8 f16 f32
    simp only [encEv, List.getD_cons_zero, List.getD_cons_succ, Int.toNat_natCast, Evt.mk.injEq, Fin.mk.injEq]
    refine ⟨by omega, by omega, by omega, by omega, by omega, ?_, ?_, by omega, by omega, by omega⟩
    · split <;> omega
    · cases de <;> simp <;> omega
  unfold decEv
  rw [hr, if_pos ⟨rfl, rfl⟩, if_pos h]
theorem decEv_valid {c : Nat → Nat} {e : Evt} (h : decEv c = some e) : validE e = true := by
  unfold decEv at h
  split at h
  · split at h
    · injection h with h
      subst h
      assumption
    · cases h
  · cases h
theorem decEv_congr {c d : Nat → Nat} (h : ∀ i, i < 16 → c i = d i) : decEv c = decEv d := by
  have e : rawEv c = rawEv d := by
    unfold rawEv
    rw [h 0 (by omega), h 1 (by omega), h 3 (by omega), h 4 (by omega), h 5 (by omega), h 6 (by omega), h 7 (by omega), h 8 (by omega), h 10 (by omega), h 11 (by omega), h 12 (by omega), h 13 (by omega), h 14 (by omega), h 15 (by omega)]
  unfold decEv
  rw [e, h 2 (by omega), h 9 (by omega)]
/-- The ID behind another one. -/
def behindN (id : Nat) : Nat := if id = 65534 then 1 else id + 1
end Go.Proofs.YtijjkonephjodaaGreatDoor

namespace Go.Proofs.YtijjkonephjodaaGreatDoor
open Go.RowKit

def Evt.cells (e : Evt) : List Value := [.int .u16 ((e.id.val : Nat) : Int), .int .u32 ((e.time.val : Nat) : Int), .int .u16 ((e.gen.val : Nat) : Int), .int .u8 ((e.st.val : Nat) : Int), .int .u8 ((e.sen.val : Nat) : Int), .int .u8 ((e.typ.val : Nat) : Int), .bool e.de, .int .u8 ((e.d0.val : Nat) : Int), .int .u8 ((e.d1.val : Nat) : Int), .int .u8 ((e.d2.val : Nat) : Int)]
def evE : Elt Evt := ⟨65, 45, 10, Evt.cells, default⟩
theorem Tryz.infoEv : (Tryz.prog.info? 65).map (fun i => (i.zero, i.size, i.bytes)) = some (some (.agg #[.int .u16 0, .int .u32 0, .int .u16 0, .int .u8 0, .int .u8 0, .int .u8 0, .bool false, .int .u8 0, .int .u8 0, .int .u8 0]), 10, 20) := by kernel_rfl
theorem Tryz.sizeEv : (Tryz.prog.info? 65).map (·.size) = some 10 := by kernel_rfl
theorem evOk : evE.Ok Tryz.prog := by
  refine ⟨fun _ => rfl, fun a v hv => ?_, by decide, Tryz.underlying45, ?_⟩
  · simp [evE, Evt.cells] at hv
    rcases hv with rfl | rfl | rfl | rfl | rfl | rfl | rfl | rfl | rfl | rfl <;> rfl
  · obtain ⟨i0, hi, hz0, hz1, hz2⟩ := info_parts Tryz.infoEv
    exact ⟨i0, _, hi, hz0, hz1, by rw [hz2]; decide, rfl⟩
theorem Evt.one (e : Evt) : e.cells.toArray.all (·.oneCell') = true := by simp [Evt.cells, Value.oneCell']
/-- An event lies in a block of its own. -/
def EvBox (w : World) (g : Nat) (e : Evt) : Prop := w.heap[g]? = some (.cells e.cells.toArray 65 (0, 0))
section
variable {w W : World} {g : Nat} {e : Evt} {S : List Nat}
theorem EvBox.mods (h : EvBox w g e) (M : Mods S w W) (hn : g ∉ S) : EvBox W g e := M.heap h hn
theorem EvBox.mods0 (h : EvBox w g e) (M : Mods [] w W) : EvBox W g e := M.heap h (by simp)
theorem EvBox.lt (h : EvBox w g e) : g < w.heap.size := lt_of_block h
theorem EvBox.new (w : World) (e : Evt) : EvBox (w.alloc (.cells e.cells.toArray 65)) w.heap.size e := heap_alloc_new w _
theorem EvBox.c (h : EvBox w g e) (i : Nat) : w.cell? ⟨g, i, none⟩ = e.cells.toArray[i]? := cell_blk h i
theorem EvBox.fr (h : EvBox w g e) (i : Nat) : w.frozen? ⟨g, i, none⟩ = false := froz_blk h i
theorem EvBox.cs (h : EvBox w g e) : w.cell? ⟨g, 0, none⟩ = some (.int .u16 ((e.id.val : Nat) : Int)) ∧ w.cell? ⟨g, 1, none⟩ = some (.int .u32 ((e.time.val : Nat) : Int)) ∧ w.cell? ⟨g, 2, none⟩ = some (.int .u16 ((e.gen.val : Nat) : Int)) ∧
    w.cell? ⟨g, 3, none⟩ = some (.int .u8 ((e.st.val : Nat) : Int)) ∧ w.cell? ⟨g, 4, none⟩ = some (.int .u8 ((e.sen.val : Nat) : Int)) ∧ w.cell? ⟨g, 5, none⟩ = some (.int .u8 ((e.typ.val : Nat) : Int)) ∧ w.cell? ⟨g, 6, none⟩ = some (.bool e.de) ∧
    w.cell? ⟨g, 7, none⟩ = some (.int .u8 ((e.d0.val : Nat) : Int)) ∧ w.cell? ⟨g, 8, none⟩ = some (.int .u8 ((e.d1.val : Nat) : Int)) ∧ w.cell? ⟨g, 9, none⟩ = some (.int .u8 ((e.d2.val : Nat) : Int)) :=
  ⟨h.c 0, h.c 1, h.c 2, h.c 3, h.c 4, h.c 5, h.c 6, h.c 7, h.c 8, h.c 9⟩
end
theorem Tryz.infoU8 : ∃ i, Tryz.prog.info? 5 = some i ∧ i.size = 1 := by
  have h : (Tryz.prog.info? 5).map (·.size) = some 1 := by kernel_rfl
  cases e : Tryz.prog.info? 5 with
  | none => rw [e] at h; cases h
  | some i => rw [e] at h; exact ⟨i, rfl, by simpa using h⟩
theorem Tryz.cellsU8 : Tryz.prog.cellsOf 5 = 1 := by kernel_rfl
set_option maxRecDepth 100000 in
set_option maxHeartbeats 2000000 in
theorem three_eq (x0 x1 x2 y0 y1 y2 : Int) (w : World) : (Op.equalIn 9999 63 (.agg #[.int .u8 x0, .int .u8 x1, .int .u8 x2]) (.agg #[.int .u8 y0, .int .u8 y1, .int .u8 y2])).run Tryz.prog w = .ok (decide (x0 = y0) && (decide (x1 = y1) && decide (x2 = y2))) w := by
  obtain ⟨i, hi, hs⟩ := Tryz.infoU8
  rw [show (9999 : Nat) = 9998 + 1 from rfl, run_equalIn_array w 9998 _ _ Tryz.underlying63 hi, Tryz.cellsU8]
  simp only [List.range, List.range.loop, Op.eqItems]
  go_simp
  by_cases e0 : x0 = y0
  · by_cases e1 : x1 = y1
    · by_cases e2 : x2 = y2
      · simp [e0, e1, e2]
      · simp [e0, e1, e2]
    · simp [e0, e1]
  · simp [e0]
set_option maxRecDepth 100000 in
set_option maxHeartbeats 2000000 in
/-- Events compared. -/
theorem ev_eq (x y : Evt) (w : World) : (binOp .eql 65 (.agg x.cells.toArray) (.agg y.cells.toArray)).run Tryz.prog w = .ok (.bool (decide (x = y))) w := by
  obtain ⟨⟨a0, h0⟩, ⟨a1, h1⟩, ⟨a2, h2⟩, ⟨a3, h3⟩, ⟨a4, h4⟩, ⟨a5, h5⟩, a6, ⟨a7, h7⟩, ⟨a8, h8⟩, ⟨a9, h9⟩⟩ := x
  obtain ⟨⟨b0, k0⟩, ⟨b1, k1⟩, ⟨b2, k2⟩, ⟨b3, k3⟩, ⟨b4, k4⟩, ⟨b5, k5⟩, b6, ⟨b7, k7⟩, ⟨b8, k8⟩, ⟨b9, k9⟩⟩ := y
  unfold Evt.cells
  simp only [Evt.mk.injEq, Fin.mk.injEq]
  go_simp
  simp only [three_eq, Result.andThen_ok, Int.natCast_inj]
  by_cases e0 : a0 = b0
  rotate_left
  · simp [e0]
  by_cases e1 : a1 = b1
  rotate_left
  · simp [e0, e1]
  by_cases e2 : a2 = b2
  rotate_left
  · simp [e0, e1, e2]
  by_cases e3 : a3 = b3
  rotate_left
  · simp [e0, e1, e2, e3]
  by_cases e4 : a4 = b4
  rotate_left
  · simp [e0, e1, e2, e3, e4]
  by_cases e5 : a5 = b5
  rotate_left
  · simp [e0, e1, e2, e3, e4, e5]
  by_cases e6 : a6 = b6
  rotate_left
  · simp [e0, e1, e2, e3, e4, e5, e6]
  by_cases e7 : a7 = b7
  rotate_left
  · simp [e0, e1, e2, e3, e4, e5, e6, e7]
  by_cases e8 : a8 = b8
  rotate_left
  · simp [e0, e1, e2, e3, e4, e5, e6, e7, e8]
  by_cases e9 : a9 = b9
  · simp [e0, e1, e2, e3, e4, e5, e6, e7, e8, e9]
  · simp [e0, e1, e2, e3, e4, e5, e6, e7, e8, e9]
end Go.Proofs.YtijjkonephjodaaGreatDoor

namespace Go.Proofs.YtijjkonephjodaaGreatDoor
open Go.RowKit Go.ChangeShapes Go.WideShapes Go.Deep

/-- A list out of a choice at each place. -/
theorem list_of {α : Type} (d : α) (n : Nat) (Q : Nat → α → Prop) (h : ∀ i, i < n → ∃ x, Q i x) : ∃ l : List α, l.length = n ∧ ∀ i, i < n → Q i (l.getD i d) := by
  induction n with
  | zero => exact ⟨[], rfl, fun i hi => by omega⟩
  | succ n ih =>
    obtain ⟨l, hl, hq⟩ := ih fun i hi => h i (by omega)
    obtain ⟨x, hx⟩ := h n (by omega)
    refine ⟨l ++ [x], by simp [hl], fun i hi => ?_⟩
    rcases Nat.lt_or_ge i n with h1 | h1
    · have := hq i h1
      rw [List.getD_eq_getElem?_getD, List.getElem?_append_left (by omega), ← List.getD_eq_getElem?_getD]
      exact this
    · obtain rfl : i = n := by omega
      rw [List.getD_eq_getElem?_getD, List.getElem?_append_right (by omega), hl]
      simpa using hx

section
variable {H : Type} {enc : TypeId × Value → H} {P : Program} {w : World} {base : Nat} {spare : Nat → Bool} {held : Bool}
/-- A slice of integers behind one cell. -/
theorem rd_of_trod {t e : TypeId} {k : IntKind} {fuel : Nat} {v : Value} {x : DataW H × List MemPlace} (ht : P.underlying t = some (.slice e)) (he : P.underlying e = some (.int k)) (hc : P.cellsOf e = 1)
    (h : DataW.trod enc P w base spare held fuel t [v] = some x) : ∃ zs : List Int, Rd w v (zs.map (Value.int k)) ∧ ∀ n ∈ zs, (Lit.int k n).wf = true := by
  rcases open_ints ht he hc h with ⟨hcs, _⟩ | ⟨a, len, cap, zs, hcs, _, hl, hm, hz, _, hcell, hw⟩
  · simp at hcs
    subst hcs
    exact ⟨[], Rd.nil w, by simp⟩
  · simp at hcs
    subst hcs
    have hlen : len ≤ zs.length := by rw [hz]; split <;> omega
    refine ⟨zs.take len, rd_in (by simp; omega) hl hm fun i hi => ?_, fun n hn => hw n (List.mem_of_mem_take hn)⟩
    rw [hcell i (by omega)]
    simp only [List.getD_eq_getElem?_getD, List.getElem?_map, List.getElem?_take, if_pos hi]
    rw [List.getElem?_eq_getElem (by omega)]
    rfl
theorem open_slice_fields {t e : TypeId} {fs : Array Field} {fuel : Nat} {cs : List Value} {x : DataW H × List MemPlace} (ht : P.underlying t = some (.slice e)) (he : P.underlying e = some (.struct fs))
    (hone : oneCellFields P fs = true) (hC : P.cellsOf e = fs.size) (h : DataW.trod enc P w base spare held fuel t cs = some x) :
    cs = [.slice none 0 0] ∨
    ∃ (a : Addr) (len cap : Nat), cs = [.slice (some a) len cap] ∧ len ≤ cap ∧ cap ≤ maxLen ∧
      ∀ i, i < len → ∃ n : Nat, ∀ (j : Nat) (f : Field), fs[j]? = some f → ∃ (v : Value) (y : DataW H × List MemPlace), w.cell? (a.add (i * fs.size + j)) = some v ∧ DataW.trod enc P w base spare held n f.type [v] = some y := by
  rcases open_slice ht h with h0 | ⟨a, len, cap, m, n, D, Pl, hcs, hb, hl, hm, hmm, hx, hi⟩
  · exact .inl h0.1
  · refine .inr ⟨a, len, cap, hcs, hl, hm, fun i hil => ?_⟩
    obtain ⟨cs', hc, ht'⟩ := hi i (by rw [hmm]; split <;> omega)
    rw [hC] at hc
    obtain ⟨ys, n', hn', hy, hlen, hyl, hf⟩ := DataW.trod_struct he ht'
    obtain ⟨_, hcl, hat⟩ := World.cells?_some hc
    refine ⟨n', fun j f hj => ?_⟩
    obtain ⟨ho, hk⟩ := hone_of hone j f hj
    have hjl : j < fs.size := (Array.getElem?_eq_some_iff.1 hj).1
    have hcell := hat j hjl
    have hv : cs'[j]? = some (cs'[j]'(by omega)) := List.getElem?_eq_getElem (by omega)
    have h1 := hf j f hj
    rw [ho, hk] at h1
    have hone' : (cs'.drop j).take 1 = [cs'[j]'(by omega)] := by
      rw [List.drop_eq_getElem_cons (by omega)]
      rfl
    rw [hone'] at h1
    have hys : ys[j]? = some (ys[j]'(by omega)) := List.getElem?_eq_getElem (by omega)
    refine ⟨_, _, ?_, h1.trans hys⟩
    rw [← Go.Deep.add_add, hcell, hv]
end
theorem dot_cell {w : World} {b off n : Nat} {v : Value} (h : w.cell? ((⟨b, off, none⟩ : Addr).add n) = some v) : w.cell? ⟨b, off + n, none⟩ = some v := by
  unfold Addr.add at h
  split at h
  · rename_i h0; subst h0; exact h
  · exact h
end Go.Proofs.YtijjkonephjodaaGreatDoor

namespace Go.Proofs.YtijjkonephjodaaGreatDoor
open Go.RowKit Go.ChangeShapes Go.WideShapes Go.Deep

section
variable {H : Type} {enc : TypeId × Value → H} {P : Program} {w : World} {base : Nat} {spare : Nat → Bool} {held : Bool} {α : Type} {E : Elt α}
theorem elt_in (hk : E.Ok P) (hC : P.cellsOf E.ty = E.k) (Q : α → Prop)
    (hdec : ∀ (n : Nat) (cs : List Value) (x : DataW H × List MemPlace), DataW.trod enc P w base spare held n E.ty cs = some x → ∃ a, cs = E.enc a ∧ Q a)
    {fuel : Nat} {v : Value} {x : DataW H × List MemPlace} (h : DataW.trod enc P w base spare held fuel E.sl [v] = some x) : ∃ l, RdE E w v l ∧ ∀ i, i < l.length → Q (l.getD i E.dflt) := by
  rcases open_slice hk.und h with h0 | ⟨a, len, cap, m, n, D, Pl, hcs, hb, hl, hm, hmm, hx, hi⟩
  · have h0 := h0.1
    simp at h0
    subst h0
    exact ⟨[], RdE.nil E w, fun i hi => by simp at hi⟩
  · simp at hcs
    subst hcs
    have key : ∀ i, i < len → ∃ d : α, Q d ∧ ∃ b off, a = ⟨b, off, none⟩ ∧ ∀ j, j < E.k → w.cell? ⟨b, off + i * E.k + j, none⟩ = (E.enc d)[j]? := by
      intro i hil
      have hpos := hk.pos
      have hsp : a.spot = none := by
        obtain ⟨cs', hc, _⟩ := hi 0 (by rw [hmm]; split <;> omega)
        rw [hC] at hc
        obtain ⟨_, hlen, hat⟩ := World.cells?_some hc
        have h1 := hat 0 hpos
        rw [List.getElem?_eq_getElem (by omega), Go.Deep.add_add] at h1
        obtain ⟨_, _, _, _, hsp⟩ := rd_add h1
        exact hsp (by simp)
      obtain ⟨cs', hc, ht⟩ := hi i (by rw [hmm]; split <;> omega)
      rw [hC] at hc
      obtain ⟨_, hlen, hat⟩ := World.cells?_some hc
      obtain ⟨d, rfl, hq⟩ := hdec _ _ _ ht
      obtain ⟨b, off, spot⟩ := a
      simp only at hsp
      subst hsp
      refine ⟨d, hq, b, off, rfl, fun j hj => ?_⟩
      have h1 := hat j hj
      rw [Go.Deep.add_add] at h1
      rw [List.getElem?_eq_getElem (by omega)] at h1 ⊢
      rw [Nat.add_assoc]
      exact dot_cell h1
    obtain ⟨l, hll, hq⟩ := list_of E.dflt len (fun i d => Q d ∧ ∃ b off, a = ⟨b, off, none⟩ ∧ ∀ j, j < E.k → w.cell? ⟨b, off + i * E.k + j, none⟩ = (E.enc d)[j]?) key
    refine ⟨l, ⟨some a, cap, by rw [hll], by omega, hm, fun i hil => ?_⟩, fun i hil => (hq i (by omega)).1⟩
    obtain ⟨_, b, off, h2, h3⟩ := hq i (by omega)
    exact ⟨b, off, by rw [h2], h3⟩
/-- One field of a struct, read. -/
theorem fieldOf {n : Nat} {fs : Array Field} {cs : List Value} {xs : List (DataW H × List MemPlace)} (hl : xs.length = fs.size)
    (hf : ∀ (i : Nat) (f : Field), fs[i]? = some f → DataW.trod enc P w base spare held n f.type ((cs.drop f.offset).take (P.cellsOf f.type)) = xs[i]?)
    (i : Nat) (f : Field) (hi : fs[i]? = some f) (ty off k : Nat) (ht : f.type = ty) (ho : f.offset = off) (hk : P.cellsOf ty = k) : ∃ y, DataW.trod enc P w base spare held n ty ((cs.drop off).take k) = some y := by
  have h := hf i f hi
  rw [ht, ho, hk] at h
  have hlt : i < xs.length := by rw [hl]; exact (Array.getElem?_eq_some_iff.1 hi).1
  exact ⟨xs[i], by rw [h, List.getElem?_eq_getElem hlt]⟩
end
end Go.Proofs.YtijjkonephjodaaGreatDoor
