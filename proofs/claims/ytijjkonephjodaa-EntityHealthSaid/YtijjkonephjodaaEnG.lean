/- Joined texts. The reference's Health, equal lists, the dice's entities and associations: contracts. | The dice's entities and associations: contracts. -/
import Derived.Test.YtijjkonephjodaaEnF
import Derived.Test.YtijjkonephjodaaMade
namespace Go.Proofs.Ytijjkonephjodaa
open Go.RowKit

theorem all_bad {own : List Cnd} {k : Nat} (hk : k < own.length) (h : sevOk (own.getD k default) = false) : own.all sevOk = false := by
  rw [List.all_eq_false]
  refine ⟨own[k], List.getElem_mem hk, ?_⟩
  rw [List.getD_eq_getElem?_getD, List.getElem?_eq_getElem hk] at h
  simpa using h
theorem all_good {own : List Cnd} (h : ∀ k, k < own.length → sevOk (own.getD k default) = true) : own.all sevOk = true := by
  rw [List.all_eq_true]
  intro x hx
  obtain ⟨k, hk, rfl⟩ := List.mem_iff_getElem.1 hx
  have := h k hk
  rwa [List.getD_eq_getElem?_getD, List.getElem?_eq_getElem hk] at this
set_option maxRecDepth 100000 in
set_option maxHeartbeats 4000000 in
theorem refHealthE_ok (w : World) (l : List Asc) (v : Value) (hv : RdE ascE w v l) (vab : Value) (ab : List Ent) (hab : RdE entE w vab ab) (vo : Value) (own : List Cnd) (ho : RdE cndE w vo own) (e : Ent) :
    Calls Try.prog 42 #[v, vab, vo, .agg e.cells.toArray] w fun en w' => HealthE w l ab own e en w' := by
  obtain ⟨ad, cap, rfl⟩ := hv.len
  obtain ⟨ad2, cap2, rfl⟩ := hab.len
  obtain ⟨ad3, cap3, rfl⟩ := ho.len
  have hcap3 := ho.bound
  have M0 := (Mods.refl (S := []) (w := w)).alloc (.cells e.cells.toArray 23)
  have B0 := EntBox.new w e
  have HV := Lib.hid hv
  have HAB := Lib.hid hab
  have HO := Lib.hid ho
  have HM := Lib.hid M0
  have e0 := B0.c0
  have e1 := B0.c1
  have HC := Lib.hid (refWithinE_ok _ l _ (hv.mods0 ascOk M0) e)
  have HR := Lib.hid (fun (w' : World) (M : Mods [] w w') (x y : Int) (h : hlthR l ab own e = (x, y)) => show HealthE w l ab own e (.returned (.tuple #[.int .i64 x, .int .i64 y])) w' from ⟨by rw [h], M⟩)
  clear hv M0 B0 hab ho
  go_enter Try.func42, Try.ntmps42
  go_wp2_with fail
  refine HC.out.mono ?_
  rintro en w1 ⟨u, rfl, hu, M1⟩
  have HM1 := Lib.hid (HM.out.trans M1)
  clear M1 e0 e1 HC
  by_cases h : chkE l = 0
  · have hl := chk_len h
    have HCY := Lib.hid (chk_parts h).2
    have HW : Hid (hlthR l ab own e = if own.all sevOk = true then (hlthF l ab e own, 0) else (0, 2)) := Lib.hid (if_pos h)
    have hwr : wthR l e = wthL l e := if_pos h
    rw [hwr] at hu
    rw [h]
    clear h hwr
    obtain ⟨au, cu, rfl⟩ := hu.len
    have HU := Lib.hid hu
    clear hu
    generalize (wthL l e).length = nu at HU ⊢
    go_wp2_with fail
    go_loopw [12, 13] (fun o i wr => ∃ k : Nat, k ≤ own.length ∧ i = .int .i64 k ∧ o = .int .i64 (hlthK l ab e own k) ∧ Mods [] w1 wr ∧ Hid (∀ j, j < k → sevOk (own.getD j default) = true)) (fun _ i _ => own.length - (intOf i).toNat)
    case atStart => exact ⟨0, Nat.zero_le _, rfl, rfl, Mods.refl, fun j hj => by omega⟩
    case round =>
      obtain ⟨k, hk, rfl, rfl, hM, hOK⟩ := hrel
      have i0 : (0 : Int) ≤ (k : Int) := by omega
      have HMr := Lib.hid hM
      by_cases hlt : k < own.length
      · have i1 : (k : Int) < (own.length : Int) := by omega
        obtain ⟨bb, off, cap, hv2, _, _, hc⟩ := (HO.out.mods0 cndOk (HM1.out.trans hM)).cnd (by omega)
        injection hv2 with hv3 hv5 hv4
        subst hv3 hv4
        clear hv5
        obtain ⟨y0, y1, y2⟩ := hc k hlt
        have HKS := Lib.hid (hlthK_succ (l := l) (ab := ab) (e := e) hlt)
        have HBAD := Lib.hid (fun h => all_bad (own := own) hlt h)
        obtain ⟨x, hx⟩ : ∃ x, x = own.getD k default := ⟨_, rfl⟩
        rw [← hx] at y0 y1 y2 HKS HBAD
        have HXE := Lib.hid hx
        have HIX := Lib.hid (show hlthI l ab e (hlthK l ab e own k) x = if (decide (x.ent ∈ wthL l e) && presB l ab x.ent) = true then max (hlthK l ab e own k) x.sev else hlthK l ab e own k from rfl)
        generalize hlthK l ab e own k = o at HKS HIX ⊢
        have HCC := Lib.hid (show ∀ W, Mods [] wr W → W.cell? ⟨bb, off + k * 3, none⟩ = some (.int .u8 ((x.ent.id.val : Nat) : Int)) ∧ W.cell? ⟨bb, off + k * 3 + 1, none⟩ = some (.int .u8 ((x.ent.inst.val : Nat) : Int)) ∧ W.cell? ⟨bb, off + k * 3 + 2, none⟩ = some (.int .i64 x.sev) from fun W MW => ⟨MW.cell y0 (by simp), MW.cell y1 (by simp), MW.cell y2 (by simp)⟩)
        have HSV := Lib.hid (sevOk_iff x)
        clear hc hx hM
        by_cases hs : 0 ≤ x.sev ∧ x.sev ≤ 3
        · have HNO := Lib.hid (show ∀ j, j < k + 1 → sevOk (own.getD j default) = true from fun j hj => by
            rcases Nat.lt_or_ge j k with h | h
            · exact hOK.out j h
            · obtain rfl : j = k := by omega
              rw [← HXE.out]
              exact HSV.out.2 hs)
          have d1 : decide (x.sev < 0) = false := decide_eq_false (by omega)
          have d2 : decide (x.sev > 3) = false := decide_eq_false (by omega)
          have HHS := Lib.hid (refHas_ok wr (wthL l e) x.ent _ (HU.out.mods0 entOk HMr.out))
          clear hs
          go_wp2_with fail
          refine HHS.out.mono ?_
          rintro en w5 ⟨rfl, M5⟩
          have HM5 := Lib.hid (HMr.out.trans M5)
          have ⟨d3, d4, d5⟩ := HCC.out _ M5
          have HW5 := Lib.hid M5
          clear M5 y0 y1 y2 HHS
          obtain ⟨r1, hr1⟩ : ∃ r, r = decide (x.ent ∈ wthL l e) := ⟨_, rfl⟩
          rw [← hr1] at HIX ⊢
          clear hr1
          cases r1 with
          | false =>
            have HE := Lib.hid (show hlthK l ab e own (k + 1) = o by rw [HKS.out, HIX.out]; rfl)
            go_wp2_with fail
            go_roundw
            case rel => exact ⟨k + 1, by omega, by go_num, by rw [HE.out], HM5.out, HNO⟩
            case measure => simp [intOf]; omega
          | true =>
            have HPR := Lib.hid (there_ok w5 l (by omega) HCY.out _ (HV.out.mods0 ascOk (HM1.out.trans HM5.out)) _ ab (HAB.out.mods0 entOk (HM1.out.trans HM5.out)) x.ent)
            go_wp2_with fail
            refine HPR.out.mono ?_
            rintro en w6 ⟨rfl, M6⟩
            have HM6 := Lib.hid (HM5.out.trans M6)
            have ⟨_, _, d6⟩ := HCC.out _ (HW5.out.trans M6)
            clear M6 d3 d4 d5 HPR
            obtain ⟨r2, hr2⟩ : ∃ r, r = presB l ab x.ent := ⟨_, rfl⟩
            rw [← hr2] at HIX ⊢
            clear hr2
            cases r2 with
            | false =>
              have HE := Lib.hid (show hlthK l ab e own (k + 1) = o by rw [HKS.out, HIX.out]; rfl)
              go_wp2_with fail
              go_roundw
              case rel => exact ⟨k + 1, by omega, by go_num, by rw [HE.out], HM6.out, HNO⟩
              case measure => simp [intOf]; omega
            | true =>
              have HE := Lib.hid (show hlthK l ab e own (k + 1) = max o x.sev by rw [HKS.out, HIX.out]; rfl)
              go_wp2_with fail
              go_roundw
              case rel => exact ⟨k + 1, by omega, by go_num, by rw [HE.out], HM6.out, HNO⟩
              case measure => simp [intOf]; omega
        · have HB := Lib.hid (HBAD.out (by
            cases hq : sevOk x with
            | false => rfl
            | true => exact absurd (HSV.out.1 hq) hs))
          have HWF := Lib.hid (HW.out.trans (if_neg (by rw [HB.out]; simp)))
          by_cases h1 : x.sev < 0
          · have d1 : decide (x.sev < 0) = true := decide_eq_true h1
            clear hs
            go_wp2_with fail
            go_ret2
            exact HR.out _ (HM1.out.trans HMr.out) _ _ HWF.out
          · have d1 : decide (x.sev < 0) = false := decide_eq_false h1
            have d2 : decide (x.sev > 3) = true := decide_eq_true (by omega)
            clear hs
            go_wp2_with fail
            go_ret2
            exact HR.out _ (HM1.out.trans HMr.out) _ _ HWF.out
      · have i1 : ¬ (k : Int) < (own.length : Int) := by omega
        have hk2 : k = own.length := by omega
        have HF := Lib.hid (show hlthK l ab e own k = hlthF l ab e own by rw [hk2, hlthK_all])
        have HWT := Lib.hid (HW.out.trans (if_pos (all_good (fun j hj => hOK.out j (by rw [hk2]; exact hj)))))
        clear hM hk2
        go_wp2_with fail
        go_ret2
        exact HR.out _ (HM1.out.trans HMr.out) _ _ (by rw [HF.out]; exact HWT.out)
  · have HW : Hid (hlthR l ab own e = (0, chkE l)) := Lib.hid (if_neg h)
    clear hu
    generalize chkE l = c at HW h ⊢
    have hd : (c != 0) = true := by simpa using h
    clear h
    go_wp2_with fail
    go_ret2
    exact HR.out _ HM1.out _ _ HW.out
set_option maxRecDepth 100000 in
set_option maxHeartbeats 2000000 in
theorem sameEnts_ok (w : World) (va vb : Value) (A B : List Ent) (ha : RdE entE w va A) (hb : RdE entE w vb B) :
    Calls Try.prog 43 #[va, vb] w fun en w' => en = .returned (.bool (decide (A = B))) ∧ Mods [] w w' := by
  obtain ⟨ada, ca, rfl⟩ := ha.len
  obtain ⟨adb, cb, rfl⟩ := hb.len
  have hca := ha.bound
  have hcb := hb.bound
  have HA := Lib.hid ha
  have HB := Lib.hid hb
  clear ha hb
  by_cases hl : A.length = B.length
  · have hl2 : ((A.length : Int) != (B.length : Int)) = false := by simp [hl]
    have HL := Lib.hid hl
    clear hl
    go_enter Try.func43, Try.ntmps43
    go_wp2_with fail
    go_loopw [5] (fun i wr => ∃ k : Nat, k ≤ A.length ∧ i = .int .i64 k ∧ Mods [] w wr ∧ Hid (∀ j, j < k → A.getD j default = B.getD j default)) (fun i _ => A.length - (intOf i).toNat)
    case atStart => exact ⟨0, Nat.zero_le _, rfl, Mods.refl, fun j hj => by omega⟩
    case round =>
      obtain ⟨k, hk, rfl, hM, hS⟩ := hrel
      have i0 : (0 : Int) ≤ (k : Int) := by omega
      have HM := Lib.hid hM
      by_cases hlt : k < A.length
      · have hlb : k < B.length := by rw [← HL.out]; exact hlt
        have i1 : (k : Int) < (A.length : Int) := by omega
        have i2 : (k : Int) < (B.length : Int) := by omega
        obtain ⟨ba, oa, ca', hv2, _, _, hc⟩ := (HA.out.mods0 entOk hM).ent (by omega)
        injection hv2 with hv3 hv5 hv4
        subst hv3 hv4
        clear hv5
        obtain ⟨y0, y1⟩ := hc k hlt
        obtain ⟨bb, ob, cb', hv2, _, _, hc2⟩ := (HB.out.mods0 entOk hM).ent (by omega)
        injection hv2 with hv3 hv5 hv4
        subst hv3 hv4
        clear hv5
        obtain ⟨z0, z1⟩ := hc2 k hlb
        have hE := fun w => ent_neq' (A.getD k default) (B.getD k default) w
        obtain ⟨r, hr⟩ : ∃ r, r = decide (A.getD k default = B.getD k default) := ⟨_, rfl⟩
        rw [← hr] at hE
        have HRD := Lib.hid hr
        generalize A.getD k default = x at y0 y1 hE
        generalize B.getD k default = y at z0 z1 hE
        clear hc hc2 hr hM
        cases r with
        | true =>
          go_wp2_with fail
          go_quiet (fail)
          go_wp2_with fail
          go_roundw
          case rel => exact ⟨k + 1, by omega, by go_num, HM.out.drewN nq, fun j hj => by
            rcases Nat.lt_or_ge j k with h | h
            · exact hS.out j h
            · obtain rfl : j = k := by omega
              exact of_decide_eq_true HRD.out.symm⟩
          case measure => simp [intOf]; omega
        | false =>
          have HN := Lib.hid (show A ≠ B from fun h => of_decide_eq_false HRD.out.symm (by rw [h]))
          go_wp2_with fail
          go_quiet (fail)
          go_wp2_with fail
          go_ret
          exact ⟨ret_bool (by rw [decide_eq_false HN.out]), HM.out.drewN nq⟩
      · have i1 : ¬ (k : Int) < (A.length : Int) := by omega
        have HE := Lib.hid (show A = B from List.ext_getElem HL.out fun j h1 h2 => by
          have h3 := hS.out j (by omega)
          rw [List.getD_eq_getElem?_getD, List.getD_eq_getElem?_getD, List.getElem?_eq_getElem h1, List.getElem?_eq_getElem h2] at h3
          exact h3)
        clear hM
        go_wp2_with fail
        go_ret
        exact ⟨ret_bool (by rw [decide_eq_true HE.out]), HM.out⟩
  · have hl2 : ((A.length : Int) != (B.length : Int)) = true := by simp; omega
    have HN := Lib.hid (show A ≠ B from fun h => hl (by rw [h]))
    clear hl
    go_enter Try.func43, Try.ntmps43
    go_wp2_with fail
    go_ret
    exact ⟨ret_bool (by rw [decide_eq_false HN.out]), Mods.refl⟩
end Go.Proofs.Ytijjkonephjodaa

namespace Go.Proofs.Ytijjkonephjodaa
open Go.RowKit

theorem IsDice.old {w : World} {b n : Nat} {v : Value} {L : List Int} (h : IsDice w b v L n) : L ≠ [] → ∀ k, v.ownBlock = some k → k < w.heap.size := fun hl k hk =>
  h.rd.block_lt (fun e => hl (List.eq_nil_of_length_eq_zero (by rw [← i64s_length, e]; rfl))) k hk
/-- At most n entities of the dice. -/
def MadeEnts (w : World) (b : Nat) (v : Value) (L : List Int) (n : Nat) (en : Ending) (w' : World) : Prop :=
  ∃ u A k, en = .returned u ∧ OwnE entE w' w.heap.size u A ∧ A.length ≤ n ∧ IsDice w' b v L k ∧ Mods [b] w w'
def MkEnts (w : World) (b : Nat) (v : Value) (L : List Int) (n : Nat) (u : Value) (k : Nat) (wr : World) : Prop :=
  ∃ A j, OwnE entE wr w.heap.size u A ∧ A.length + k ≤ n ∧ IsDice wr b v L j ∧ Mods [b] w wr
set_option maxRecDepth 100000 in
set_option maxHeartbeats 2000000 in
theorem entities_ok (w : World) (b : Nat) (v : Value) (L : List Int) (j : Nat) (h : IsDice w b v L j) (n : Nat) (hn : n ≤ 1000) :
    Calls Try.prog 36 #[.pointer (some ⟨b, 0, none⟩), .int .i64 n] w fun en w' => MadeEnts w b v L n en w' := by
  have H := Lib.hid h
  have HOL := Lib.hid h.old
  have hb := h.lt
  clear h
  go_enter Try.func36, Try.ntmps36
  go_wp2_with fail
  refine (next_ok w b v L j H.out _ (by omega) (by omega)).mono ?_
  rintro e w1 ⟨r, j1, rfl, r1, r2, D1, M1⟩
  obtain ⟨r, rfl⟩ := Int.eq_ofNat_of_zero_le r1
  have HST := Lib.hid (show MkEnts w b v L n (.slice none 0 0) r w1 from ⟨[], j1, OwnE.nil _ _ _, by simp; omega, D1, M1⟩)
  clear D1 M1 r2 r1
  go_wp2_with fail
  go_loopw [5, 6] (fun u i wr => ∃ k : Nat, i = .int .i64 k ∧ MkEnts w b v L n u k wr) (fun _ i _ => (intOf i).toNat)
  case atStart => exact ⟨r, rfl, HST.out⟩
  clear HST
  case round =>
    obtain ⟨k, rfl, A, j2, hO, hlen, hD, hM⟩ := hrel
    obtain ⟨au, cu, rfl⟩ := (hO.rd entOk).len
    have HO := Lib.hid hO
    have HD := Lib.hid hD
    have HM := Lib.hid hM
    clear hO hD hM
    by_cases hk : 0 < k
    · have d1 : decide ((k : Int) > 0) = true := decide_eq_true (by omega)
      have i0 : (1 : Int) ≤ (k : Int) := by omega
      have i1 : (k : Int) ≤ 1000 := by omega
      obtain ⟨m, rfl⟩ : ∃ m, k = m + 1 := ⟨k - 1, by omega⟩
      go_wp2_with fail
      refine (entity_ok wr b v L j2 HD.out).mono ?_
      rintro e w2 ⟨x, y, j3, rfl, hx, hy, D2, M2⟩
      have HO2 := Lib.hid (HO.out.mods M2 (fun k hk hm => by simp at hm; subst hm; have := (HO.out.lt _ hk).1; omega))
      have HM2 := Lib.hid (HM.out.trans M2)
      have hz2 : w.heap.size ≤ w2.heap.size := HM2.out.size
      have HD2 := Lib.hid D2
      obtain ⟨E, hE⟩ : ∃ E : Ent, E = ⟨⟨x, hx⟩, ⟨y, hy⟩⟩ := ⟨_, rfl⟩
      have MA := (Mods.refl (S := []) (w := w2)).alloc (.cells #[.int .u8 (x : Int), .int .u8 (y : Int)] 23)
      have HP := Lib.hid (show OwnE entE (w2.alloc (.cells #[.int .u8 (x : Int), .int .u8 (y : Int)] 23)) w.heap.size _ A ∧ RdE entE (w2.alloc (.cells #[.int .u8 (x : Int), .int .u8 (y : Int)] 23)) (.slice (some ⟨w2.heap.size, 0, none⟩) 1 1) [E] ∧ Mods [b] w (w2.alloc (.cells #[.int .u8 (x : Int), .int .u8 (y : Int)] 23)) ∧ IsDice (w2.alloc (.cells #[.int .u8 (x : Int), .int .u8 (y : Int)] 23)) b v L j3 from ⟨HO2.out.mods0 MA, RdE.one (a := E) (heap_alloc_new w2 _) (by rw [hE]; rfl), HM2.out.comp0 MA, HD2.out.mods0 MA⟩)
      clear MA D2 M2 hE HO HM HD
      go_wp2_with (at_builtin; refine wpList_appE entOk (by rfl) (.tmp 15) (.tmp 18) rfl (by rfl) HP.out.1 (by rfl) HP.out.2.1 (by simp; omega) (by simp; omega) ?_; intro VB WB OB MB; have HST := Lib.hid (show MkEnts w b v L n VB m WB from ⟨A ++ [E], j3, OB, by simp; omega, HP.out.2.2.2.mods MB (fun hm => by have := HP.out.1.back hm; omega) (fun hl k hk hm => by have := HP.out.1.back hm; have := HOL.out hl k hk; omega), HP.out.2.2.1.comp MB (fun q hq => .inr (HP.out.1.back hq))⟩); clear OB MB)
      go_roundw
      case rel => exact ⟨m, by go_num, HST.out⟩
      case measure => simp [intOf]
    · have hk0 : k = 0 := by omega
      subst hk0
      go_wp2_with fail
      go_ret
      exact ⟨_, A, j2, rfl, HO.out, by omega, HD.out, HM.out⟩
/-- At most n associations of the dice, valid together. -/
def MadeAscs (w : World) (b : Nat) (v : Value) (L : List Int) (n : Nat) (en : Ending) (w' : World) : Prop :=
  ∃ u A k, en = .returned u ∧ OwnE ascE w' w.heap.size u A ∧ A.length ≤ n ∧ chkE A = 0 ∧ IsDice w' b v L k ∧ Mods [b] w w'
def MkAscs (w : World) (b : Nat) (v : Value) (L : List Int) (n : Nat) (u : Value) (k : Nat) (wr : World) : Prop :=
  ∃ A j, OwnE ascE wr w.heap.size u A ∧ A.length + k ≤ n ∧ chkE A = 0 ∧ IsDice wr b v L j ∧ Mods [b] w wr
set_option maxRecDepth 100000 in
set_option maxHeartbeats 4000000 in
theorem ascs_ok (w : World) (b : Nat) (v : Value) (L : List Int) (j : Nat) (h : IsDice w b v L j) (n : Nat) (hn : n ≤ 1000) :
    Calls Try.prog 27 #[.pointer (some ⟨b, 0, none⟩), .int .i64 n] w fun en w' => MadeAscs w b v L n en w' := by
  have H := Lib.hid h
  have HOL := Lib.hid h.old
  have hb := h.lt
  clear h
  go_enter Try.func27, Try.ntmps27
  go_wp2_with fail
  refine (next_ok w b v L j H.out _ (by omega) (by omega)).mono ?_
  rintro e w1 ⟨r, j1, rfl, r1, r2, D1, M1⟩
  obtain ⟨r, rfl⟩ := Int.eq_ofNat_of_zero_le r1
  have HST := Lib.hid (show MkAscs w b v L n (.slice none 0 0) r w1 from ⟨[], j1, OwnE.nil _ _ _, by simp; omega, rfl, D1, M1⟩)
  clear D1 M1 r2 r1
  go_wp2_with fail
  go_loopw [5, 6] (fun u i wr => ∃ k : Nat, i = .int .i64 k ∧ MkAscs w b v L n u k wr) (fun _ i _ => (intOf i).toNat)
  case atStart => exact ⟨r, rfl, HST.out⟩
  clear HST
  case round =>
    obtain ⟨k, rfl, A, j2, hO, hlen, hck, hD, hM⟩ := hrel
    obtain ⟨au, cu, rfl⟩ := (hO.rd ascOk).len
    have HO := Lib.hid hO
    have HD := Lib.hid hD
    have HM := Lib.hid hM
    have HCK := Lib.hid hck
    have hzr : w.heap.size ≤ wr.heap.size := hM.size
    have HZR := Lib.hid hzr
    have HBR := Lib.hid (show b < wr.heap.size by omega)
    clear hO hD hM hck hzr
    by_cases hk : 0 < k
    · have d1 : decide ((k : Int) > 0) = true := decide_eq_true (by omega)
      have i0 : (1 : Int) ≤ (k : Int) := by omega
      have i1 : (k : Int) ≤ 1000 := by omega
      obtain ⟨m, rfl⟩ : ∃ m, k = m + 1 := ⟨k - 1, by omega⟩
      go_wp2_with (at_builtin; refine wpList_appE ascOk (by rfl) _ (.tmp 16) rfl (v := .slice none 0 0) (by rfl) (OwnE.nil ascE wr wr.heap.size) (by rfl) (HO.out.rd ascOk) (by simp; omega) (Nat.le_refl _) ?_; intro VA WA OA MA; have HOA := Lib.hid (show OwnE ascE WA wr.heap.size VA A from OA); have HMA := Lib.hid (show Mods [] wr WA from MA); clear OA MA)
      refine (entity_ok WA b v L j2 (HD.out.mods0 HMA.out)).mono ?_
      rintro e w2 ⟨x, y, j3, rfl, hx, hy, D2, M2⟩
      have HO2 := Lib.hid (HOA.out.mods M2 (fun k hk hm => by simp at hm; subst hm; have := (HOA.out.lt _ hk).1; have := HBR.out; omega))
      have HM2 := Lib.hid ((show Mods [b] wr WA from HMA.out.nil).trans M2)
      have HD2 := Lib.hid D2
      clear D2 M2
      go_wp2_with fail
      refine (entity_ok w2 b v L j3 HD2.out).mono ?_
      rintro e w3 ⟨x2, y2, j4, rfl, hx2, hy2, D3, M3⟩
      have HO3 := Lib.hid (HO2.out.mods M3 (fun k hk hm => by simp at hm; subst hm; have := (HO2.out.lt _ hk).1; have := HBR.out; omega))
      have HM3 := Lib.hid (HM2.out.trans M3)
      have HD3 := Lib.hid D3
      have hz3 : wr.heap.size ≤ w3.heap.size := HM3.out.size
      have HZ3 := Lib.hid hz3
      obtain ⟨X, hX⟩ : ∃ X : Asc, X = ⟨⟨⟨x, hx⟩, ⟨y, hy⟩⟩, ⟨⟨x2, hx2⟩, ⟨y2, hy2⟩⟩⟩ := ⟨_, rfl⟩
      have MA := (Mods.refl (S := []) (w := w3)).alloc (.cells #[.int .u8 (x : Int), .int .u8 (y : Int), .int .u8 (x2 : Int), .int .u8 (y2 : Int)] 61)
      have HP := Lib.hid (show OwnE ascE (w3.alloc (.cells #[.int .u8 (x : Int), .int .u8 (y : Int), .int .u8 (x2 : Int), .int .u8 (y2 : Int)] 61)) wr.heap.size _ A ∧ RdE ascE (w3.alloc (.cells #[.int .u8 (x : Int), .int .u8 (y : Int), .int .u8 (x2 : Int), .int .u8 (y2 : Int)] 61)) (.slice (some ⟨w3.heap.size, 0, none⟩) 1 1) [X] ∧ Mods [b] wr (w3.alloc (.cells #[.int .u8 (x : Int), .int .u8 (y : Int), .int .u8 (x2 : Int), .int .u8 (y2 : Int)] 61)) ∧ IsDice (w3.alloc (.cells #[.int .u8 (x : Int), .int .u8 (y : Int), .int .u8 (x2 : Int), .int .u8 (y2 : Int)] 61)) b v L j4 from ⟨HO3.out.mods0 MA, RdE.one (a := X) (heap_alloc_new w3 _) (by rw [hX]; rfl), HM3.out.comp0 MA, HD3.out.mods0 MA⟩)
      clear MA D3 M3 hX HOA HMA HO2 HM2 HD2 hz3
      go_wp2_with (at_builtin; refine wpList_appE ascOk (by rfl) (.tmp 17) (.tmp 23) rfl (by rfl) HP.out.1 (by rfl) HP.out.2.1 (by simp; omega) (by have := HZ3.out; simp; omega) ?_; intro VB WB OB MB; have HOB := Lib.hid OB; have HDB := Lib.hid (HP.out.2.2.2.mods MB (fun hm => by have := HP.out.1.back hm; have := HBR.out; omega) (fun hl k hk hm => by have := HP.out.1.back hm; have := HOL.out hl k hk; have := HZR.out; omega)); have HMB := Lib.hid (HP.out.2.2.1.comp MB (fun q hq => .inr (HP.out.1.back hq))); clear OB MB)
      obtain ⟨ab, cb, rfl⟩ := (HOB.out.rd ascOk).len
      have HCH := Lib.hid (refCheck_ok WB (A ++ [X]) _ (HOB.out.rd ascOk))
      have HUU := Lib.hid (HO.out.mods HMB.out (fun k hk hm => by simp at hm; subst hm; have := (HO.out.lt _ hk).1; omega))
      obtain ⟨N, hN⟩ : ∃ N, N = (A ++ [X]).length := ⟨_, rfl⟩
      have HN := Lib.hid hN
      rw [← hN] at HOB HCH ⊢
      clear hN HP
      refine HCH.out.mono ?_
      rintro en w5 ⟨rfl, M5⟩
      have HM5 := Lib.hid (HM.out.trans (HMB.out.comp0 M5))
      have HD5 := Lib.hid (HDB.out.mods0 M5)
      have HU5 := Lib.hid (HUU.out.mods0 M5)
      have HO5 := Lib.hid (HOB.out.mods0 M5)
      clear M5 HCH
      by_cases hc : chkE (A ++ [X]) = 0
      · have HST := Lib.hid (show MkAscs w b v L n (.slice ab N cb) m w5 from ⟨A ++ [X], j4, HO5.out.down HZR.out, by simp; omega, hc, HD5.out, HM5.out⟩)
        rw [hc]
        clear hc
        go_wp2_with fail
        go_roundw
        case rel => exact ⟨m, by go_num, HST.out⟩
        case measure => simp [intOf]
      · have HST := Lib.hid (show MkAscs w b v L n (.slice au A.length cu) m w5 from ⟨A, j4, HU5.out, by omega, HCK.out, HD5.out, HM5.out⟩)
        have d5 : (chkE (A ++ [X]) == 0) = false := by simpa using hc
        clear hc
        generalize chkE (A ++ [X]) = c at d5 ⊢
        go_wp2_with fail
        go_roundw
        case rel => exact ⟨m, by go_num, HST.out⟩
        case measure => simp [intOf]
    · have hk0 : k = 0 := by omega
      subst hk0
      go_wp2_with fail
      go_ret
      exact ⟨_, A, j2, rfl, HO.out, by omega, HCK.out, HD.out, HM.out⟩
end Go.Proofs.Ytijjkonephjodaa
