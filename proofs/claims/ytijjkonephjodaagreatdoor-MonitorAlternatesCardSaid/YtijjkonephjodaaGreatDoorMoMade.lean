/- The dice's sensors: contract. -/
import Derived.Test.YtijjkonephjodaaGreatDoorMoS
import Derived.Test.YtijjkonephjodaaGreatDoorJoAL
import Derived.Test.YtijjkonephjodaaGreatDoorElemAt
import Derived.Test.YtijjkonephjodaaGreatDoorOneE
namespace Go.Proofs.YtijjkonephjodaaGreatDoor
open Go.RowKit
set_option linter.unusedVariables false
set_option linter.unusedSimpArgs false
section
variable {α : Type} {P : Program} {E : Elt α} {ops : Array Oper} {Q : Exit → Act → World → Prop}
theorem wpList_appAt (hk : E.Ok P) {rest : List Oper} {o : Oper} {a : Act} {w : World} (hw : Region.wanted o (yielded ops a.tmps) = true) (d : Nat) (hd : o.dst = some d) (s x : Operand)
    (ho : o.op = .call { callee := .builtin .append, args := #[s, x], argTypes := #[E.sl, E.sl] })
    {B : Nat} {v : Value} {A : List α} (hs : a.eval s = v) (hown : OwnE E w B v A) {vx : Value} {X : List α} (hx : a.eval x = vx) (hX : RdE E w vx X) (h0 : 0 < X.length)
    (hn : A.length + X.length ≤ 1000000) (hB : B ≤ w.heap.size)
    (h : ∀ v' w', OwnE E w' B v' (A ++ X) → Mods v.ownBlock.toList w w' → (∀ y, v'.ownBlock = some y → v.ownBlock = some y ∨ y = w.heap.size) → wpList P ops Q rest { a with tmps := a.tmps.setIfInBounds d v' } w') : wpList P ops Q (o :: rest) a w :=
  wpList_step fun _ hK => step_appAt hk hw d hd s x ho hs hown hx hX h0 hn hB fun v' w' h1 h2 h3 => hK _ _ (h v' w' h1 h2 h3)
end
/-- A made sensor: its points lie in a block made since B, apart from the list's. -/
structure PtsAt (wr : World) (B : Nat) (u : Value) (x : SenX) : Prop where
  is : IsSen wr x.S x.P
  pts : ∀ k, x.S.conv.pts.ownBlock = some k → B ≤ k ∧ k < wr.heap.size ∧ u.ownBlock ≠ some k
def goodAll (l : List SenX) : Prop := ∀ i, i < l.length → goodS l i = true
theorem getD_snocX {α : Type} (l : List α) (x d : α) (i : Nat) : (l ++ [x]).getD i d = if i < l.length then l.getD i d else if i = l.length then x else d := by
  simp only [List.getD_eq_getElem?_getD]
  rcases Nat.lt_trichotomy i l.length with h | h | h
  · rw [if_pos h, List.getElem?_append_left h]
  · subst h; simp
  · rw [if_neg (by omega), if_neg (by omega), List.getElem?_eq_none (by simp; omega)]; rfl
theorem goodAll_snoc {l : List SenX} {x : SenX} {nb : Nat} (h : goodAll l) (hv : validB x.S x.P = true) (hn : x.S.number = nb) (hb : ∀ i, i < l.length → numS l i < nb) : goodAll (l ++ [x]) := by
  intro i hi
  rw [List.length_append, List.length_singleton] at hi
  unfold goodS numS
  rw [getD_snocX, getD_snocX]
  by_cases h1 : i < l.length
  · have h2 := h i h1
    unfold goodS numS at h2
    rw [if_pos h1, if_pos (show i - 1 < l.length by omega)]
    exact h2
  · have h2 : i = l.length := by omega
    subst h2
    rw [if_neg (by omega), if_pos rfl, hv]
    by_cases h3 : l.length = 0
    · rw [h3]; rfl
    · rw [if_pos (show l.length - 1 < l.length by omega)]
      have := hb (l.length - 1) (by omega)
      unfold numS at this
      rw [hn, decide_eq_true this, Bool.or_true]
      rfl
theorem chkS_good {l : List SenX} (h : goodAll l) (hl : l.length ≤ 32) : chkS l = 0 := by
  unfold chkS
  rw [if_neg (by omega), if_pos (by rw [List.all_eq_true]; exact fun i hi => h i (List.mem_range.1 hi))]
/-- At most n valid sensors of the dice, with ascending numbers. -/
def MadeSens (w : World) (b : Nat) (v : Value) (L : List Int) (n : Nat) (en : Ending) (w' : World) : Prop :=
  ∃ u A k, en = .returned u ∧ OwnE senE w' w.heap.size u A ∧ A.length ≤ n ∧ goodAll A ∧ (∀ i, i < A.length → PtsAt w' w.heap.size u (A.getD i default)) ∧ IsDice w' b v L k ∧ Mods [b] w w'
def MkSens (w : World) (b : Nat) (v : Value) (L : List Int) (n : Nat) (u : Value) (nb k : Nat) (wr : World) : Prop :=
  ∃ A j, OwnE senE wr w.heap.size u A ∧ A.length + k ≤ n ∧ nb ≤ 19 + 5 * A.length ∧ goodAll A ∧ (∀ i, i < A.length → numS A i < nb) ∧ (∀ i, i < A.length → PtsAt wr w.heap.size u (A.getD i default)) ∧ IsDice wr b v L j ∧ Mods [b] w wr
theorem PtsAt.next {wr w2 : World} {B : Nat} {u u' : Value} {x : SenX} {S : List Nat} (h : PtsAt wr B u x) (M : Mods S wr w2) (hS : ∀ k, B ≤ k → k < wr.heap.size → u.ownBlock ≠ some k → k ∉ S) (hu : ∀ y, u'.ownBlock = some y → u.ownBlock = some y ∨ wr.heap.size ≤ y) : PtsAt w2 B u' x := by
  refine ⟨h.is.mods M (fun _ k hk => ?_), fun k hk => ?_⟩
  · obtain ⟨h1, h2, h3⟩ := h.pts k hk
    exact hS k h1 h2 h3
  · obtain ⟨h1, h2, h3⟩ := h.pts k hk
    refine ⟨h1, Nat.lt_of_lt_of_le h2 M.size, fun h4 => ?_⟩
    rcases hu k h4 with h5 | h5
    · exact h3 h5
    · omega
set_option maxRecDepth 100000 in
set_option maxHeartbeats 4000000 in
theorem sensors_ok (w : World) (b : Nat) (v : Value) (L : List Int) (j : Nat) (h : IsDice w b v L j) (n : Nat) (hn : n ≤ 6) :
    Calls Tryz.prog 21 #[.pointer (some ⟨b, 0, none⟩), .int .i64 n] w fun en w' => MadeSens w b v L n en w' := by
  have H := Lib.hid h
  have HOL := Lib.hid h.old
  have hb := h.lt
  have HBL := Lib.hid hb
  have HN := Lib.hid hn
  clear h
  go_enter Tryz.func21, Tryz.ntmps21
  go_wp2_with fail
  refine (next_ok w b v L j H.out _ (by omega) (by omega)).mono ?_
  rintro e w1 ⟨r0, j1, rfl, r1, r2, D1, M1⟩
  obtain ⟨r0, rfl⟩ := Int.eq_ofNat_of_zero_le r1
  have HR0 := Lib.hid (show r0 ≤ 19 by omega)
  have HD1 := Lib.hid D1
  have HM1 := Lib.hid M1
  clear D1 M1 r1 r2
  go_wp2_with fail
  refine (next_ok w1 b v L j1 HD1.out _ (by omega) (by omega)).mono ?_
  rintro e w2 ⟨r, j2, rfl, r1, r2, D2, M2⟩
  obtain ⟨r, rfl⟩ := Int.eq_ofNat_of_zero_le r1
  have HST := Lib.hid (show MkSens w b v L n (.slice none 0 0) r0 r w2 from ⟨[], j2, OwnE.nil _ _ _, by simp; omega, by have := HR0.out; simp; omega, fun i hi => by simp at hi, fun i hi => by simp at hi, fun i hi => by simp at hi, D2, HM1.out.trans M2⟩)
  clear D2 M2 r2 r1 HD1 HM1
  go_wp2_with fail
  go_loopw [5, 6, 7] (fun u nb i wr => ∃ k m : Nat, i = .int .i64 k ∧ nb = .int .i64 m ∧ MkSens w b v L n u m k wr) (fun _ _ i _ => (intOf i).toNat)
  case atStart => exact ⟨r, r0, rfl, rfl, HST.out⟩
  clear HST
  case round =>
    obtain ⟨k, m, rfl, rfl, A, j3, hO, hlen, hnb, hG, hlt, hP, hD, hM⟩ := hrel
    obtain ⟨au, cu, rfl⟩ := (hO.rd senOk).len
    have HO := Lib.hid hO
    have HD := Lib.hid hD
    have HM := Lib.hid hM
    have HG := Lib.hid hG
    have HLT := Lib.hid hlt
    have HP := Lib.hid hP
    have HNB := Lib.hid hnb
    have HLN := Lib.hid hlen
    clear hO hD hM hG hlt hP
    by_cases hk : 0 < k
    · have d1 : decide ((k : Int) > 0) = true := decide_eq_true (by omega)
      have i0 : (1 : Int) ≤ (k : Int) := by omega
      have i1 : (k : Int) ≤ 1000 := by omega
      have m49 : m ≤ 49 := by omega
      have hw8 : IntKind.u8.wrap ((m : Nat) : Int) = ((m : Nat) : Int) := by rw [IntKind.wrap_u8]; omega
      have m0 : (0 : Int) ≤ ((m : Nat) : Int) := by omega
      have mI : ((m : Nat) : Int) ≤ 49 := by omega
      obtain ⟨k', rfl⟩ : ∃ m, k = m + 1 := ⟨k - 1, by omega⟩
      have HSO := Lib.hid (sensor_ok wr b v L j3 HD.out m (by omega))
      clear hnb hlen m49
      go_wp2_with fail
      refine HSO.out.mono ?_
      rintro e w3 ⟨S, P, j4, rfl, IS, VS, OP, PL, SN, D3, M3⟩
      have HONE := Lib.hid IS.conv.rd.one
      have HX := Lib.hid (show ∃ X : SenX, X.S = S ∧ X.P = P from ⟨⟨S, P, IS.conv.rd.one⟩, rfl, rfl⟩)
      obtain ⟨X, hX1, hX2⟩ := HX.out
      have HXE := Lib.hid (And.intro hX1 hX2)
      have hzr : w.heap.size ≤ wr.heap.size := HM.out.size
      have HZ3 := Lib.hid (show wr.heap.size ≤ w3.heap.size from M3.size)
      have HXP := Lib.hid (show PtsAt w3 w.heap.size (.slice au A.length cu) X from by
        refine ⟨by rw [hX1, hX2]; exact IS, fun y hy => ?_⟩
        rw [hX1] at hy
        have h1 := OP.own y hy
        refine ⟨by omega, h1.2, fun h2 => ?_⟩
        have := (HO.out.lt y h2).2
        omega)
      have HO3 := Lib.hid (HO.out.mods M3 (fun k hk hm => by simp at hm; subst hm; have := (HO.out.lt _ hk).1; have := HBL.out; omega))
      have HP3 := Lib.hid (fun i (hi : i < A.length) => (HP.out i hi).next M3 (fun k h1 h2 _ hm => by simp at hm; subst hm; have := HBL.out; omega) (fun y hy => .inl hy))
      have HM3 := Lib.hid (HM.out.trans M3)
      have HD3 := Lib.hid D3
      have HVS := Lib.hid VS
      have HSN := Lib.hid SN
      clear D3 M3 IS VS OP PL SN HO HP HM HD HSO hX1 hX2 HX hzr
      go_upto_region 7 with (first
        | (refine wpList_oneE senOk (by decide) (by rfl) (.tmp 22) rfl 23 rfl X S.cells (by rfl) (by rw [← HXE.out.1]; rfl) ?_; intro CS hCS; have HCS := Lib.hid hCS; clear hCS; have HMA := Lib.hid ((Mods.refl (S := []) (w := w3)).alloc (.cells CS 40)); have HRX := Lib.hid (show RdE senE (w3.alloc (.cells CS 40)) (.slice (some ⟨w3.heap.size, 0, none⟩) 1 1) [X] from RdE.one (a := X) (heap_alloc_new w3 _) HCS.out); have HOA := Lib.hid (HO3.out.mods0 HMA.out))
        | (at_builtin; go_loud (refine wpList_appAt senOk (by rfl) 24 rfl (.tmp 18) (.tmp 23) rfl (by rfl) HOA.out (by rfl) HRX.out Nat.zero_lt_one (by have h1 := HLN.out; have h2 := HN.out; rw [List.length_singleton]; omega) (Nat.le_trans HM3.out.size HMA.out.size) ?_; intro VB WB OB MB YB; have HOB := Lib.hid OB; have HMB := Lib.hid MB; have HYB := Lib.hid YB; clear OB MB YB)))
      have HBK := Lib.hid (show ∀ k, w.heap.size ≤ k → k < w3.heap.size → (Value.slice au A.length cu).ownBlock ≠ some k → k ∉ (Value.slice au A.length cu).ownBlock.toList from fun k _ _ h hm => h (by simpa using hm))
      have HP4 := Lib.hid (show ∀ i, i < (A ++ [X]).length → PtsAt WB w.heap.size VB ((A ++ [X]).getD i default) from fun i hi => by
        have key : ∀ x : SenX, PtsAt w3 w.heap.size (.slice au A.length cu) x → PtsAt WB w.heap.size VB x := fun x h => h.next (HMA.out.nil.trans HMB.out) HBK.out (fun y hy => (HYB.out y hy).imp id (fun h => Nat.le_trans HMA.out.size (Nat.le_of_eq h.symm)))
        rw [getD_snocX]
        rw [List.length_append, List.length_singleton] at hi
        by_cases h1 : i < A.length
        · rw [if_pos h1]; exact key _ (HP3.out i h1)
        · rw [if_neg h1, if_pos (by omega)]; exact key _ HXP.out)
      have HG4 := Lib.hid (goodAll_snoc HG.out (by rw [HXE.out.1, HXE.out.2]; exact HVS.out) (by rw [HXE.out.1]; exact HSN.out) HLT.out)
      have HL4 := Lib.hid (show ∀ i, i < (A ++ [X]).length → numS (A ++ [X]) i ≤ m from fun i hi => by
        unfold numS
        rw [getD_snocX]
        rw [List.length_append, List.length_singleton] at hi
        by_cases h1 : i < A.length
        · rw [if_pos h1]; exact Nat.le_of_lt (HLT.out i h1)
        · rw [if_neg h1, if_pos (by omega), HXE.out.1, HSN.out]; exact Nat.le_refl _)
      have HM4 := Lib.hid (show Mods [b] w WB from (HM3.out.comp0 HMA.out).comp HMB.out (fun q hq => .inr (HOA.out.back hq)))
      have HD4 := Lib.hid (show IsDice WB b v L j4 from (HD3.out.mods0 HMA.out).mods HMB.out (fun hm => by have h1 := HOA.out.back hm; have h2 := HBL.out; omega) (fun hl k hk hm => by have h1 := HOA.out.back hm; have h2 := HOL.out hl k hk; omega))
      clear HP3 HXP HG HLT HSN HVS HM3 HMA HMB HYB HOA HRX HD3 HO3 HBK
      go_wp2_with fail
      refine (next_ok WB b v L j4 HD4.out _ (by omega) (by omega)).mono ?_
      rintro e w5 ⟨r5, j5, rfl, q1, q2, D5, M5⟩
      obtain ⟨r5, rfl⟩ := Int.eq_ofNat_of_zero_le q1
      have HR5 := Lib.hid (show r5 ≤ 4 by omega)
      have HST := Lib.hid (show MkSens w b v L n VB (m + (1 + r5)) k' w5 from ⟨A ++ [X], j5, HOB.out.mods M5 (fun k hk hm => by simp at hm; subst hm; have h1 := (HOB.out.lt _ hk).1; have h2 := HBL.out; omega), by rw [List.length_append, List.length_singleton]; have := HLN.out; omega,
        by rw [List.length_append, List.length_singleton]; have := HNB.out; have := HR5.out; omega, HG4.out, fun i hi => by have := HL4.out i hi; omega,
        fun i hi => (HP4.out i hi).next M5 (fun k h1 h2 _ hm => by simp at hm; subst hm; have := HBL.out; omega) (fun y hy => .inl hy), D5, HM4.out.trans M5⟩)
      clear D5 M5 q1 q2 HD4 HM4 HL4 HG4 HP4 HOB
      have r40 : (0 : Int) ≤ ((r5 : Nat) : Int) := by omega
      have r41 : ((r5 : Nat) : Int) ≤ 4 := by have := HR5.out; omega
      go_wp2_with fail
      go_roundw
      case rel => exact ⟨k', m + (1 + r5), by go_num, by go_num, HST.out⟩
      case measure => simp [intOf]
    · have hk0 : k = 0 := by omega
      subst hk0
      clear hnb hlen
      go_wp2_with fail
      go_ret
      exact ⟨_, A, j3, rfl, HO.out, by have := HLN.out; omega, HG.out, HP.out, HD.out, HM.out⟩
end Go.Proofs.YtijjkonephjodaaGreatDoor
