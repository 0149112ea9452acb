/- The reference's Sum8, Copy, Seal8, Open8, and checksum.Open8: contracts. -/
import Derived.Test.YtijjkonephjodaaApb
namespace Go.Proofs.Ytijjkonephjodaa
open Go.RowKit

theorem sum8_sub (x : Int) : (256 - x % 256) % 256 = -x % 256 := by omega
set_option maxRecDepth 100000 in
set_option maxHeartbeats 1000000 in
theorem refSum8_ok (w : World) (v : Value) (A : List Int) (hv : Rd w v (u8s A)) (hb : Bytes A) :
    Calls Try.prog 56 #[v] w fun e w' => e = .returned (.int .u8 (sum8 A)) ∧ w = w' := by
  have HV := Lib.hid hv
  have HB := Lib.hid hb
  obtain ⟨ad, cap, rfl, h1, h2, _⟩ := hv.u8
  have h3 : cap ≤ 9223372036854775807 := h2
  clear hv hb h2
  go_enter Try.func56, Try.ntmps56
  go_wp2_with fail
  go_loopw [3, 4] (fun s i wr => ∃ k : Nat, k ≤ A.length ∧ i = .int .i64 k ∧ s = .int .i64 ((A.take k).sum % 256) ∧ wr = w) (fun _ i _ => A.length - (intOf i).toNat)
  case atStart => exact ⟨0, Nat.zero_le _, rfl, by simp, rfl⟩
  case round =>
    obtain ⟨k, hk, rfl, rfl, rfl⟩ := hrel
    by_cases hlt : k < A.length
    · obtain ⟨_, _, he, _, _, hc⟩ := HV.out.u8
      obtain ⟨bb, off, rfl, x0⟩ := hc k hlt
      injection he with he1 he2 he3
      subst he1 he3
      clear hc he2
      have i1 : (0 : Int) ≤ (k : Int) := by omega
      have i2 : (k : Int) < (A.length : Int) := by omega
      have HST := Lib.hid (sum_step A k hlt)
      have hbx := HB.out k
      have hs0 : 0 ≤ (A.take k).sum % 256 ∧ (A.take k).sum % 256 < 256 := by omega
      generalize (A.take k).sum % 256 = s at HST hs0 ⊢
      generalize A.getD k 0 = x at x0 hbx HST
      obtain ⟨s0, s1⟩ := hs0
      obtain ⟨x1, x2⟩ := hbx
      have ht : (s + x).tmod 256 = (s + x) % 256 := Int.tmod_eq_emod_of_nonneg (by omega)
      go_wp2_with fail
      exact ⟨⟨k + 1, by omega, by go_num, by rw [← HST.out], by first | rfl | trivial⟩, by simp only [intOf]; omega⟩
    · have hkl : k = A.length := by omega
      have HR := Lib.hid (show (256 - (A.take k).sum % 256) % 256 = sum8 A by rw [sum8_sub, hkl, List.take_length]; rfl)
      have hs0 : 0 ≤ (A.take k).sum % 256 ∧ (A.take k).sum % 256 < 256 := by omega
      generalize (A.take k).sum % 256 = s at HR hs0 ⊢
      obtain ⟨s0, s1⟩ := hs0
      have ht : (256 - s).tmod 256 = (256 - s) % 256 := Int.tmod_eq_emod_of_nonneg (by omega)
      go_wp2_with fail
      go_ret
      exact ⟨ret_int (by first | exact HR.out | (have := HR.out; omega)), rfl⟩
theorem u8s_take_succ (A : List Int) (k : Nat) (hk : k < A.length) : A.take (k + 1) = A.take k ++ [A.getD k 0] := by
  rw [List.take_add_one, List.getElem?_eq_getElem hk, List.getD_eq_getElem?_getD, List.getElem?_eq_getElem hk]; rfl
set_option maxRecDepth 100000 in
set_option maxHeartbeats 1000000 in
theorem refCopy_ok (w : World) (v : Value) (A : List Int) (hv : Rd w v (u8s A)) (hl : A.length ≤ 900000) :
    Calls Try.prog 55 #[v] w fun e w' => OwnedBy 5 w (u8s A) e w' := by
  have HV := Lib.hid hv
  obtain ⟨ad, cap, rfl, h1, h2, _⟩ := hv.u8
  have h3 : cap ≤ 9223372036854775807 := h2
  clear hv h2
  go_enter Try.func55, Try.ntmps55
  go_wp2_with fail
  go_loopw [3, 4] (fun s i wr => ∃ k : Nat, k ≤ A.length ∧ i = .int .i64 k ∧ OwnB wr w.heap.size s (A.take k) ∧ Mods [] w wr) (fun _ i _ => A.length - (intOf i).toNat)
  case atStart => exact ⟨0, Nat.zero_le _, rfl, OwnB.nil _ _, Mods.refl⟩
  case round =>
    obtain ⟨k, hk, rfl, O, M⟩ := hrel
    by_cases hlt : k < A.length
    · obtain ⟨_, _, he, _, _, hc⟩ := (HV.out.mods0 M).u8
      obtain ⟨bb, off, rfl, x0⟩ := hc k hlt
      injection he with he1 he2 he3
      subst he1 he3
      clear hc he2
      have i1 : (0 : Int) ≤ (k : Int) := by omega
      have i2 : (k : Int) < (A.length : Int) := by omega
      have HST := Lib.hid (u8s_take_succ A k hlt)
      generalize A.getD k 0 = x at x0 HST
      have HO := Lib.hid O
      have HM := Lib.hid M
      have hlk : (A.take k).length ≤ 900000 := by simp; omega
      clear O M
      go_wp2_with (at_builtin; refine wpList_appB (by rfl) (.tmp 11) (.tmp 16) rfl (v := u3) (by rfl) (HO.out.mods0 (Mods.refl.alloc _)) (by rfl) (OwnB.lit wr (Nat.le_refl _) [x] (by unfold maxLen; simp)).rd (by simp only [List.length_cons, List.length_nil]; omega) (by have := HM.out.size; simp; omega) ?_; intro v3 w3 O3 M3; have HM3 := Lib.hid ((HM.out.alloc (.cells (u8s [x]).toArray 5)).comp M3 (fun k hk => .inr (HO.out.back hk))); have HO3 : Hid (OwnB w3 w.heap.size v3 (A.take (k + 1))) := Lib.hid (by rw [HST.out]; exact O3); clear O3 M3)
      exact ⟨⟨k + 1, by omega, by go_num, HO3.out, HM3.out⟩, by simp only [intOf]; omega⟩
    · have hkl : k = A.length := by omega
      rw [hkl, List.take_length] at O
      have HO := Lib.hid O
      have HM := Lib.hid M
      clear O M
      go_wp2_with fail
      go_ret
      exact ⟨_, rfl, HO.out, HM.out⟩
set_option maxRecDepth 100000 in
set_option maxHeartbeats 1000000 in
theorem refSeal8_ok (w : World) (v : Value) (A : List Int) (hv : Rd w v (u8s A)) (hb : Bytes A) (hl : A.length ≤ 100000) :
    Calls Try.prog 22 #[v] w fun e w' => OwnedBy 5 w (u8s (seal8 A)) e w' := by
  have HV := Lib.hid hv
  have HB := Lib.hid hb
  clear hv hb
  go_enter Try.func22, Try.ntmps22
  go_wp2_with fail
  refine (refCopy_ok w v A HV.out (by omega)).mono ?_
  rintro e w1 ⟨v1, rfl, O1, M1⟩
  have HO1 := Lib.hid (show OwnB _ _ _ _ from O1)
  have HM1 := Lib.hid M1
  clear O1 M1
  go_wp2_with fail
  refine (refSum8_ok w1 v A (HV.out.mods0 HM1.out) HB.out).mono ?_
  rintro e w2 ⟨rfl, rfl⟩
  go_wp2_with (at_builtin; refine wpList_appB (by rfl) (.tmp 4) (.tmp 7) rfl (v := v1) (by rfl) (HO1.out.mods0 (Mods.refl.alloc _)) (by rfl) (OwnB.lit w1 (Nat.le_refl _) [sum8 A] (by unfold maxLen; simp)).rd (by simp only [List.length_cons, List.length_nil]; omega) (by have := HM1.out.size; simp; omega) ?_; intro v3 w3 O3 M3; have HM3 := Lib.hid ((HM1.out.alloc (.cells (u8s [sum8 A]).toArray 5)).comp M3 (fun k hk => .inr (HO1.out.back hk))); have HO3 := Lib.hid (show OwnB w3 w.heap.size v3 (seal8 A) from O3); clear O3 M3)
  go_ret
  exact ⟨_, rfl, HO3.out, HM3.out⟩
/-- What Open8 gives. -/
def OpenRes (w : World) (A : List Int) (e : Ending) (w' : World) : Prop :=
  if A = [] then e = .returned (.tuple #[.slice none 0 0, .int .i64 4]) ∧ Mods [] w w'
  else if sum8 A = 0 then EncOut w A.dropLast e w' else e = .returned (.tuple #[.slice none 0 0, .int .i64 5]) ∧ Mods [] w w'
theorem Rd.take {w : World} {ad : Option Addr} {n cap : Nat} {A : List Int} (h : Rd w (.slice ad n cap) (u8s A)) (k : Nat) (hk : k ≤ A.length) : Rd w (.slice ad k cap) (u8s (A.take k)) := by
  obtain ⟨ad', cap', he, h1, h2, hc⟩ := h.u8
  injection he with he1 he2 he3
  subst he1 he3
  have hl : (A.take k).length = k := by simp; omega
  refine ⟨ad, cap, by rw [u8s_length, hl], by rw [u8s_length, hl]; omega, h2, fun i hi => ?_⟩
  rw [u8s_length, hl] at hi
  obtain ⟨b, off, hb, hx⟩ := hc i (by omega)
  refine ⟨b, off, hb, ?_⟩
  rw [hx, u8s_getD _ _ (by rw [hl]; exact hi)]
  simp [List.getD_eq_getElem?_getD, hi]
theorem Bytes.take {A : List Int} (h : Bytes A) (k : Nat) : Bytes (A.take k) := fun i => by
  have := h i
  rw [List.getD_eq_getElem?_getD, List.getElem?_take]
  split
  · rw [← List.getD_eq_getElem?_getD]; exact this
  · simp
set_option maxRecDepth 100000 in
set_option maxHeartbeats 1000000 in
theorem open8_ok (w : World) (v : Value) (A : List Int) (hv : Rd w v (u8s A)) (hb : Bytes A) (hl : A.length ≤ 100000) :
    Calls Try.prog 57 #[v] w fun e w' => OpenRes w A e w' := by
  have HV := Lib.hid hv
  have HB := Lib.hid hb
  obtain ⟨ad, cap, rfl, h1, h2, _⟩ := hv.u8
  have h3 : cap ≤ 9223372036854775807 := h2
  clear hv hb h2
  by_cases h0 : A = []
  · subst h0
    go_enter Try.func57, Try.ntmps57
    go_wp2_with fail
    go_ret2
    exact ⟨rfl, Mods.refl⟩
  · have hp : 0 < A.length := List.length_pos_iff.2 h0
    have e0 : ((A.length : Int) == 0) = false := by simp; omega
    have i1 : (1 : Int) ≤ (A.length : Int) := by omega
    have i2 : ((A.length : Int) - 1).toNat = A.length - 1 := by omega
    have HX := Lib.hid h0
    clear h0
    by_cases hs : sum8 A = 0
    · have es : (sum8 A != 0) = false := by simpa using hs
      have HR : Hid (∀ e w', EncOut w A.dropLast e w' → OpenRes w A e w') := Lib.hid fun e w' h => by unfold OpenRes; rw [if_neg HX.out, if_pos hs]; exact h
      clear hs
      go_enter Try.func57, Try.ntmps57
      go_wp2_with fail
      refine (sum8_ok w _ A HV.out HB.out).mono ?_
      rintro e w1 ⟨rfl, M1⟩
      go_wp2_with fail
      refine (cloneB_ok w1 _ (u8s (A.take (A.length - 1))) ((HV.out.mods0 M1).take (A.length - 1) (by omega)) (one_u8s _) (by rw [u8s_length]; simp; omega)).mono ?_
      rintro e w2 ⟨v2, rfl, O2, M2⟩
      go_wp2
      go_ret2
      refine HR.out _ _ ⟨_, rfl, ?_, (M1.trans M2)⟩
      rw [List.dropLast_eq_take]
      exact owns_down O2 M1.size
    · have es : (sum8 A != 0) = true := by simpa using hs
      have HR : Hid (∀ w', Mods [] w w' → OpenRes w A (.returned (.tuple #[.slice none 0 0, .int .i64 5])) w') := Lib.hid fun w' h => by unfold OpenRes; rw [if_neg HX.out, if_neg hs]; exact ⟨rfl, h⟩
      clear hs
      go_enter Try.func57, Try.ntmps57
      go_wp2_with fail
      refine (sum8_ok w _ A HV.out HB.out).mono ?_
      rintro e w1 ⟨rfl, M1⟩
      go_wp2
      go_ret2
      exact HR.out _ M1
set_option maxRecDepth 100000 in
set_option maxHeartbeats 1000000 in
theorem refOpen8_ok (w : World) (v : Value) (A : List Int) (hv : Rd w v (u8s A)) (hb : Bytes A) (hl : A.length ≤ 100000) :
    Calls Try.prog 59 #[v] w fun e w' => OpenRes w A e w' := by
  have HV := Lib.hid hv
  have HB := Lib.hid hb
  obtain ⟨ad, cap, rfl, h1, h2, _⟩ := hv.u8
  have h3 : cap ≤ 9223372036854775807 := h2
  clear hv hb h2
  by_cases h0 : A = []
  · subst h0
    go_enter Try.func59, Try.ntmps59
    go_wp2_with fail
    go_ret2
    exact ⟨rfl, Mods.refl⟩
  · have hp : 0 < A.length := List.length_pos_iff.2 h0
    have e0 : ((A.length : Int) == 0) = false := by simp; omega
    have i1 : (1 : Int) ≤ (A.length : Int) := by omega
    have i2 : ((A.length : Int) - 1).toNat = A.length - 1 := by omega
    have HX := Lib.hid h0
    clear h0
    by_cases hs : sum8 A = 0
    · have es : (sum8 A != 0) = false := by simpa using hs
      have HR : Hid (∀ e w', EncOut w A.dropLast e w' → OpenRes w A e w') := Lib.hid fun e w' h => by unfold OpenRes; rw [if_neg HX.out, if_pos hs]; exact h
      clear hs
      go_enter Try.func59, Try.ntmps59
      go_wp2_with fail
      refine (refSum8_ok w _ A HV.out HB.out).mono ?_
      rintro e w1 ⟨rfl, rfl⟩
      go_wp2_with fail
      refine (refCopy_ok _ _ (A.take (A.length - 1)) (HV.out.take (A.length - 1) (by omega)) (by simp; omega)).mono ?_
      rintro e w2 ⟨v2, rfl, O2, M2⟩
      go_wp2
      go_ret2
      refine HR.out _ _ ⟨_, rfl, ?_, M2⟩
      rw [List.dropLast_eq_take]
      exact O2
    · have es : (sum8 A != 0) = true := by simpa using hs
      have HR : Hid (∀ w', Mods [] w w' → OpenRes w A (.returned (.tuple #[.slice none 0 0, .int .i64 5])) w') := Lib.hid fun w' h => by unfold OpenRes; rw [if_neg HX.out, if_neg hs]; exact ⟨rfl, h⟩
      clear hs
      go_enter Try.func59, Try.ntmps59
      go_wp2_with fail
      refine (refSum8_ok w _ A HV.out HB.out).mono ?_
      rintro e w1 ⟨rfl, rfl⟩
      go_wp2
      go_ret2
      exact HR.out _ Mods.refl
end Go.Proofs.Ytijjkonephjodaa
