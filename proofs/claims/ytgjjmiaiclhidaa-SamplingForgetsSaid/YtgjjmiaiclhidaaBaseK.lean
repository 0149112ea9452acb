/- Joined texts. The reference's Sum8, Copy, Seal8, Open8, and checksum.Open8: contracts. | The reference's Encode of sensors: contract. -/
import Derived.Test.YtgjjmiaiclhidaaBaseI
import Derived.Test.YtgjjmiaiclhidaaBaseJ
import Derived.Test.YtgjjmiaiclhidaaRefEnc
import Derived.Test.YtgjjmiaiclhidaaBaseD
namespace Go.Proofs.Ytgjjmiaiclhidaa
open Go.RowKit

theorem sum8_sub (x : Int) : (256 - x % 256) % 256 = -x % 256 := by omega
set_option maxRecDepth 100000 in
set_option maxHeartbeats 1000000 in
theorem refSum8_ok (w : World) (v : Value) (A : List Int) (hv : Rd w v (u8s A)) (hb : Bytes A) :
    Calls Try.prog 81 #[v] w fun e w' => e = .returned (.int .u8 (sum8 A)) ∧ w = w' := by
  have HV := Lib.hid hv
  have HB := Lib.hid hb
  obtain ⟨ad, cap, rfl, h1, h2, _⟩ := hv.u8
  have h3 : cap ≤ 9223372036854775807 := h2
  clear hv hb h2
  go_enter Try.func81, Try.ntmps81
  go_wp2_with fail
  go_loopw [3, 4] (fun s i wr => ∃ k : Nat, k ≤ A.length ∧ i = .int .i64 k ∧ s = .int .i64 ((A.take k).sum % 256) ∧ wr = w) (fun _ i _ => A.length - (intOf i).toNat)
  case atStart => exact ⟨0, Nat.zero_le _, rfl, by simp, rfl⟩
  case round =>
    obtain ⟨k, hk, rfl, rfl, rfl⟩ := hrel
    by_cases hlt : k < A.length
    · obtain ⟨_, _, he, _, _, hc⟩ := HV.out.u8
      obtain ⟨bb, off, rfl, x0⟩ := hc k hlt
      injection he with he1 he2 he3
      subst he1 he3
      clear hc he2
      have i1 : (0 : Int) ≤ (k : Int) := by omega
      have i2 : (k : Int) < (A.length : Int) := by omega
      have HST := Lib.hid (sum_step A k hlt)
      have hbx := HB.out k
      have hs0 : 0 ≤ (A.take k).sum % 256 ∧ (A.take k).sum % 256 < 256 := by omega
      generalize (A.take k).sum % 256 = s at HST hs0 ⊢
      generalize A.getD k 0 = x at x0 hbx HST
      obtain ⟨s0, s1⟩ := hs0
      obtain ⟨x1, x2⟩ := hbx
      have ht : (s + x).tmod 256 = (s + x) % 256 := Int.tmod_eq_emod_of_nonneg (by omega)
      go_wp2_with fail
      exact ⟨⟨k + 1, by omega, by go_num, by rw [← HST.out], by first | rfl | trivial⟩, by simp only [intOf]; omega⟩
    · have hkl : k = A.length := by omega
      have HR := Lib.hid (show (256 - (A.take k).sum % 256) % 256 = sum8 A by rw [sum8_sub, hkl, List.take_length]; rfl)
      have hs0 : 0 ≤ (A.take k).sum % 256 ∧ (A.take k).sum % 256 < 256 := by omega
      generalize (A.take k).sum % 256 = s at HR hs0 ⊢
      obtain ⟨s0, s1⟩ := hs0
      have ht : (256 - s).tmod 256 = (256 - s) % 256 := Int.tmod_eq_emod_of_nonneg (by omega)
      go_wp2_with fail
      go_ret
      exact ⟨ret_int (by first | exact HR.out | (have := HR.out; omega)), rfl⟩
theorem u8s_take_succ (A : List Int) (k : Nat) (hk : k < A.length) : A.take (k + 1) = A.take k ++ [A.getD k 0] := by
  rw [List.take_add_one, List.getElem?_eq_getElem hk, List.getD_eq_getElem?_getD, List.getElem?_eq_getElem hk]; rfl
set_option maxRecDepth 100000 in
set_option maxHeartbeats 1000000 in
theorem refCopy_ok (w : World) (v : Value) (A : List Int) (hv : Rd w v (u8s A)) (hl : A.length ≤ 900000) :
    Calls Try.prog 80 #[v] w fun e w' => OwnedBy 5 w (u8s A) e w' := by
  have HV := Lib.hid hv
  obtain ⟨ad, cap, rfl, h1, h2, _⟩ := hv.u8
  have h3 : cap ≤ 9223372036854775807 := h2
  clear hv h2
  go_enter Try.func80, Try.ntmps80
  go_wp2_with fail
  go_loopw [3, 4] (fun s i wr => ∃ k : Nat, k ≤ A.length ∧ i = .int .i64 k ∧ OwnB wr w.heap.size s (A.take k) ∧ Mods [] w wr) (fun _ i _ => A.length - (intOf i).toNat)
  case atStart => exact ⟨0, Nat.zero_le _, rfl, OwnB.nil _ _, Mods.refl⟩
  case round =>
    obtain ⟨k, hk, rfl, O, M⟩ := hrel
    by_cases hlt : k < A.length
    · obtain ⟨_, _, he, _, _, hc⟩ := (HV.out.mods0 M).u8
      obtain ⟨bb, off, rfl, x0⟩ := hc k hlt
      injection he with he1 he2 he3
      subst he1 he3
      clear hc he2
      have i1 : (0 : Int) ≤ (k : Int) := by omega
      have i2 : (k : Int) < (A.length : Int) := by omega
      have HST := Lib.hid (u8s_take_succ A k hlt)
      generalize A.getD k 0 = x at x0 HST
      have HO := Lib.hid O
      have HM := Lib.hid M
      have hlk : (A.take k).length ≤ 900000 := by simp; omega
      clear O M
      go_wp2_with (at_builtin; refine wpList_appB (by rfl) (.tmp 11) (.tmp 16) rfl (v := u3) (by rfl) (HO.out.mods0 (Mods.refl.alloc _)) (by rfl) (OwnB.lit wr (Nat.le_refl _) [x] (by unfold maxLen; simp)).rd (by simp only [List.length_cons, List.length_nil]; omega) (by have := HM.out.size; simp; omega) ?_; intro v3 w3 O3 M3; have HM3 := Lib.hid ((HM.out.alloc (.cells (u8s [x]).toArray 5)).comp M3 (fun k hk => .inr (HO.out.back hk))); have HO3 : Hid (OwnB w3 w.heap.size v3 (A.take (k + 1))) := Lib.hid (by rw [HST.out]; exact O3); clear O3 M3)
      exact ⟨⟨k + 1, by omega, by go_num, HO3.out, HM3.out⟩, by simp only [intOf]; omega⟩
    · have hkl : k = A.length := by omega
      rw [hkl, List.take_length] at O
      have HO := Lib.hid O
      have HM := Lib.hid M
      clear O M
      go_wp2_with fail
      go_ret
      exact ⟨_, rfl, HO.out, HM.out⟩
set_option maxRecDepth 100000 in
set_option maxHeartbeats 1000000 in
theorem refSeal8_ok (w : World) (v : Value) (A : List Int) (hv : Rd w v (u8s A)) (hb : Bytes A) (hl : A.length ≤ 100000) :
    Calls Try.prog 33 #[v] w fun e w' => OwnedBy 5 w (u8s (seal8 A)) e w' := by
  have HV := Lib.hid hv
  have HB := Lib.hid hb
  clear hv hb
  go_enter Try.func33, Try.ntmps33
  go_wp2_with fail
  refine (refCopy_ok w v A HV.out (by omega)).mono ?_
  rintro e w1 ⟨v1, rfl, O1, M1⟩
  have HO1 := Lib.hid (show OwnB _ _ _ _ from O1)
  have HM1 := Lib.hid M1
  clear O1 M1
  go_wp2_with fail
  refine (refSum8_ok w1 v A (HV.out.mods0 HM1.out) HB.out).mono ?_
  rintro e w2 ⟨rfl, rfl⟩
  go_wp2_with (at_builtin; refine wpList_appB (by rfl) (.tmp 4) (.tmp 7) rfl (v := v1) (by rfl) (HO1.out.mods0 (Mods.refl.alloc _)) (by rfl) (OwnB.lit w1 (Nat.le_refl _) [sum8 A] (by unfold maxLen; simp)).rd (by simp only [List.length_cons, List.length_nil]; omega) (by have := HM1.out.size; simp; omega) ?_; intro v3 w3 O3 M3; have HM3 := Lib.hid ((HM1.out.alloc (.cells (u8s [sum8 A]).toArray 5)).comp M3 (fun k hk => .inr (HO1.out.back hk))); have HO3 := Lib.hid (show OwnB w3 w.heap.size v3 (seal8 A) from O3); clear O3 M3)
  go_ret
  exact ⟨_, rfl, HO3.out, HM3.out⟩
/-- What Open8 gives. -/
def OpenRes (w : World) (A : List Int) (e : Ending) (w' : World) : Prop :=
  if A = [] then e = .returned (.tuple #[.slice none 0 0, .int .i64 4]) ∧ Mods [] w w'
  else if sum8 A = 0 then EncOut w A.dropLast e w' else e = .returned (.tuple #[.slice none 0 0, .int .i64 5]) ∧ Mods [] w w'
theorem Rd.take {w : World} {ad : Option Addr} {n cap : Nat} {A : List Int} (h : Rd w (.slice ad n cap) (u8s A)) (k : Nat) (hk : k ≤ A.length) : Rd w (.slice ad k cap) (u8s (A.take k)) := by
  obtain ⟨ad', cap', he, h1, h2, hc⟩ := h.u8
  injection he with he1 he2 he3
  subst he1 he3
  have hl : (A.take k).length = k := by simp; omega
  refine ⟨ad, cap, by rw [u8s_length, hl], by rw [u8s_length, hl]; omega, h2, fun i hi => ?_⟩
  rw [u8s_length, hl] at hi
  obtain ⟨b, off, hb, hx⟩ := hc i (by omega)
  refine ⟨b, off, hb, ?_⟩
  rw [hx, u8s_getD _ _ (by rw [hl]; exact hi)]
  simp [List.getD_eq_getElem?_getD, hi]
theorem Bytes.take {A : List Int} (h : Bytes A) (k : Nat) : Bytes (A.take k) := fun i => by
  have := h i
  rw [List.getD_eq_getElem?_getD, List.getElem?_take]
  split
  · rw [← List.getD_eq_getElem?_getD]; exact this
  · simp
set_option maxRecDepth 100000 in
set_option maxHeartbeats 1000000 in
theorem open8_ok (w : World) (v : Value) (A : List Int) (hv : Rd w v (u8s A)) (hb : Bytes A) (hl : A.length ≤ 100000) :
    Calls Try.prog 82 #[v] w fun e w' => OpenRes w A e w' := by
  have HV := Lib.hid hv
  have HB := Lib.hid hb
  obtain ⟨ad, cap, rfl, h1, h2, _⟩ := hv.u8
  have h3 : cap ≤ 9223372036854775807 := h2
  clear hv hb h2
  by_cases h0 : A = []
  · subst h0
    go_enter Try.func82, Try.ntmps82
    go_wp2_with fail
    go_ret2
    exact ⟨rfl, Mods.refl⟩
  · have hp : 0 < A.length := List.length_pos_iff.2 h0
    have e0 : ((A.length : Int) == 0) = false := by simp; omega
    have i1 : (1 : Int) ≤ (A.length : Int) := by omega
    have i2 : ((A.length : Int) - 1).toNat = A.length - 1 := by omega
    have HX := Lib.hid h0
    clear h0
    by_cases hs : sum8 A = 0
    · have es : (sum8 A != 0) = false := by simpa using hs
      have HR : Hid (∀ e w', EncOut w A.dropLast e w' → OpenRes w A e w') := Lib.hid fun e w' h => by unfold OpenRes; rw [if_neg HX.out, if_pos hs]; exact h
      clear hs
      go_enter Try.func82, Try.ntmps82
      go_wp2_with fail
      refine (sum8_ok w _ A HV.out HB.out).mono ?_
      rintro e w1 ⟨rfl, M1⟩
      go_wp2_with fail
      refine (cloneB_ok w1 _ (u8s (A.take (A.length - 1))) ((HV.out.mods0 M1).take (A.length - 1) (by omega)) (one_u8s _) (by rw [u8s_length]; simp; omega)).mono ?_
      rintro e w2 ⟨v2, rfl, O2, M2⟩
      go_wp2
      go_ret2
      refine HR.out _ _ ⟨_, rfl, ?_, (M1.trans M2)⟩
      rw [List.dropLast_eq_take]
      exact owns_down O2 M1.size
    · have es : (sum8 A != 0) = true := by simpa using hs
      have HR : Hid (∀ w', Mods [] w w' → OpenRes w A (.returned (.tuple #[.slice none 0 0, .int .i64 5])) w') := Lib.hid fun w' h => by unfold OpenRes; rw [if_neg HX.out, if_neg hs]; exact ⟨rfl, h⟩
      clear hs
      go_enter Try.func82, Try.ntmps82
      go_wp2_with fail
      refine (sum8_ok w _ A HV.out HB.out).mono ?_
      rintro e w1 ⟨rfl, M1⟩
      go_wp2
      go_ret2
      exact HR.out _ M1
set_option maxRecDepth 100000 in
set_option maxHeartbeats 1000000 in
theorem refOpen8_ok (w : World) (v : Value) (A : List Int) (hv : Rd w v (u8s A)) (hb : Bytes A) (hl : A.length ≤ 100000) :
    Calls Try.prog 84 #[v] w fun e w' => OpenRes w A e w' := by
  have HV := Lib.hid hv
  have HB := Lib.hid hb
  obtain ⟨ad, cap, rfl, h1, h2, _⟩ := hv.u8
  have h3 : cap ≤ 9223372036854775807 := h2
  clear hv hb h2
  by_cases h0 : A = []
  · subst h0
    go_enter Try.func84, Try.ntmps84
    go_wp2_with fail
    go_ret2
    exact ⟨rfl, Mods.refl⟩
  · have hp : 0 < A.length := List.length_pos_iff.2 h0
    have e0 : ((A.length : Int) == 0) = false := by simp; omega
    have i1 : (1 : Int) ≤ (A.length : Int) := by omega
    have i2 : ((A.length : Int) - 1).toNat = A.length - 1 := by omega
    have HX := Lib.hid h0
    clear h0
    by_cases hs : sum8 A = 0
    · have es : (sum8 A != 0) = false := by simpa using hs
      have HR : Hid (∀ e w', EncOut w A.dropLast e w' → OpenRes w A e w') := Lib.hid fun e w' h => by unfold OpenRes; rw [if_neg HX.out, if_pos hs]; exact h
      clear hs
      go_enter Try.func84, Try.ntmps84
      go_wp2_with fail
      refine (refSum8_ok w _ A HV.out HB.out).mono ?_
      rintro e w1 ⟨rfl, rfl⟩
      go_wp2_with fail
      refine (refCopy_ok _ _ (A.take (A.length - 1)) (HV.out.take (A.length - 1) (by omega)) (by simp; omega)).mono ?_
      rintro e w2 ⟨v2, rfl, O2, M2⟩
      go_wp2
      go_ret2
      refine HR.out _ _ ⟨_, rfl, ?_, M2⟩
      rw [List.dropLast_eq_take]
      exact O2
    · have es : (sum8 A != 0) = true := by simpa using hs
      have HR : Hid (∀ w', Mods [] w w' → OpenRes w A (.returned (.tuple #[.slice none 0 0, .int .i64 5])) w') := Lib.hid fun w' h => by unfold OpenRes; rw [if_neg HX.out, if_neg hs]; exact ⟨rfl, h⟩
      clear hs
      go_enter Try.func84, Try.ntmps84
      go_wp2_with fail
      refine (refSum8_ok w _ A HV.out HB.out).mono ?_
      rintro e w1 ⟨rfl, rfl⟩
      go_wp2
      go_ret2
      exact HR.out _ Mods.refl
end Go.Proofs.Ytgjjmiaiclhidaa

namespace Go.Proofs.Ytgjjmiaiclhidaa
open Go.RowKit

theorem leL_two {n : Nat} (h : n < 65536) : leL (n : Int) 2 = twoL [n] := by
  simp [leL, twoL, List.range_succ]
  omega
theorem twoL_app (l l' : List Nat) : twoL l ++ twoL l' = twoL (l ++ l') := by simp [twoL]
theorem senL_bytes {w : World} {S : Sen} {P : List Pt} (hS : IsSen w S P) (hv : validB S P = true) : Bytes (senL S P) ∧ (senL S P).length ≤ 300 := by
  have hn : S.name.size ≤ 16 ∧ (S.samples = 1 ∨ S.samples = 3 ∨ S.samples = 5) ∧ (S.disc = false → convB S.conv P = true) := by
    unfold validB at hv
    simp only [Bool.and_eq_true, nameB, decide_eq_true_eq] at hv
    refine ⟨hv.1.1.1.2, hv.1.2, fun hd => ?_⟩
    have := hv.2
    rw [hd] at this
    simp only [Bool.false_eq_true, if_false, analogB, Bool.and_eq_true] at this
    exact this.1.1.1.1.1
  obtain ⟨hn16, hsm, hcv⟩ := hn
  have b0 := hS.number
  have b1 := hS.type
  have b2 := hS.unit
  have b4 := hS.eid
  have b5 := hS.einst
  have hst := hS.states
  have has := hS.asrt
  have hde := hS.deas
  have hmk := hS.mask
  have hhl := hS.hl
  have hhu := hS.hu
  have hrw := hS.raw
  have r0 := hrw 0
  have r1 := hrw 1
  have r2 := hrw 2
  have r3 := hrw 3
  have r4 := hrw 4
  have r5 := hrw 5
  simp only [Sen.raw, List.getD_cons_zero, List.getD_cons_succ] at r0 r1 r2 r3 r4 r5
  have hfl : 4 ≤ flagS S ∧ flagS S ≤ 23 := by unfold flagS; split <;> split <;> omega
  have hhead : ∀ x ∈ headL S (flagS S) ++ nameL S.name, 0 ≤ x ∧ x ≤ 255 := fun x hx => by
    rcases List.mem_append.1 hx with hx | hx
    · simp only [headL, List.mem_cons, List.mem_nil_iff, or_false] at hx
      rcases hx with rfl | rfl | rfl | rfl | rfl | rfl | rfl | rfl <;> constructor <;> omega
    · exact nameL_bytes _ x hx
  have hhl : (headL S (flagS S) ++ nameL S.name).length ≤ 24 := by rw [List.length_append, nameL_length]; simp [headL]; omega
  cases hd : S.disc with
  | true =>
    constructor
    · refine bytes_of fun x hx => ?_
      rw [senL, hd, if_pos rfl] at hx
      rcases List.mem_append.1 hx with hx | hx
      · exact hhead x hx
      · exact twoL_bytes _ (fun n hn => by simp at hn; rcases hn with rfl | rfl | rfl <;> assumption) x hx
    · rw [senL, hd, if_pos rfl, List.length_append, twoL_length]; simp only [List.length_cons, List.length_nil]; omega
  | false =>
    have hc := hcv hd
    have hcl := convL_length_le hc
    constructor
    · refine bytes_of fun x hx => ?_
      rw [senL, hd, if_neg (by simp)] at hx
      rcases List.mem_append.1 hx with hx | hx
      · exact hhead x hx
      · simp only [List.mem_append, rawsL, List.mem_cons, List.mem_nil_iff, or_false] at hx
        rcases hx with (((hx | hx) | hx) | hx) | hx
        · exact convL_bytes hc hS.conv.pok x hx
        · subst hx; constructor <;> omega
        · rcases hx with rfl | rfl | rfl | rfl | rfl | rfl <;> constructor <;> omega
        · rcases hx with rfl | rfl <;> constructor <;> omega
        · exact twoL_bytes _ (fun n hn => by simp at hn; rcases hn with rfl | rfl <;> assumption) x hx
    · rw [senL, hd, if_neg (by simp)]
      simp only [List.length_append, twoL_length, rawsL, List.length_cons, List.length_nil]
      rw [List.length_append] at hhl
      omega
set_option maxRecDepth 100000 in
set_option maxHeartbeats 4000000 in
theorem refEncS_ok (w : World) (S : Sen) (P : List Pt) (hS : IsSen w S P) :
    Calls Try.prog 28 #[.agg S.cells] w fun e w' => EncRes w (validB S P) (seal8 (senL S P)) e w' := by
  have HS := Lib.hid hS
  have BB := Lib.hid (SenBox.new w S)
  have M0 := Lib.hid ((Mods.refl (S := []) (w := w)).alloc (.cells S.cells 32))
  cases hv : validB S P with
  | false =>
    have HV := Lib.hid hv
    clear hv hS
    go_enter Try.func28, Try.ntmps28
    go_wp2_with (refine wpList_load_sen rfl (.tmp 1) rfl BB.out (by rfl) ?_)
    refine (refValid_ok _ S P (HS.out.mods0 M0.out)).mono ?_
    rw [HV.out]
    rintro e w2 ⟨rfl, M2⟩
    go_wp2
    go_ret2
    exact ⟨rfl, M0.out.trans M2⟩
  | true =>
    have hp : (S.samples = 1 ∨ S.samples = 3 ∨ S.samples = 5) ∧ S.name.size ≤ 16 := by
      have h := hv
      unfold validB at h
      simp only [Bool.and_eq_true, nameB, decide_eq_true_eq] at h
      exact ⟨h.1.2, h.1.1.1.2⟩
    obtain ⟨hsm, hn16⟩ := hp
    have HV := Lib.hid hv
    have HVV := Lib.hid hv
    have HSB := Lib.hid (senL_bytes hS hv)
    have b0 := hS.number
    have b1 := hS.type
    have b2 := hS.unit
    have b4 := hS.eid
    have b5 := hS.einst
    have b23 := hS.states
    have b24 := hS.asrt
    have b25 := hS.deas
    have hsb : 1 ≤ S.samples ∧ S.samples ≤ 5 := by omega
    obtain ⟨hs1, hs5⟩ := hsb
    have hnm : S.name.size ≤ 9223372036854775807 := by omega
    clear hS hv hsm
    obtain ⟨i0, hi, hz0, hz1, hz2⟩ := info_parts Try.infoB
    go_enter Try.func28, Try.ntmps28
    go_wp2_with (refine wpList_load_sen rfl (.tmp 1) rfl BB.out (by rfl) ?_)
    refine (refValid_ok _ S P (HS.out.mods0 M0.out)).mono ?_
    rw [HV.out]
    rintro e w2 ⟨rfl, M2⟩
    have B2 := BB.out.mods0 M2
    have HM := Lib.hid (M0.out.trans M2)
    have c27 := B2.rest.2.2.2.2.2.2
    have c26 := B2.rest.2.2.2.2.2.1
    obtain ⟨c0, c1, c2, c3, c4, c5, c6⟩ := B2.head
    have HH := Lib.hid (B2.blk)
    have hzz : w.heap.size + 1 ≤ w2.heap.size := by have := (M0.out.trans M2).size; have := lt_of_block B2.blk; omega
    clear B2 BB M0 M2 HV
    generalize hg : w.heap.size = g at c27 c6 c26 c0 c1 c2 c3 c4 c5 HH hzz ⊢
    have HG := Lib.hid hg
    clear hg
    have HCV : Hid (S.disc = false → convB S.conv P = true ∧ (convL S.conv P).length ≤ 100) := Lib.hid fun hd => by
      have hv := HVV.out
      unfold validB at hv
      rw [hd] at hv
      simp only [Bool.and_eq_true, nameB, decide_eq_true_eq, Bool.false_eq_true, if_false, analogB] at hv
      exact ⟨hv.2.1.1.1.1.1, convL_length_le hv.2.1.1.1.1.1⟩
    cases hd : S.disc with
    | true =>
      rw [hd] at c6
      cases hh : S.host with
      | false =>
        rw [hh] at c26
        have HF := Lib.hid (show flagS S = (4*S.samples+1) by unfold flagS; rw [hh, hd]; simp)
        have HD := Lib.hid hd
        clear hh hd
        have MA := (Mods.refl (S := []) (w := w2)).alloc (.cells #[.int .u8 1, .int .u8 (S.number : Int), .int .u8 (S.type : Int), .int .u8 (S.unit : Int), .int .u8 (S.eid : Int), .int .u8 (S.einst : Int), .int .u8 ((4*S.samples+1)), .int .u8 (S.name.size : Int)] 5)
        have ca3 := MA.cell c3 (by simp)
        go_wp2_with (first | (at_builtin; refine Lib.wpList_append_own_string _ rfl (.tmp 42) (.tmp 44) 33 9 rfl (g + 1) 5 i0 Try.underlying33 Try.underlying9 hi hz0 hz1 hz2 _ 8 (u8s (headL S ((4*S.samples+1)))) (by rfl) (World.ownsRow_lit w2 #[.int .u8 1, .int .u8 S.number, .int .u8 S.type, .int .u8 S.unit, .int .u8 S.eid, .int .u8 S.einst, .int .u8 ((4*S.samples+1)), .int .u8 S.name.size] 8 hzz (by decide) rfl) S.name (by rfl) (by unfold maxLen; omega) (by omega) (by simp; omega) ?_; intro v3 w3 O3 G3 _; have HM3 := Lib.hid ((HM.out.trans MA).grown G3 (fun q hq => .inr (by simp [Value.ownBlock] at hq; have := HG.out; omega))); have HH3 : Hid (w3.heap[g]? = some (.cells S.cells 32 (0, 0))) := Lib.hid ((Mods.of_grown G3).heap (MA.heap HH.out (by simp)) (by simp [Value.ownBlock]; omega)); have q6 : w3.cell? ⟨g, 6, none⟩ = some (.bool true) := (by rw [cell_blk HH3.out]; rw [cell_blk HH.out] at c6; exact c6); have q23 : w3.cell? ⟨g, 23, none⟩ = some (.int .u16 S.states) := ((cell_blk HH3.out 23).trans rfl); have hz3 : g + 1 ≤ w3.heap.size := (by have := G3.size; simp at this; omega); have HO3 : Hid (OwnB w3 (g + 1) v3 (headL S ((4*S.samples+1)) ++ nameL S.name)) := Lib.hid (by unfold OwnB; rw [u8s_length, List.length_append, nameL_length]; have e : u8s (headL S ((4*S.samples+1)) ++ nameL S.name) = u8s (headL S ((4*S.samples+1))) ++ Lib.strCells S.name := (by rw [nameL_cells]; simp [u8s]); rw [e]; exact O3); clear G3 O3 MA ca3) | (refine wpList_load_mid rfl 26 (.tmp 55) rfl g 7 (by rfl) S.conv.cells.toList _ (Sen.conv_range HH3.out) Try.underlying26 rfl Try.infoC ?_; rw [Array.toArray_toList]))
        clear q6 c27 c6 c26 c0 c1 c2 c3 c4 c5 HH HM
        have hlen3 : (headL S ((4*S.samples+1)) ++ nameL S.name).length ≤ 24 := by rw [List.length_append, nameL_length]; simp [headL]; omega
        generalize hhd : headL S ((4*S.samples+1)) ++ nameL S.name = A3 at HO3 hlen3
        have HHD := Lib.hid hhd
        clear hhd
        refine (little_ok w3 (S.states : Int) 2 (by omega) (by omega)).mono ?_
        rw [leL_two b23]
        rintro e w4 ⟨v4, rfl, O4, M4⟩
        have HX := Lib.hid (show OwnB _ _ _ _ from O4)
        have HO4 := Lib.hid (HO3.out.mods0 M4)
        have HM4 := Lib.hid (HM3.out.trans M4)
        have hz4 := Nat.le_trans hz3 M4.size
        have HR4 := Lib.hid (M4.heap HH3.out (by simp))
        clear O4 M4 HO3 HM3 hz3 HH3
        go_wp2_with (at_builtin; refine wpList_appB (by rfl) (.tmp 48) (.tmp 52) rfl (v := v3) (by rfl) HO4.out (by rfl) HX.out.rd (by (rw [twoL_length]; simp; omega)) hz4 ?_; intro v5 w5 O5 M5; have HM5 := Lib.hid (HM4.out.comp M5 (fun k hk => .inr (by have := HO4.out.back hk; have := HG.out; omega))); have HR5 := Lib.hid (M5.heap HR4.out (fun hm => by have := HO4.out.back hm; omega)); have hz5 : g + 1 ≤ w5.heap.size := Nat.le_trans hz4 M5.size; have HO5 := Lib.hid O5; have c24 : w5.cell? ⟨g, 24, none⟩ = some (.int .u16 S.asrt) := ((cell_blk HR5.out 24).trans rfl); clear O5 M5)
        clear HX HO4 HM4 HR4 hz4 q23
        have hlen5 : (A3 ++ twoL [S.states]).length ≤ 300 := by rw [List.length_append, twoL_length]; simp; omega
        generalize hA5 : A3 ++ twoL [S.states] = A5 at HO5 hlen5
        have HA5 := Lib.hid (show headL S (flagS S) ++ nameL S.name ++ twoL [S.states] = A5 by rw [HF.out, HHD.out, hA5])
        clear hA5
        refine (little_ok w5 (S.asrt : Int) 2 (by omega) (by omega)).mono ?_
        rw [leL_two b24]
        rintro e w6 ⟨v6, rfl, O6, M6⟩
        have HX := Lib.hid (show OwnB _ _ _ _ from O6)
        have HO6 := Lib.hid (HO5.out.mods0 M6)
        have HM6 := Lib.hid (HM5.out.trans M6)
        have hz6 := Nat.le_trans hz5 M6.size
        have HR6 := Lib.hid (M6.heap HR5.out (by simp))
        clear O6 M6 HO5 HM5 hz5 HR5
        go_wp2_with (at_builtin; refine wpList_appB (by rfl) (.tmp 88) (.tmp 92) rfl (v := v5) (by rfl) HO6.out (by rfl) HX.out.rd (by (rw [twoL_length]; simp; omega)) hz6 ?_; intro v7 w7 O7 M7; have HM7 := Lib.hid (HM6.out.comp M7 (fun k hk => .inr (by have := HO6.out.back hk; have := HG.out; omega))); have HR7 := Lib.hid (M7.heap HR6.out (fun hm => by have := HO6.out.back hm; omega)); have hz7 : g + 1 ≤ w7.heap.size := Nat.le_trans hz6 M7.size; have HO7 := Lib.hid O7; have c25 : w7.cell? ⟨g, 25, none⟩ = some (.int .u16 S.deas) := ((cell_blk HR7.out 25).trans rfl); clear O7 M7)
        clear HX HO6 HM6 HR6 hz6 c24
        refine (little_ok w7 (S.deas : Int) 2 (by omega) (by omega)).mono ?_
        rw [leL_two b25]
        rintro e w8 ⟨v8, rfl, O8, M8⟩
        have HX := Lib.hid (show OwnB _ _ _ _ from O8)
        have HO8 := Lib.hid (HO7.out.mods0 M8)
        have HM8 := Lib.hid (HM7.out.trans M8)
        have hz8 := Nat.le_trans hz7 M8.size
        have HR8 := Lib.hid (M8.heap HR7.out (by simp))
        clear O8 M8 HO7 HM7 hz7 HR7
        go_wp2_with (at_builtin; refine wpList_appB (by rfl) (.tmp 94) (.tmp 98) rfl (v := v7) (by rfl) HO8.out (by rfl) HX.out.rd (by (rw [List.length_append, twoL_length, twoL_length]; simp; omega)) hz8 ?_; intro v9 w9 O9 M9; have HM9 := Lib.hid (HM8.out.comp M9 (fun k hk => .inr (by have := HO8.out.back hk; have := HG.out; omega))); have HR9 := Lib.hid (M9.heap HR8.out (fun hm => by have := HO8.out.back hm; omega)); have hz9 : g + 1 ≤ w9.heap.size := Nat.le_trans hz8 M9.size; have HO9 := Lib.hid O9; skip; clear O9 M9)
        clear HX HO8 HM8 HR8 hz8 c25
        have hO := HO9.out
        rw [(show A5 ++ twoL [S.asrt] ++ twoL [S.deas] = senL S P by rw [senL, HD.out, if_pos rfl, ← HA5.out]; simp [twoL])] at hO
        refine (refSeal8_ok w9 v9 (senL S P) hO.rd HSB.out.1 (by have := HSB.out.2; omega)).mono ?_
        rintro e w10 ⟨v10, rfl, O10, M10⟩
        have HM10 := Lib.hid (HM9.out.trans M10)
        have HO10 := Lib.hid (owns_down O10 HM9.out.size)
        clear O10 M10 hO HO9 HM9
        go_wp2
        go_ret2
        exact ⟨_, rfl, HO10.out, HM10.out⟩
      | true =>
        rw [hh] at c26
        have HF := Lib.hid (show flagS S = (4*S.samples+1+2) by unfold flagS; rw [hh, hd]; simp)
        have HD := Lib.hid hd
        clear hh hd
        have MA := (Mods.refl (S := []) (w := w2)).alloc (.cells #[.int .u8 1, .int .u8 (S.number : Int), .int .u8 (S.type : Int), .int .u8 (S.unit : Int), .int .u8 (S.eid : Int), .int .u8 (S.einst : Int), .int .u8 ((4*S.samples+1+2)), .int .u8 (S.name.size : Int)] 5)
        have ca3 := MA.cell c3 (by simp)
        go_wp2_with (first | (at_builtin; refine Lib.wpList_append_own_string _ rfl (.tmp 42) (.tmp 44) 33 9 rfl (g + 1) 5 i0 Try.underlying33 Try.underlying9 hi hz0 hz1 hz2 _ 8 (u8s (headL S ((4*S.samples+1+2)))) (by rfl) (World.ownsRow_lit w2 #[.int .u8 1, .int .u8 S.number, .int .u8 S.type, .int .u8 S.unit, .int .u8 S.eid, .int .u8 S.einst, .int .u8 ((4*S.samples+1+2)), .int .u8 S.name.size] 8 hzz (by decide) rfl) S.name (by rfl) (by unfold maxLen; omega) (by omega) (by simp; omega) ?_; intro v3 w3 O3 G3 _; have HM3 := Lib.hid ((HM.out.trans MA).grown G3 (fun q hq => .inr (by simp [Value.ownBlock] at hq; have := HG.out; omega))); have HH3 : Hid (w3.heap[g]? = some (.cells S.cells 32 (0, 0))) := Lib.hid ((Mods.of_grown G3).heap (MA.heap HH.out (by simp)) (by simp [Value.ownBlock]; omega)); have q6 : w3.cell? ⟨g, 6, none⟩ = some (.bool true) := (by rw [cell_blk HH3.out]; rw [cell_blk HH.out] at c6; exact c6); have q23 : w3.cell? ⟨g, 23, none⟩ = some (.int .u16 S.states) := ((cell_blk HH3.out 23).trans rfl); have hz3 : g + 1 ≤ w3.heap.size := (by have := G3.size; simp at this; omega); have HO3 : Hid (OwnB w3 (g + 1) v3 (headL S ((4*S.samples+1+2)) ++ nameL S.name)) := Lib.hid (by unfold OwnB; rw [u8s_length, List.length_append, nameL_length]; have e : u8s (headL S ((4*S.samples+1+2)) ++ nameL S.name) = u8s (headL S ((4*S.samples+1+2))) ++ Lib.strCells S.name := (by rw [nameL_cells]; simp [u8s]); rw [e]; exact O3); clear G3 O3 MA ca3) | (refine wpList_load_mid rfl 26 (.tmp 55) rfl g 7 (by rfl) S.conv.cells.toList _ (Sen.conv_range HH3.out) Try.underlying26 rfl Try.infoC ?_; rw [Array.toArray_toList]))
        clear q6 c27 c6 c26 c0 c1 c2 c3 c4 c5 HH HM
        have hlen3 : (headL S ((4*S.samples+1+2)) ++ nameL S.name).length ≤ 24 := by rw [List.length_append, nameL_length]; simp [headL]; omega
        generalize hhd : headL S ((4*S.samples+1+2)) ++ nameL S.name = A3 at HO3 hlen3
        have HHD := Lib.hid hhd
        clear hhd
        refine (little_ok w3 (S.states : Int) 2 (by omega) (by omega)).mono ?_
        rw [leL_two b23]
        rintro e w4 ⟨v4, rfl, O4, M4⟩
        have HX := Lib.hid (show OwnB _ _ _ _ from O4)
        have HO4 := Lib.hid (HO3.out.mods0 M4)
        have HM4 := Lib.hid (HM3.out.trans M4)
        have hz4 := Nat.le_trans hz3 M4.size
        have HR4 := Lib.hid (M4.heap HH3.out (by simp))
        clear O4 M4 HO3 HM3 hz3 HH3
        go_wp2_with (at_builtin; refine wpList_appB (by rfl) (.tmp 48) (.tmp 52) rfl (v := v3) (by rfl) HO4.out (by rfl) HX.out.rd (by (rw [twoL_length]; simp; omega)) hz4 ?_; intro v5 w5 O5 M5; have HM5 := Lib.hid (HM4.out.comp M5 (fun k hk => .inr (by have := HO4.out.back hk; have := HG.out; omega))); have HR5 := Lib.hid (M5.heap HR4.out (fun hm => by have := HO4.out.back hm; omega)); have hz5 : g + 1 ≤ w5.heap.size := Nat.le_trans hz4 M5.size; have HO5 := Lib.hid O5; have c24 : w5.cell? ⟨g, 24, none⟩ = some (.int .u16 S.asrt) := ((cell_blk HR5.out 24).trans rfl); clear O5 M5)
        clear HX HO4 HM4 HR4 hz4 q23
        have hlen5 : (A3 ++ twoL [S.states]).length ≤ 300 := by rw [List.length_append, twoL_length]; simp; omega
        generalize hA5 : A3 ++ twoL [S.states] = A5 at HO5 hlen5
        have HA5 := Lib.hid (show headL S (flagS S) ++ nameL S.name ++ twoL [S.states] = A5 by rw [HF.out, HHD.out, hA5])
        clear hA5
        refine (little_ok w5 (S.asrt : Int) 2 (by omega) (by omega)).mono ?_
        rw [leL_two b24]
        rintro e w6 ⟨v6, rfl, O6, M6⟩
        have HX := Lib.hid (show OwnB _ _ _ _ from O6)
        have HO6 := Lib.hid (HO5.out.mods0 M6)
        have HM6 := Lib.hid (HM5.out.trans M6)
        have hz6 := Nat.le_trans hz5 M6.size
        have HR6 := Lib.hid (M6.heap HR5.out (by simp))
        clear O6 M6 HO5 HM5 hz5 HR5
        go_wp2_with (at_builtin; refine wpList_appB (by rfl) (.tmp 88) (.tmp 92) rfl (v := v5) (by rfl) HO6.out (by rfl) HX.out.rd (by (rw [twoL_length]; simp; omega)) hz6 ?_; intro v7 w7 O7 M7; have HM7 := Lib.hid (HM6.out.comp M7 (fun k hk => .inr (by have := HO6.out.back hk; have := HG.out; omega))); have HR7 := Lib.hid (M7.heap HR6.out (fun hm => by have := HO6.out.back hm; omega)); have hz7 : g + 1 ≤ w7.heap.size := Nat.le_trans hz6 M7.size; have HO7 := Lib.hid O7; have c25 : w7.cell? ⟨g, 25, none⟩ = some (.int .u16 S.deas) := ((cell_blk HR7.out 25).trans rfl); clear O7 M7)
        clear HX HO6 HM6 HR6 hz6 c24
        refine (little_ok w7 (S.deas : Int) 2 (by omega) (by omega)).mono ?_
        rw [leL_two b25]
        rintro e w8 ⟨v8, rfl, O8, M8⟩
        have HX := Lib.hid (show OwnB _ _ _ _ from O8)
        have HO8 := Lib.hid (HO7.out.mods0 M8)
        have HM8 := Lib.hid (HM7.out.trans M8)
        have hz8 := Nat.le_trans hz7 M8.size
        have HR8 := Lib.hid (M8.heap HR7.out (by simp))
        clear O8 M8 HO7 HM7 hz7 HR7
        go_wp2_with (at_builtin; refine wpList_appB (by rfl) (.tmp 94) (.tmp 98) rfl (v := v7) (by rfl) HO8.out (by rfl) HX.out.rd (by (rw [List.length_append, twoL_length, twoL_length]; simp; omega)) hz8 ?_; intro v9 w9 O9 M9; have HM9 := Lib.hid (HM8.out.comp M9 (fun k hk => .inr (by have := HO8.out.back hk; have := HG.out; omega))); have HR9 := Lib.hid (M9.heap HR8.out (fun hm => by have := HO8.out.back hm; omega)); have hz9 : g + 1 ≤ w9.heap.size := Nat.le_trans hz8 M9.size; have HO9 := Lib.hid O9; skip; clear O9 M9)
        clear HX HO8 HM8 HR8 hz8 c25
        have hO := HO9.out
        rw [(show A5 ++ twoL [S.asrt] ++ twoL [S.deas] = senL S P by rw [senL, HD.out, if_pos rfl, ← HA5.out]; simp [twoL])] at hO
        refine (refSeal8_ok w9 v9 (senL S P) hO.rd HSB.out.1 (by have := HSB.out.2; omega)).mono ?_
        rintro e w10 ⟨v10, rfl, O10, M10⟩
        have HM10 := Lib.hid (HM9.out.trans M10)
        have HO10 := Lib.hid (owns_down O10 HM9.out.size)
        clear O10 M10 hO HO9 HM9
        go_wp2
        go_ret2
        exact ⟨_, rfl, HO10.out, HM10.out⟩
    | false =>
      rw [hd] at c6
      have HCV := Lib.hid (HCV.out hd)
      cases hh : S.host with
      | false =>
        rw [hh] at c26
        have HF := Lib.hid (show flagS S = (4*S.samples) by unfold flagS; rw [hh, hd]; simp)
        have HD := Lib.hid hd
        clear hh hd
        have MA := (Mods.refl (S := []) (w := w2)).alloc (.cells #[.int .u8 1, .int .u8 (S.number : Int), .int .u8 (S.type : Int), .int .u8 (S.unit : Int), .int .u8 (S.eid : Int), .int .u8 (S.einst : Int), .int .u8 ((4*S.samples)), .int .u8 (S.name.size : Int)] 5)
        have ca3 := MA.cell c3 (by simp)
        go_wp2_with (first | (at_builtin; refine Lib.wpList_append_own_string _ rfl (.tmp 42) (.tmp 44) 33 9 rfl (g + 1) 5 i0 Try.underlying33 Try.underlying9 hi hz0 hz1 hz2 _ 8 (u8s (headL S ((4*S.samples)))) (by rfl) (World.ownsRow_lit w2 #[.int .u8 1, .int .u8 S.number, .int .u8 S.type, .int .u8 S.unit, .int .u8 S.eid, .int .u8 S.einst, .int .u8 ((4*S.samples)), .int .u8 S.name.size] 8 hzz (by decide) rfl) S.name (by rfl) (by unfold maxLen; omega) (by omega) (by simp; omega) ?_; intro v3 w3 O3 G3 _; have HM3 := Lib.hid ((HM.out.trans MA).grown G3 (fun q hq => .inr (by simp [Value.ownBlock] at hq; have := HG.out; omega))); have HH3 : Hid (w3.heap[g]? = some (.cells S.cells 32 (0, 0))) := Lib.hid ((Mods.of_grown G3).heap (MA.heap HH.out (by simp)) (by simp [Value.ownBlock]; omega)); have q6 : w3.cell? ⟨g, 6, none⟩ = some (.bool false) := (by rw [cell_blk HH3.out]; rw [cell_blk HH.out] at c6; exact c6); have q23 : w3.cell? ⟨g, 23, none⟩ = some (.int .u16 S.states) := ((cell_blk HH3.out 23).trans rfl); have hz3 : g + 1 ≤ w3.heap.size := (by have := G3.size; simp at this; omega); have HO3 : Hid (OwnB w3 (g + 1) v3 (headL S ((4*S.samples)) ++ nameL S.name)) := Lib.hid (by unfold OwnB; rw [u8s_length, List.length_append, nameL_length]; have e : u8s (headL S ((4*S.samples)) ++ nameL S.name) = u8s (headL S ((4*S.samples))) ++ Lib.strCells S.name := (by rw [nameL_cells]; simp [u8s]); rw [e]; exact O3); clear G3 O3 MA ca3) | (refine wpList_load_mid rfl 26 (.tmp 55) rfl g 7 (by rfl) S.conv.cells.toList _ (Sen.conv_range HH3.out) Try.underlying26 rfl Try.infoC ?_; rw [Array.toArray_toList]))
        clear q6 c27 c6 c26 c0 c1 c2 c3 c4 c5 HH HM
        have hlen3 : (headL S ((4*S.samples)) ++ nameL S.name).length ≤ 24 := by rw [List.length_append, nameL_length]; simp [headL]; omega
        generalize hhd : headL S ((4*S.samples)) ++ nameL S.name = A3 at HO3 hlen3
        have HHD := Lib.hid hhd
        clear hhd
        refine (refEnc_ok w3 S.conv P (HS.out.conv.mods0 HM3.out)).mono ?_
        rw [HCV.out.1]
        intro e w4 hE
        obtain ⟨v4, rfl, O4, M4⟩ : EncOut _ _ _ _ := hE
        have HX := Lib.hid (show OwnB _ _ _ _ from O4)
        have HO4 := Lib.hid (HO3.out.mods0 M4)
        have HM4 := Lib.hid (HM3.out.trans M4)
        have hz4 := Nat.le_trans hz3 M4.size
        have HR4 := Lib.hid (M4.heap HH3.out (by simp))
        have hlc := HCV.out.2
        clear O4 M4 HO3 HM3 hz3 HH3 q23
        go_wp2_with (first
          | (at_builtin; refine wpList_appB (by rfl) (.tmp 60) (.tmp 61) rfl (v := v3) (by rfl) HO4.out (by rfl) HX.out.rd (by omega) hz4 ?_; intro v5 w5 O5 M5; have HM5 := Lib.hid (HM4.out.comp M5 (fun k hk => .inr (by have := HO4.out.back hk; have := HG.out; omega))); have HR5 := Lib.hid (M5.heap HR4.out (fun hm => by have := HO4.out.back hm; omega)); have hz5 : g + 1 ≤ w5.heap.size := Nat.le_trans hz4 M5.size; have HO5 := Lib.hid O5; have c14 : w5.cell? ⟨g, 14, none⟩ = some (.int .u8 S.mask) := ((cell_blk HR5.out 14).trans rfl); have hlen5 : (A3 ++ convL S.conv P).length ≤ 150 := (by rw [List.length_append]; omega); clear O5 M5)
          | (at_builtin; refine wpList_appB (by rfl) (.tmp 63) (.tmp 67) rfl (v := v5) (by rfl) (HO5.out.mods0 (Mods.refl.alloc _)) (by rfl) (OwnB.lit w5 (Nat.le_refl _) [(S.mask : Int)] (by unfold maxLen; simp)).rd (by (simp only [List.length_cons, List.length_nil]; omega)) (by simp; omega) ?_; intro v6 w6 O6 M6; have HM6 := Lib.hid ((HM5.out.alloc (.cells (u8s [(S.mask : Int)]).toArray 5)).comp M6 (fun k hk => .inr (by have := HO5.out.back hk; have := HG.out; omega))); have HR6 := Lib.hid (M6.heap (heap_alloc (o' := .cells (u8s [(S.mask : Int)]).toArray 5) HR5.out) (fun hm => by have := HO5.out.back hm; omega)); have hz6 : g + 1 ≤ w6.heap.size := Nat.le_trans hz5 (Nat.le_trans ((Mods.refl (S := []) (w := w5)).alloc (.cells (u8s [(S.mask : Int)]).toArray 5)).size M6.size); have HO6 := Lib.hid O6; skip; clear O6 M6)
          | fail)
        clear HX HO4 HM4 HR4 hz4 c14 HO5 HM5 HR5 hz5
        have hlen6 : (A3 ++ convL S.conv P ++ [(S.mask : Int)]).length ≤ 160 := by rw [List.length_append]; simp only [List.length_cons, List.length_nil]; omega
        generalize hA6 : A3 ++ convL S.conv P ++ [(S.mask : Int)] = A6 at HO6 hlen6
        have HA6 := Lib.hid hA6
        clear hA6 hlen5
        go_loopw [5, 8] (fun o i wr => ∃ k : Nat, k ≤ 6 ∧ i = .int .i64 k ∧ OwnB wr (g + 1) o (A6 ++ (rawsL S).take k) ∧ Mods [] w wr ∧ g + 1 ≤ wr.heap.size ∧ wr.heap[g]? = some (.cells S.cells 32 (0, 0))) (fun _ i _ => 6 - (intOf i).toNat)
        case atStart => exact ⟨0, Nat.zero_le _, rfl, by simpa using HO6.out, HM6.out, hz6, HR6.out⟩
        case round =>
          obtain ⟨k, hk, rfl, O, M, hzr, R⟩ := hrel
          clear HO6 HM6 hz6 HR6
          by_cases hlt : k < 6
          · have craw : wr.cell? ⟨g, 15 + k, none⟩ = some (.int .u8 (S.raw k)) := SenBox.craw ⟨R⟩ hlt
            have i1 : (0 : Int) ≤ (k : Int) := by omega
            have i2 : (k : Int) < 6 := by omega
            have HTK : Hid ((rawsL S).take (k + 1) = (rawsL S).take k ++ [(S.raw k : Int)]) := Lib.hid (by
              match k, hlt with
              | 0, _ | 1, _ | 2, _ | 3, _ | 4, _ | 5, _ => rfl)
            have hlk : (A6 ++ (rawsL S).take k).length ≤ 170 := by rw [List.length_append, List.length_take]; omega
            have HO := Lib.hid O
            have HMr := Lib.hid M
            have HR := Lib.hid R
            generalize S.raw k = rr at craw HTK
            clear O M R
            go_wp2_with (first
              | (at_builtin; refine wpList_appB (by rfl) (.tmp 73) (.tmp 79) rfl (v := u5) (by rfl) (HO.out.mods0 (Mods.refl.alloc _)) (by rfl) (OwnB.lit wr (Nat.le_refl _) [(rr : Int)] (by unfold maxLen; simp)).rd (by (simp only [List.length_cons, List.length_nil]; omega)) (by simp; omega) ?_; intro v7 w7 O7 M7; have HM7 := Lib.hid ((HMr.out.alloc (.cells (u8s [(rr : Int)]).toArray 5)).comp M7 (fun k hk => .inr (by have := HO.out.back hk; have := HG.out; omega))); have HR7 := Lib.hid (M7.heap (heap_alloc (o' := .cells (u8s [(rr : Int)]).toArray 5) HR.out) (fun hm => by have := HO.out.back hm; omega)); have hz7 : g + 1 ≤ w7.heap.size := Nat.le_trans hzr (Nat.le_trans ((Mods.refl (S := []) (w := wr)).alloc (.cells (u8s [(rr : Int)]).toArray 5)).size M7.size); have HO7 := Lib.hid O7; skip; clear O7 M7)
              | fail)
            exact ⟨⟨k + 1, by omega, by go_num, by rw [HTK.out, ← List.append_assoc]; exact HO7.out, HM7.out, hz7, HR7.out⟩, by simp only [intOf]; omega⟩
          · have hk6 : k = 6 := by omega
            subst hk6
            have eR : (rawsL S).take 6 = rawsL S := rfl
            rw [eR] at O
            have HO := Lib.hid O
            have HMr := Lib.hid M
            have HR := Lib.hid R
            have c21 : wr.cell? ⟨g, 21, none⟩ = some (.int .u8 S.hl) := (cell_blk R 21).trans rfl
            have c22 : wr.cell? ⟨g, 22, none⟩ = some (.int .u8 S.hu) := (cell_blk R 22).trans rfl
            have hlk : (A6 ++ rawsL S).length ≤ 170 := by simp [rawsL]; omega
            clear O M R eR
            go_wp2_with (first
              | (at_builtin; refine wpList_appB (by rfl) (.tmp 81) (.tmp 86) rfl (v := u5) (by rfl) (HO.out.mods0 (Mods.refl.alloc _)) (by rfl) (OwnB.lit wr (Nat.le_refl _) [(S.hl : Int), (S.hu : Int)] (by unfold maxLen; simp)).rd (by (simp only [List.length_cons, List.length_nil]; omega)) (by simp; omega) ?_; intro v5 w5 O5 M5; have HM5 := Lib.hid ((HMr.out.alloc (.cells (u8s [(S.hl : Int), (S.hu : Int)]).toArray 5)).comp M5 (fun k hk => .inr (by have := HO.out.back hk; have := HG.out; omega))); have HR5 := Lib.hid (M5.heap (heap_alloc (o' := .cells (u8s [(S.hl : Int), (S.hu : Int)]).toArray 5) HR.out) (fun hm => by have := HO.out.back hm; omega)); have hz5 : g + 1 ≤ w5.heap.size := Nat.le_trans hzr (Nat.le_trans ((Mods.refl (S := []) (w := wr)).alloc (.cells (u8s [(S.hl : Int), (S.hu : Int)]).toArray 5)).size M5.size); have HO5 := Lib.hid O5; have c24 : w5.cell? ⟨g, 24, none⟩ = some (.int .u16 S.asrt) := ((cell_blk HR5.out 24).trans rfl); clear O5 M5)
              | fail)
            clear c21 c22 HO HMr HR hzr
            have hlen5 : (A6 ++ rawsL S ++ [(S.hl : Int), (S.hu : Int)]).length ≤ 300 := by rw [List.length_append]; simp only [List.length_cons, List.length_nil]; omega
            generalize hA5 : A6 ++ rawsL S ++ [(S.hl : Int), (S.hu : Int)] = A5 at HO5 hlen5
            have HA5 := Lib.hid (show headL S (flagS S) ++ nameL S.name ++ (convL S.conv P ++ [(S.mask : Int)] ++ rawsL S ++ [(S.hl : Int), (S.hu : Int)]) = A5 by rw [← hA5, ← HA6.out, ← HHD.out, HF.out]; simp)
            clear hA5
            refine (little_ok w5 (S.asrt : Int) 2 (by omega) (by omega)).mono ?_
            rw [leL_two b24]
            rintro e w6 ⟨v6, rfl, O6, M6⟩
            have HX := Lib.hid (show OwnB _ _ _ _ from O6)
            have HO6 := Lib.hid (HO5.out.mods0 M6)
            have HM6 := Lib.hid (HM5.out.trans M6)
            have hz6 := Nat.le_trans hz5 M6.size
            have HR6 := Lib.hid (M6.heap HR5.out (by simp))
            clear O6 M6 HO5 HM5 hz5 HR5
            go_wp2_with (at_builtin; refine wpList_appB (by rfl) (.tmp 88) (.tmp 92) rfl (v := v5) (by rfl) HO6.out (by rfl) HX.out.rd (by (rw [twoL_length]; simp; omega)) hz6 ?_; intro v7 w7 O7 M7; have HM7 := Lib.hid (HM6.out.comp M7 (fun k hk => .inr (by have := HO6.out.back hk; have := HG.out; omega))); have HR7 := Lib.hid (M7.heap HR6.out (fun hm => by have := HO6.out.back hm; omega)); have hz7 : g + 1 ≤ w7.heap.size := Nat.le_trans hz6 M7.size; have HO7 := Lib.hid O7; have c25 : w7.cell? ⟨g, 25, none⟩ = some (.int .u16 S.deas) := ((cell_blk HR7.out 25).trans rfl); clear O7 M7)
            clear HX HO6 HM6 HR6 hz6 c24
            refine (little_ok w7 (S.deas : Int) 2 (by omega) (by omega)).mono ?_
            rw [leL_two b25]
            rintro e w8 ⟨v8, rfl, O8, M8⟩
            have HX := Lib.hid (show OwnB _ _ _ _ from O8)
            have HO8 := Lib.hid (HO7.out.mods0 M8)
            have HM8 := Lib.hid (HM7.out.trans M8)
            have hz8 := Nat.le_trans hz7 M8.size
            have HR8 := Lib.hid (M8.heap HR7.out (by simp))
            clear O8 M8 HO7 HM7 hz7 HR7
            go_wp2_with (at_builtin; refine wpList_appB (by rfl) (.tmp 94) (.tmp 98) rfl (v := v7) (by rfl) HO8.out (by rfl) HX.out.rd (by (rw [List.length_append, twoL_length, twoL_length]; simp; omega)) hz8 ?_; intro v9 w9 O9 M9; have HM9 := Lib.hid (HM8.out.comp M9 (fun k hk => .inr (by have := HO8.out.back hk; have := HG.out; omega))); have HR9 := Lib.hid (M9.heap HR8.out (fun hm => by have := HO8.out.back hm; omega)); have hz9 : g + 1 ≤ w9.heap.size := Nat.le_trans hz8 M9.size; have HO9 := Lib.hid O9; skip; clear O9 M9)
            clear HX HO8 HM8 HR8 hz8 c25
            have hO := HO9.out
            rw [(show A5 ++ twoL [S.asrt] ++ twoL [S.deas] = senL S P by rw [senL, HD.out, if_neg (by simp), ← HA5.out]; simp [twoL])] at hO
            refine (refSeal8_ok w9 v9 (senL S P) hO.rd HSB.out.1 (by have := HSB.out.2; omega)).mono ?_
            rintro e w10 ⟨v10, rfl, O10, M10⟩
            have HM10 := Lib.hid (HM9.out.trans M10)
            have HO10 := Lib.hid (owns_down O10 HM9.out.size)
            clear O10 M10 hO HO9 HM9
            go_wp2
            go_ret2
            exact ⟨_, rfl, HO10.out, HM10.out⟩
      | true =>
        rw [hh] at c26
        have HF := Lib.hid (show flagS S = (4*S.samples+2) by unfold flagS; rw [hh, hd]; simp)
        have HD := Lib.hid hd
        clear hh hd
        have MA := (Mods.refl (S := []) (w := w2)).alloc (.cells #[.int .u8 1, .int .u8 (S.number : Int), .int .u8 (S.type : Int), .int .u8 (S.unit : Int), .int .u8 (S.eid : Int), .int .u8 (S.einst : Int), .int .u8 ((4*S.samples+2)), .int .u8 (S.name.size : Int)] 5)
        have ca3 := MA.cell c3 (by simp)
        go_wp2_with (first | (at_builtin; refine Lib.wpList_append_own_string _ rfl (.tmp 42) (.tmp 44) 33 9 rfl (g + 1) 5 i0 Try.underlying33 Try.underlying9 hi hz0 hz1 hz2 _ 8 (u8s (headL S ((4*S.samples+2)))) (by rfl) (World.ownsRow_lit w2 #[.int .u8 1, .int .u8 S.number, .int .u8 S.type, .int .u8 S.unit, .int .u8 S.eid, .int .u8 S.einst, .int .u8 ((4*S.samples+2)), .int .u8 S.name.size] 8 hzz (by decide) rfl) S.name (by rfl) (by unfold maxLen; omega) (by omega) (by simp; omega) ?_; intro v3 w3 O3 G3 _; have HM3 := Lib.hid ((HM.out.trans MA).grown G3 (fun q hq => .inr (by simp [Value.ownBlock] at hq; have := HG.out; omega))); have HH3 : Hid (w3.heap[g]? = some (.cells S.cells 32 (0, 0))) := Lib.hid ((Mods.of_grown G3).heap (MA.heap HH.out (by simp)) (by simp [Value.ownBlock]; omega)); have q6 : w3.cell? ⟨g, 6, none⟩ = some (.bool false) := (by rw [cell_blk HH3.out]; rw [cell_blk HH.out] at c6; exact c6); have q23 : w3.cell? ⟨g, 23, none⟩ = some (.int .u16 S.states) := ((cell_blk HH3.out 23).trans rfl); have hz3 : g + 1 ≤ w3.heap.size := (by have := G3.size; simp at this; omega); have HO3 : Hid (OwnB w3 (g + 1) v3 (headL S ((4*S.samples+2)) ++ nameL S.name)) := Lib.hid (by unfold OwnB; rw [u8s_length, List.length_append, nameL_length]; have e : u8s (headL S ((4*S.samples+2)) ++ nameL S.name) = u8s (headL S ((4*S.samples+2))) ++ Lib.strCells S.name := (by rw [nameL_cells]; simp [u8s]); rw [e]; exact O3); clear G3 O3 MA ca3) | (refine wpList_load_mid rfl 26 (.tmp 55) rfl g 7 (by rfl) S.conv.cells.toList _ (Sen.conv_range HH3.out) Try.underlying26 rfl Try.infoC ?_; rw [Array.toArray_toList]))
        clear q6 c27 c6 c26 c0 c1 c2 c3 c4 c5 HH HM
        have hlen3 : (headL S ((4*S.samples+2)) ++ nameL S.name).length ≤ 24 := by rw [List.length_append, nameL_length]; simp [headL]; omega
        generalize hhd : headL S ((4*S.samples+2)) ++ nameL S.name = A3 at HO3 hlen3
        have HHD := Lib.hid hhd
        clear hhd
        refine (refEnc_ok w3 S.conv P (HS.out.conv.mods0 HM3.out)).mono ?_
        rw [HCV.out.1]
        intro e w4 hE
        obtain ⟨v4, rfl, O4, M4⟩ : EncOut _ _ _ _ := hE
        have HX := Lib.hid (show OwnB _ _ _ _ from O4)
        have HO4 := Lib.hid (HO3.out.mods0 M4)
        have HM4 := Lib.hid (HM3.out.trans M4)
        have hz4 := Nat.le_trans hz3 M4.size
        have HR4 := Lib.hid (M4.heap HH3.out (by simp))
        have hlc := HCV.out.2
        clear O4 M4 HO3 HM3 hz3 HH3 q23
        go_wp2_with (first
          | (at_builtin; refine wpList_appB (by rfl) (.tmp 60) (.tmp 61) rfl (v := v3) (by rfl) HO4.out (by rfl) HX.out.rd (by omega) hz4 ?_; intro v5 w5 O5 M5; have HM5 := Lib.hid (HM4.out.comp M5 (fun k hk => .inr (by have := HO4.out.back hk; have := HG.out; omega))); have HR5 := Lib.hid (M5.heap HR4.out (fun hm => by have := HO4.out.back hm; omega)); have hz5 : g + 1 ≤ w5.heap.size := Nat.le_trans hz4 M5.size; have HO5 := Lib.hid O5; have c14 : w5.cell? ⟨g, 14, none⟩ = some (.int .u8 S.mask) := ((cell_blk HR5.out 14).trans rfl); have hlen5 : (A3 ++ convL S.conv P).length ≤ 150 := (by rw [List.length_append]; omega); clear O5 M5)
          | (at_builtin; refine wpList_appB (by rfl) (.tmp 63) (.tmp 67) rfl (v := v5) (by rfl) (HO5.out.mods0 (Mods.refl.alloc _)) (by rfl) (OwnB.lit w5 (Nat.le_refl _) [(S.mask : Int)] (by unfold maxLen; simp)).rd (by (simp only [List.length_cons, List.length_nil]; omega)) (by simp; omega) ?_; intro v6 w6 O6 M6; have HM6 := Lib.hid ((HM5.out.alloc (.cells (u8s [(S.mask : Int)]).toArray 5)).comp M6 (fun k hk => .inr (by have := HO5.out.back hk; have := HG.out; omega))); have HR6 := Lib.hid (M6.heap (heap_alloc (o' := .cells (u8s [(S.mask : Int)]).toArray 5) HR5.out) (fun hm => by have := HO5.out.back hm; omega)); have hz6 : g + 1 ≤ w6.heap.size := Nat.le_trans hz5 (Nat.le_trans ((Mods.refl (S := []) (w := w5)).alloc (.cells (u8s [(S.mask : Int)]).toArray 5)).size M6.size); have HO6 := Lib.hid O6; skip; clear O6 M6)
          | fail)
        clear HX HO4 HM4 HR4 hz4 c14 HO5 HM5 HR5 hz5
        have hlen6 : (A3 ++ convL S.conv P ++ [(S.mask : Int)]).length ≤ 160 := by rw [List.length_append]; simp only [List.length_cons, List.length_nil]; omega
        generalize hA6 : A3 ++ convL S.conv P ++ [(S.mask : Int)] = A6 at HO6 hlen6
        have HA6 := Lib.hid hA6
        clear hA6 hlen5
        go_loopw [5, 8] (fun o i wr => ∃ k : Nat, k ≤ 6 ∧ i = .int .i64 k ∧ OwnB wr (g + 1) o (A6 ++ (rawsL S).take k) ∧ Mods [] w wr ∧ g + 1 ≤ wr.heap.size ∧ wr.heap[g]? = some (.cells S.cells 32 (0, 0))) (fun _ i _ => 6 - (intOf i).toNat)
        case atStart => exact ⟨0, Nat.zero_le _, rfl, by simpa using HO6.out, HM6.out, hz6, HR6.out⟩
        case round =>
          obtain ⟨k, hk, rfl, O, M, hzr, R⟩ := hrel
          clear HO6 HM6 hz6 HR6
          by_cases hlt : k < 6
          · have craw : wr.cell? ⟨g, 15 + k, none⟩ = some (.int .u8 (S.raw k)) := SenBox.craw ⟨R⟩ hlt
            have i1 : (0 : Int) ≤ (k : Int) := by omega
            have i2 : (k : Int) < 6 := by omega
            have HTK : Hid ((rawsL S).take (k + 1) = (rawsL S).take k ++ [(S.raw k : Int)]) := Lib.hid (by
              match k, hlt with
              | 0, _ | 1, _ | 2, _ | 3, _ | 4, _ | 5, _ => rfl)
            have hlk : (A6 ++ (rawsL S).take k).length ≤ 170 := by rw [List.length_append, List.length_take]; omega
            have HO := Lib.hid O
            have HMr := Lib.hid M
            have HR := Lib.hid R
            generalize S.raw k = rr at craw HTK
            clear O M R
            go_wp2_with (first
              | (at_builtin; refine wpList_appB (by rfl) (.tmp 73) (.tmp 79) rfl (v := u5) (by rfl) (HO.out.mods0 (Mods.refl.alloc _)) (by rfl) (OwnB.lit wr (Nat.le_refl _) [(rr : Int)] (by unfold maxLen; simp)).rd (by (simp only [List.length_cons, List.length_nil]; omega)) (by simp; omega) ?_; intro v7 w7 O7 M7; have HM7 := Lib.hid ((HMr.out.alloc (.cells (u8s [(rr : Int)]).toArray 5)).comp M7 (fun k hk => .inr (by have := HO.out.back hk; have := HG.out; omega))); have HR7 := Lib.hid (M7.heap (heap_alloc (o' := .cells (u8s [(rr : Int)]).toArray 5) HR.out) (fun hm => by have := HO.out.back hm; omega)); have hz7 : g + 1 ≤ w7.heap.size := Nat.le_trans hzr (Nat.le_trans ((Mods.refl (S := []) (w := wr)).alloc (.cells (u8s [(rr : Int)]).toArray 5)).size M7.size); have HO7 := Lib.hid O7; skip; clear O7 M7)
              | fail)
            exact ⟨⟨k + 1, by omega, by go_num, by rw [HTK.out, ← List.append_assoc]; exact HO7.out, HM7.out, hz7, HR7.out⟩, by simp only [intOf]; omega⟩
          · have hk6 : k = 6 := by omega
            subst hk6
            have eR : (rawsL S).take 6 = rawsL S := rfl
            rw [eR] at O
            have HO := Lib.hid O
            have HMr := Lib.hid M
            have HR := Lib.hid R
            have c21 : wr.cell? ⟨g, 21, none⟩ = some (.int .u8 S.hl) := (cell_blk R 21).trans rfl
            have c22 : wr.cell? ⟨g, 22, none⟩ = some (.int .u8 S.hu) := (cell_blk R 22).trans rfl
            have hlk : (A6 ++ rawsL S).length ≤ 170 := by simp [rawsL]; omega
            clear O M R eR
            go_wp2_with (first
              | (at_builtin; refine wpList_appB (by rfl) (.tmp 81) (.tmp 86) rfl (v := u5) (by rfl) (HO.out.mods0 (Mods.refl.alloc _)) (by rfl) (OwnB.lit wr (Nat.le_refl _) [(S.hl : Int), (S.hu : Int)] (by unfold maxLen; simp)).rd (by (simp only [List.length_cons, List.length_nil]; omega)) (by simp; omega) ?_; intro v5 w5 O5 M5; have HM5 := Lib.hid ((HMr.out.alloc (.cells (u8s [(S.hl : Int), (S.hu : Int)]).toArray 5)).comp M5 (fun k hk => .inr (by have := HO.out.back hk; have := HG.out; omega))); have HR5 := Lib.hid (M5.heap (heap_alloc (o' := .cells (u8s [(S.hl : Int), (S.hu : Int)]).toArray 5) HR.out) (fun hm => by have := HO.out.back hm; omega)); have hz5 : g + 1 ≤ w5.heap.size := Nat.le_trans hzr (Nat.le_trans ((Mods.refl (S := []) (w := wr)).alloc (.cells (u8s [(S.hl : Int), (S.hu : Int)]).toArray 5)).size M5.size); have HO5 := Lib.hid O5; have c24 : w5.cell? ⟨g, 24, none⟩ = some (.int .u16 S.asrt) := ((cell_blk HR5.out 24).trans rfl); clear O5 M5)
              | fail)
            clear c21 c22 HO HMr HR hzr
            have hlen5 : (A6 ++ rawsL S ++ [(S.hl : Int), (S.hu : Int)]).length ≤ 300 := by rw [List.length_append]; simp only [List.length_cons, List.length_nil]; omega
            generalize hA5 : A6 ++ rawsL S ++ [(S.hl : Int), (S.hu : Int)] = A5 at HO5 hlen5
            have HA5 := Lib.hid (show headL S (flagS S) ++ nameL S.name ++ (convL S.conv P ++ [(S.mask : Int)] ++ rawsL S ++ [(S.hl : Int), (S.hu : Int)]) = A5 by rw [← hA5, ← HA6.out, ← HHD.out, HF.out]; simp)
            clear hA5
            refine (little_ok w5 (S.asrt : Int) 2 (by omega) (by omega)).mono ?_
            rw [leL_two b24]
            rintro e w6 ⟨v6, rfl, O6, M6⟩
            have HX := Lib.hid (show OwnB _ _ _ _ from O6)
            have HO6 := Lib.hid (HO5.out.mods0 M6)
            have HM6 := Lib.hid (HM5.out.trans M6)
            have hz6 := Nat.le_trans hz5 M6.size
            have HR6 := Lib.hid (M6.heap HR5.out (by simp))
            clear O6 M6 HO5 HM5 hz5 HR5
            go_wp2_with (at_builtin; refine wpList_appB (by rfl) (.tmp 88) (.tmp 92) rfl (v := v5) (by rfl) HO6.out (by rfl) HX.out.rd (by (rw [twoL_length]; simp; omega)) hz6 ?_; intro v7 w7 O7 M7; have HM7 := Lib.hid (HM6.out.comp M7 (fun k hk => .inr (by have := HO6.out.back hk; have := HG.out; omega))); have HR7 := Lib.hid (M7.heap HR6.out (fun hm => by have := HO6.out.back hm; omega)); have hz7 : g + 1 ≤ w7.heap.size := Nat.le_trans hz6 M7.size; have HO7 := Lib.hid O7; have c25 : w7.cell? ⟨g, 25, none⟩ = some (.int .u16 S.deas) := ((cell_blk HR7.out 25).trans rfl); clear O7 M7)
            clear HX HO6 HM6 HR6 hz6 c24
            refine (little_ok w7 (S.deas : Int) 2 (by omega) (by omega)).mono ?_
            rw [leL_two b25]
            rintro e w8 ⟨v8, rfl, O8, M8⟩
            have HX := Lib.hid (show OwnB _ _ _ _ from O8)
            have HO8 := Lib.hid (HO7.out.mods0 M8)
            have HM8 := Lib.hid (HM7.out.trans M8)
            have hz8 := Nat.le_trans hz7 M8.size
            have HR8 := Lib.hid (M8.heap HR7.out (by simp))
            clear O8 M8 HO7 HM7 hz7 HR7
            go_wp2_with (at_builtin; refine wpList_appB (by rfl) (.tmp 94) (.tmp 98) rfl (v := v7) (by rfl) HO8.out (by rfl) HX.out.rd (by (rw [List.length_append, twoL_length, twoL_length]; simp; omega)) hz8 ?_; intro v9 w9 O9 M9; have HM9 := Lib.hid (HM8.out.comp M9 (fun k hk => .inr (by have := HO8.out.back hk; have := HG.out; omega))); have HR9 := Lib.hid (M9.heap HR8.out (fun hm => by have := HO8.out.back hm; omega)); have hz9 : g + 1 ≤ w9.heap.size := Nat.le_trans hz8 M9.size; have HO9 := Lib.hid O9; skip; clear O9 M9)
            clear HX HO8 HM8 HR8 hz8 c25
            have hO := HO9.out
            rw [(show A5 ++ twoL [S.asrt] ++ twoL [S.deas] = senL S P by rw [senL, HD.out, if_neg (by simp), ← HA5.out]; simp [twoL])] at hO
            refine (refSeal8_ok w9 v9 (senL S P) hO.rd HSB.out.1 (by have := HSB.out.2; omega)).mono ?_
            rintro e w10 ⟨v10, rfl, O10, M10⟩
            have HM10 := Lib.hid (HM9.out.trans M10)
            have HO10 := Lib.hid (owns_down O10 HM9.out.size)
            clear O10 M10 hO HO9 HM9
            go_wp2
            go_ret2
            exact ⟨_, rfl, HO10.out, HM10.out⟩
end Go.Proofs.Ytgjjmiaiclhidaa
