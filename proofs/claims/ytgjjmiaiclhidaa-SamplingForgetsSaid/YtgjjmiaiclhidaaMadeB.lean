/- The dice's Bytes: contract. -/
import Derived.Test.YtgjjmiaiclhidaaBaseI
import Derived.Test.YtgjjmiaiclhidaaBaseA
import Derived.Test.YtgjjmiaiclhidaaBaseE
namespace Go.Proofs.Ytgjjmiaiclhidaa
open Go.RowKit

/-- Bytes of the dice, at most n of them. -/
def MadeB (w : World) (b : Nat) (v : Value) (L : List Int) (N : Int) (e : Ending) (w' : World) : Prop :=
  ∃ (u : Value) (A : List Int) (n : Nat), e = .returned u ∧ OwnB w' w.heap.size u A ∧ Bytes A ∧ (A.length : Int) ≤ N ∧ IsDice w' b v L n ∧ Mods [b] w w'
set_option maxRecDepth 100000 in
set_option maxHeartbeats 2000000 in
theorem bytesM_ok (w : World) (b : Nat) (v : Value) (L : List Int) (n : Nat) (h : IsDice w b v L n) (N : Int) (hN : 0 ≤ N ∧ N ≤ 1000) :
    Calls Try.prog 32 #[.pointer (some ⟨b, 0, none⟩), .int .i64 N] w fun e w' => MadeB w b v L N e w' := by
  have hbl := h.lt
  have H := Lib.hid h
  have hv := Lib.hid h.vlt
  obtain ⟨hN0, hN1⟩ := hN
  clear h
  go_enter Try.func32, Try.ntmps32
  go_wp2_with fail
  refine (next_ok w b v L n H.out (N + 1) (by omega) (by omega)).mono ?_
  rintro e w2 ⟨r, n2, rfl, r0, r1, D2, M2⟩
  have HD := Lib.hid D2
  have HM := Lib.hid M2
  have hw2 := M2.size
  clear D2 M2
  obtain ⟨R, rfl⟩ := Int.eq_ofNat_of_zero_le r0
  go_wp2_with fail
  go_loopw [5, 6] (fun l i wr => ∃ (k : Nat) (A : List Int) (n' : Nat), k + A.length = R ∧ i = .int .i64 k ∧ Bytes A ∧ OwnB wr w2.heap.size l A ∧ IsDice wr b v L n' ∧ Mods [b] w2 wr) (fun _ i _ => (intOf i).toNat)
  case atStart => exact ⟨R, [], n2, by simp, rfl, fun i => by simp, OwnB.nil _ _, HD.out, Mods.refl⟩
  case round =>
    obtain ⟨k, A, n3, hk, rfl, hb, O, D, M⟩ := hrel
    have HB := Lib.hid hb
    have HO := Lib.hid O
    have HD3 := Lib.hid D
    have HM3 := Lib.hid M
    have hwr := M.size
    clear hb O D M
    by_cases h0 : 0 < k
    · have i1 : (0 : Int) < (k : Int) := by omega
      go_wp2_with fail
      refine (byte_ok wr b v L n3 HD3.out).mono ?_
      rintro e w4 ⟨x, n4, rfl, x0, x1, D4, M4⟩
      have HD4 := Lib.hid D4
      have hw4 := M4.size
      have HO4 := Lib.hid (HO.out.mods M4 (fun q hq => by have := (HO.out.lt q hq).1; simp; omega))
      have HM4 := Lib.hid (HM3.out.trans M4)
      clear D4 M4
      go_wp2_with (at_builtin; refine wpList_appB (by rfl) (.tmp 15) (.tmp 18) rfl (by rfl) (HO4.out.mods0 (Mods.refl.alloc _)) (by rfl) (OwnB.lit w4 (Nat.le_refl _) [x] (by unfold maxLen; simp)).rd (by simp; omega) (by simp; omega) ?_; intro vB wB OB MB; have HOB := Lib.hid OB; have HDB := Lib.hid ((HD4.out.mods0 (Mods.refl.alloc _)).mods MB (fun hm => by have := HO4.out.back hm; omega) (fun hl q hq hm => by have h1 := HO4.out.back hm; have h2 := hv.out hl q hq; omega)); have HMB := Lib.hid ((HM4.out.alloc (.cells (u8s [x]).toArray 5)).comp MB (fun q hq => .inr (HO4.out.back hq))); clear OB MB)
      refine ⟨⟨k - 1, A ++ [x], n4, by simp; omega, by go_num, ?_, HOB.out, HDB.out, HMB.out⟩, by simp only [intOf]; omega⟩
      intro i
      have := HB.out
      rcases Nat.lt_trichotomy i A.length with hi | hi | hi
      · have h5 := this i
        rw [List.getD_eq_getElem?_getD, List.getElem?_append_left hi, ← List.getD_eq_getElem?_getD]
        exact h5
      · rw [List.getD_eq_getElem?_getD, hi, List.getElem?_append_right (Nat.le_refl _)]
        simp
        omega
      · rw [List.getD_eq_getElem?_getD, List.getElem?_eq_none (by simp; omega)]
        simp
    · have i1 : ¬ (0 : Int) < (k : Int) := by omega
      go_wp2_with fail
      go_ret
      exact ⟨_, A, n3, rfl, HO.out.down (by omega), HB.out, by omega, HD3.out, HM.out.trans HM3.out⟩
end Go.Proofs.Ytgjjmiaiclhidaa
