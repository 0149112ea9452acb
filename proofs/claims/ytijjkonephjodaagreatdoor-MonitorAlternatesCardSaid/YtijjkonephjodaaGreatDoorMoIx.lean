/- event.Index and the reference's: contracts. -/
import Derived.Test.YtijjkonephjodaaGreatDoorMoEv
namespace Go.Proofs.YtijjkonephjodaaGreatDoor
open Go.RowKit
set_option linter.unusedVariables false
set_option linter.unusedSimpArgs false
set_option maxRecDepth 100000
def idxL (A : List Int) (x : Int) : Nat := A.findIdx fun y => decide (y = x)
set_option maxHeartbeats 2000000 in
theorem slIdx_ok (w : World) (A : List Int) (v : Value) (hv : Rd w v (u8s A)) (x : Int) :
    Calls Tryz.prog 58 #[v, .int .u8 x] w fun en w' => en = .returned (.int .i64 (if idxL A x = A.length then (-1 : Int) else ((idxL A x : Nat) : Int))) ∧ ∃ n, w' = w.drewN n := by
  obtain ⟨ad, cap, rfl, hcap1, hcap2, hc⟩ := hv.u8
  have hcap2 : cap ≤ 9223372036854775807 := hcap2
  obtain ⟨K, hK⟩ : ∃ K, K = idxL A x := ⟨_, rfl⟩
  have hKl : K ≤ A.length := hK ▸ List.findIdx_le_length
  have HB := Lib.hid (fun j (hj : j < K) => show (x == A.getD j 0) = false from by
    have hj2 : j < A.length := by omega
    have := List.not_of_lt_findIdx (p := fun y : Int => decide (y = x)) (xs := A) (i := j) (by rw [hK] at hj; exact hj)
    rw [List.getD_eq_getElem?_getD, List.getElem?_eq_getElem hj2]
    simp only [decide_eq_true_eq, Bool.not_eq_true, decide_eq_false_iff_not] at this
    simp only [Option.getD_some, beq_eq_false_iff_ne, ne_eq]
    exact fun h => this h.symm)
  have HA := Lib.hid (fun (h : K < A.length) => show (x == A.getD K 0) = true from by
    have := List.findIdx_getElem (p := fun y : Int => decide (y = x)) (xs := A) (w := by rw [hK] at h; exact h)
    rw [List.getD_eq_getElem?_getD, List.getElem?_eq_getElem h]
    subst hK
    simp only [decide_eq_true_eq] at this
    simp only [Option.getD_some, beq_iff_eq]
    exact this.symm)
  have HC := Lib.hid hc
  have HI := Lib.hid (show (if idxL A x = A.length then (-1 : Int) else ((idxL A x : Nat) : Int)) = if K = A.length then -1 else (K : Int) by rw [← hK])
  generalize (if idxL A x = A.length then (-1 : Int) else ((idxL A x : Nat) : Int)) = V at HI ⊢
  clear hv hK hc
  go_enter Tryz.func58, Tryz.ntmps58
  go_wp2_with fail
  go_loopw [8] (fun i wr => ∃ k : Nat, k ≤ K ∧ i = .int .i64 k ∧ wr = w) (fun i _ => K - (intOf i).toNat)
  case atStart => exact ⟨0, Nat.zero_le _, rfl, rfl⟩
  case round =>
    obtain ⟨k, hk, rfl, hwr⟩ := hrel
    subst hwr
    have i0 : (0 : Int) ≤ (k : Int) := by omega
    by_cases hlt : k < A.length
    · have i1 : (k : Int) < (A.length : Int) := by omega
      obtain ⟨bb, off, rfl, hx⟩ := HC.out k hlt
      have HBk := Lib.hid (HB.out k)
      have HAk := Lib.hid (fun h : k = K => show (x == A.getD k 0) = true from by rw [h]; exact HA.out (h ▸ hlt))
      generalize A.getD k 0 = y at hx HBk HAk
      by_cases hkK : k < K
      · have hd := HBk.out hkK
        go_wp2_with fail
        go_roundw
        case rel => exact ⟨k + 1, by omega, by go_num, by first | rfl | trivial⟩
        case measure => simp [intOf]; omega
      · obtain rfl : k = K := by omega
        have hd := HAk.out rfl
        have HRES := Lib.hid (show V = (k : Int) by rw [HI.out, if_neg (by omega)])
        go_wp2_with fail
        go_ret
        exact ⟨ret_int HRES.out.symm, 0, rfl⟩
    · obtain rfl : k = A.length := by omega
      have i1 : ¬ ((A.length : Nat) : Int) < ((A.length : Nat) : Int) := by omega
      have HRES := Lib.hid (show V = -1 by rw [HI.out, if_pos (by omega)])
      go_wp2_with fail
      go_ret
      exact ⟨ret_int HRES.out.symm, 0, rfl⟩
theorem quietDrewX {P : Program} {f : FuncId} {args : Array Value} {w : World} {n : Nat} {v : Value}
    (h : Calls P f args (w.drewN n) fun e w' => e = .returned v ∧ ∃ m, w' = (w.drewN n).drewN m) : Calls P f args (w.drewN n) fun e w'' => e = .returned v ∧ ∃ m, w'' = w.drewN m := Calls.quiet_of h
/-- The place of a threshold's offset. -/
def offX (d : Nat) : Nat := offL.findIdx fun o => decide (d = 80 + o)
theorem offX_eq : ∀ d : Fin 256, idxL offI (IntKind.u8.wrap ((d.val : Int) - 80)) = offX d.val := by decide +kernel
theorem offX_le (d : Nat) : offX d ≤ 6 := List.findIdx_le_length
theorem offX_lt {d j : Nat} (h : j < offX d) : ¬ d = 80 + offL.getD j 0 := by
  have hj : j < offL.length := Nat.lt_of_lt_of_le h List.findIdx_le_length
  have := List.not_of_lt_findIdx (p := fun o => decide (d = 80 + o)) (xs := offL) (i := j) h
  rw [List.getD_eq_getElem?_getD, List.getElem?_eq_getElem hj]
  simpa using this
theorem offX_at {d : Nat} (h : offX d < 6) : d = 80 + offL.getD (offX d) 0 := by
  have := List.findIdx_getElem (p := fun o => decide (d = 80 + o)) (xs := offL) (w := h)
  rw [List.getD_eq_getElem?_getD, List.getElem?_eq_getElem h]
  exact of_decide_eq_true this
/-- Which threshold or state an event is about. -/
def evIx (e : Evt) : Nat × Bool × Bool :=
  if e.typ.val = 1 then (if offX e.d0.val < 6 then (offX e.d0.val, true, true) else (0, false, false))
  else if e.typ.val = 111 ∧ e.d0.val ≤ 14 then (e.d0.val, false, true) else (0, false, false)
theorem evIx_le (e : Evt) : (evIx e).1 ≤ 14 := by
  unfold evIx
  split
  · split <;> simp <;> omega
  · split
    · rename_i h; exact h.2
    · simp
def IdxRes (e : Evt) : Value := .tuple #[.int .i64 ((evIx e).1 : Nat), .bool (evIx e).2.1, .bool (evIx e).2.2]
theorem OffAt.rd {w : World} (h : OffAt w) : Rd w (.slice (some ⟨0, 0, none⟩) 6 6) (u8s offI) := by
  refine ⟨some ⟨0, 0, none⟩, 6, rfl, by decide, by unfold maxLen; decide, fun i hi => ⟨0, 0, rfl, ?_⟩⟩
  have hi : i < 6 := hi
  rw [Nat.zero_add, h i hi]
  match i, hi with
  | 0, _ | 1, _ | 2, _ | 3, _ | 4, _ | 5, _ => rfl
set_option maxHeartbeats 4000000 in
theorem index_ok (w : World) (hO : OffAt w) (e : Evt) :
    Calls Tryz.prog 20 #[.agg e.cells.toArray] w fun en w' => en = .returned (IdxRes e) ∧ Mods [] w w' := by
  have M0 := Lib.hid ((Mods.refl (S := []) (w := w)).alloc (.cells e.cells.toArray 65))
  obtain ⟨c0, c1, c2, c3, c4, c5, c6, c7, c8, c9⟩ := (EvBox.new w e).cs
  have HO := Lib.hid ((hO.mods0 M0.out).rd)
  have HX := Lib.hid (offX_eq e.d0)
  have HR := Lib.hid (show IdxRes e = .tuple #[.int .i64 ((evIx e).1 : Nat), .bool (evIx e).2.1, .bool (evIx e).2.2] from rfl)
  have HE := Lib.hid (show evIx e = if e.typ.val = 1 then (if offX e.d0.val < 6 then (offX e.d0.val, true, true) else (0, false, false))
    else if e.typ.val = 111 ∧ e.d0.val ≤ 14 then (e.d0.val, false, true) else (0, false, false) from rfl)
  have htl := e.typ.isLt
  have hdl := e.d0.isLt
  generalize IdxRes e = V at HR ⊢
  generalize evIx e = I at HR HE
  generalize e.typ.val = tv at c5 HE htl
  generalize e.d0.val = dv at c7 HE HX hdl
  clear c0 c1 c2 c3 c4 c6 c8 c9 hO
  by_cases h1 : tv = 1
  · subst h1
    rw [if_pos rfl] at HE
    have HS := Lib.hid (fun (W : World) (M : ∃ n, W = (w.alloc (.cells e.cells.toArray 65)).drewN n) => show Calls Tryz.prog 58 #[.slice (some ⟨0, 0, none⟩) 6 6, .int .u8 (IntKind.u8.wrap ((dv : Int) - 80))] W fun en w' => en = .returned (.int .i64 (if offX dv = 6 then (-1 : Int) else ((offX dv : Nat) : Int))) ∧ ∃ n, w' = W.drewN n from by
      obtain ⟨n, rfl⟩ := M
      have h := slIdx_ok _ offI _ (HO.out.mods0 (Mods.refl.drewN n)) (IntKind.u8.wrap ((dv : Int) - 80))
      rw [HX.out] at h
      exact h)
    have hx6 := offX_le dv
    generalize offX dv = ox at HS HE hx6
    go_enter Tryz.func20, Tryz.ntmps20
    go_upto_region 2 with (fail)
    generalize w.alloc (.cells e.cells.toArray 65) = w0 at M0 c5 c7 HS ⊢
    go_quiet ((go_at_call 58; exact quietDrewX (HS.out _ ⟨_, rfl⟩)))
    have HM := Lib.hid (M0.out.drewN nq)
    clear HS M0
    by_cases h6 : ox < 6
    · rw [if_pos h6] at HE
      rw [if_neg (show ¬ ox = 6 by omega)]
      have o0 : (0 : Int) ≤ ((ox : Nat) : Int) := by omega
      go_wp2_with fail
      go_ret3
      exact ⟨congrArg Ending.returned (HE.out ▸ HR.out : V = .tuple #[.int .i64 ((((ox, true, true) : Nat × Bool × Bool).1 : Nat) : Int), .bool ((ox, true, true) : Nat × Bool × Bool).2.1, .bool ((ox, true, true) : Nat × Bool × Bool).2.2]).symm, HM.out⟩
    · rw [if_neg h6] at HE
      rw [if_pos (show ox = 6 by omega)]
      go_wp2_with fail
      go_ret3
      exact ⟨congrArg Ending.returned (HE.out ▸ HR.out : V = .tuple #[.int .i64 ((((0, false, false) : Nat × Bool × Bool).1 : Nat) : Int), .bool ((0, false, false) : Nat × Bool × Bool).2.1, .bool ((0, false, false) : Nat × Bool × Bool).2.2]).symm, HM.out⟩
  · rw [if_neg h1] at HE
    have d1 : (((tv : Nat) : Int) == 1) = false := by simp; omega
    by_cases h2 : tv = 111
    · have d2 : (((tv : Nat) : Int) == 111) = true := by simp; omega
      by_cases h3 : dv ≤ 14
      · rw [if_pos ⟨h2, h3⟩] at HE
        have d3 : decide (((dv : Nat) : Int) ≤ 14) = true := decide_eq_true (by omega)
        have d4 : IntKind.i64.wrap ((dv : Nat) : Int) = ((dv : Nat) : Int) := IntWalk.i64_in _ (by omega)
        clear h1 h2
        go_enter Tryz.func20, Tryz.ntmps20
        go_wp2_with fail
        go_ret3
        exact ⟨congrArg Ending.returned (HE.out ▸ HR.out : V = .tuple #[.int .i64 (((dv, false, true) : Nat × Bool × Bool).1 : Nat), .bool ((dv, false, true) : Nat × Bool × Bool).2.1, .bool ((dv, false, true) : Nat × Bool × Bool).2.2]).symm, M0.out⟩
      · rw [if_neg (fun h => h3 h.2)] at HE
        have d3 : decide (((dv : Nat) : Int) ≤ 14) = false := decide_eq_false (by omega)
        clear h1 h2
        go_enter Tryz.func20, Tryz.ntmps20
        go_wp2_with fail
        go_ret3
        exact ⟨congrArg Ending.returned (HE.out ▸ HR.out : V = .tuple #[.int .i64 (((0, false, false) : Nat × Bool × Bool).1 : Nat), .bool ((0, false, false) : Nat × Bool × Bool).2.1, .bool ((0, false, false) : Nat × Bool × Bool).2.2]).symm, M0.out⟩
    · rw [if_neg (fun h => h2 h.1)] at HE
      have d2 : (((tv : Nat) : Int) == 111) = false := by simp; omega
      go_enter Tryz.func20, Tryz.ntmps20
      go_wp2_with fail
      go_ret3
      exact ⟨congrArg Ending.returned (HE.out ▸ HR.out : V = .tuple #[.int .i64 (((0, false, false) : Nat × Bool × Bool).1 : Nat), .bool ((0, false, false) : Nat × Bool × Bool).2.1, .bool ((0, false, false) : Nat × Bool × Bool).2.2]).symm, M0.out⟩
end Go.Proofs.YtijjkonephjodaaGreatDoor
