/- The reference's Index: contract. -/
import Derived.Test.YtijjkonephjodaaGreatDoorMoIx
namespace Go.Proofs.YtijjkonephjodaaGreatDoor
open Go.RowKit
set_option linter.unusedVariables false
set_option linter.unusedSimpArgs false
set_option maxRecDepth 100000
set_option maxHeartbeats 4000000 in
theorem refIndex_ok (w : World) (e : Evt) :
    Calls Tryz.prog 68 #[.agg e.cells.toArray] w fun en w' => en = .returned (IdxRes e) ∧ Mods [] w w' := by
  have M0 := Lib.hid ((Mods.refl (S := []) (w := w)).alloc (.cells e.cells.toArray 65))
  obtain ⟨c0, c1, c2, c3, c4, c5, c6, c7, c8, c9⟩ := (EvBox.new w e).cs
  have HR := Lib.hid (show IdxRes e = .tuple #[.int .i64 ((evIx e).1 : Nat), .bool (evIx e).2.1, .bool (evIx e).2.2] from rfl)
  have HE := Lib.hid (show evIx e = if e.typ.val = 1 then (if offX e.d0.val < 6 then (offX e.d0.val, true, true) else (0, false, false))
    else if e.typ.val = 111 ∧ e.d0.val ≤ 14 then (e.d0.val, false, true) else (0, false, false) from rfl)
  have htl := e.typ.isLt
  have hdl := e.d0.isLt
  generalize IdxRes e = V at HR ⊢
  generalize evIx e = I at HR HE
  generalize e.typ.val = tv at c5 HE htl
  generalize e.d0.val = dv at c7 HE hdl
  clear c0 c1 c2 c3 c4 c6 c8 c9
  by_cases h1 : tv = 1
  · subst h1
    rw [if_pos rfl] at HE
    have HB := Lib.hid (fun j (hj : j < offX dv) => show (((dv : Nat) : Int) == 80 + ((offL.getD j 0 : Nat) : Int)) = false from by
      have := offX_lt hj
      simp only [beq_eq_false_iff_ne, ne_eq]
      omega)
    have HA := Lib.hid (fun (h : offX dv < 6) => show (((dv : Nat) : Int) == 80 + ((offL.getD (offX dv) 0 : Nat) : Int)) = true from by
      have := offX_at h
      simp only [beq_iff_eq]
      omega)
    have hx6 := offX_le dv
    generalize offX dv = ox at HB HA HE hx6
    go_enter Tryz.func68, Tryz.ntmps68
    go_upto_region 2 with (fail)
    generalize w.alloc (.cells e.cells.toArray 65) = w0 at M0 c5 c7 ⊢
    go_wp2_with fail
    go_loopw [5] (fun i wr => ∃ k : Nat, k ≤ ox ∧ i = .int .i64 (k : Nat) ∧ Mods [] w0 wr) (fun i _ => 6 - (intOf i).toNat)
    case atStart => exact ⟨0, Nat.zero_le _, rfl, Mods.refl⟩
    case round =>
      obtain ⟨k, hk, rfl, hM⟩ := hrel
      have HM := Lib.hid hM
      have c5 := hM.cell c5 (by simp)
      have c7 := hM.cell c7 (by simp)
      clear hM
      have i0 : (0 : Int) ≤ (k : Int) := by omega
      by_cases hlt : k < 6
      · have i1 : (k : Int) < 6 := by omega
        have HOF := Lib.hid (fun W => offset_ok W k hlt)
        have hol := offL_le k
        have HBk := Lib.hid (HB.out k)
        have HAk := Lib.hid (fun h : k = ox => show (((dv : Nat) : Int) == 80 + ((offL.getD k 0 : Nat) : Int)) = true from by rw [h]; exact HA.out (h ▸ hlt))
        generalize offL.getD k 0 = o at HOF hol HBk HAk
        have hw : IntKind.u8.wrap (80 + ((o : Nat) : Int)) = 80 + ((o : Nat) : Int) := by rw [IntKind.wrap_u8]; omega
        by_cases hkK : k < ox
        · have hd := HBk.out hkK
          go_upto_region 5 with (fail)
          go_quiet ((go_at_call 71; exact quiet_left (HOF.out _)))
          have HMq := Lib.hid (HM.out.drewN nq)
          go_wp2_with fail
          go_roundw
          case rel => exact ⟨k + 1, by omega, by go_num, HMq.out⟩
          case measure => simp [intOf]; omega
        · have hkx : k = ox := by omega
          have hd := HAk.out hkx
          have hx : ox < 6 := by omega
          rw [if_pos hx, ← hkx] at HE
          clear hkx hx HBk HAk HB HA
          go_upto_region 5 with (fail)
          go_quiet ((go_at_call 71; exact quiet_left (HOF.out _)))
          have HMq := Lib.hid (M0.out.trans (HM.out.drewN nq))
          go_wp2_with fail
          go_ret3
          exact ⟨congrArg Ending.returned (HE.out ▸ HR.out : V = .tuple #[.int .i64 (((k, true, true) : Nat × Bool × Bool).1 : Nat), .bool ((k, true, true) : Nat × Bool × Bool).2.1, .bool ((k, true, true) : Nat × Bool × Bool).2.2]).symm, HMq.out⟩
      · have i1 : ¬ (k : Int) < 6 := by omega
        rw [if_neg (show ¬ ox < 6 by omega)] at HE
        have HMq := Lib.hid (M0.out.trans HM.out)
        go_wp2_with fail
        go_ret3
        exact ⟨congrArg Ending.returned (HE.out ▸ HR.out : V = .tuple #[.int .i64 (((0, false, false) : Nat × Bool × Bool).1 : Nat), .bool ((0, false, false) : Nat × Bool × Bool).2.1, .bool ((0, false, false) : Nat × Bool × Bool).2.2]).symm, HMq.out⟩
  · rw [if_neg h1] at HE
    have d1 : (((tv : Nat) : Int) == 1) = false := by simp; omega
    by_cases h2 : tv = 111
    · have d2 : (((tv : Nat) : Int) == 111) = true := by simp; omega
      by_cases h3 : dv ≤ 14
      · rw [if_pos ⟨h2, h3⟩] at HE
        have d3 : decide (((dv : Nat) : Int) ≤ 14) = true := decide_eq_true (by omega)
        have d4 : IntKind.i64.wrap ((dv : Nat) : Int) = ((dv : Nat) : Int) := IntWalk.i64_in _ (by omega)
        clear h1 h2
        go_enter Tryz.func68, Tryz.ntmps68
        go_wp2_with fail
        go_ret3
        exact ⟨congrArg Ending.returned (HE.out ▸ HR.out : V = .tuple #[.int .i64 (((dv, false, true) : Nat × Bool × Bool).1 : Nat), .bool ((dv, false, true) : Nat × Bool × Bool).2.1, .bool ((dv, false, true) : Nat × Bool × Bool).2.2]).symm, M0.out⟩
      · rw [if_neg (fun h => h3 h.2)] at HE
        have d3 : decide (((dv : Nat) : Int) ≤ 14) = false := decide_eq_false (by omega)
        clear h1 h2
        go_enter Tryz.func68, Tryz.ntmps68
        go_wp2_with fail
        go_ret3
        exact ⟨congrArg Ending.returned (HE.out ▸ HR.out : V = .tuple #[.int .i64 (((0, false, false) : Nat × Bool × Bool).1 : Nat), .bool ((0, false, false) : Nat × Bool × Bool).2.1, .bool ((0, false, false) : Nat × Bool × Bool).2.2]).symm, M0.out⟩
    · rw [if_neg (fun h => h2 h.1)] at HE
      have d2 : (((tv : Nat) : Int) == 111) = false := by simp; omega
      go_enter Tryz.func68, Tryz.ntmps68
      go_wp2_with fail
      go_ret3
      exact ⟨congrArg Ending.returned (HE.out ▸ HR.out : V = .tuple #[.int .i64 (((0, false, false) : Nat × Bool × Bool).1 : Nat), .bool ((0, false, false) : Nat × Bool × Bool).2.1, .bool ((0, false, false) : Nat × Bool × Bool).2.2]).symm, M0.out⟩
end Go.Proofs.YtijjkonephjodaaGreatDoor
