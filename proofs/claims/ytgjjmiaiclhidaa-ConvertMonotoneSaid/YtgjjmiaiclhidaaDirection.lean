/- convert.Direction: contract. -/
import Derived.Test.YtgjjmiaiclhidaaNearest
import Derived.BigGuardPart
namespace Go.Proofs.Ytgjjmiaiclhidaa
open Go.RowKit

theorem getLast_take {l : List Pt} {j : Nat} (h : j < l.length) : (l.take (j + 1)).getLast? = some (l.getD j default) := by
  rw [take_snocP h, List.getLast?_append]; rfl
theorem rise_step {l : List Pt} {j : Nat} (h : j + 1 < l.length) : riseL (l.take (j + 1 + 1)) = (riseL (l.take (j + 1)) || decide ((l.getD j default).val < (l.getD (j + 1) default).val)) := by
  rw [take_snocP h, riseL_snoc, getLast_take (by omega)]
theorem fall_step {l : List Pt} {j : Nat} (h : j + 1 < l.length) : fallL (l.take (j + 1 + 1)) = (fallL (l.take (j + 1)) || decide ((l.getD (j + 1) default).val < (l.getD j default).val)) := by
  rw [take_snocP h, fallL_snoc, getLast_take (by omega)]
theorem rise_one (l : List Pt) : riseL (l.take 1) = false := by
  cases l with
  | nil => rfl
  | cons p l => rfl
theorem fall_one (l : List Pt) : fallL (l.take 1) = false := by
  cases l with
  | nil => rfl
  | cons p l => rfl
set_option maxRecDepth 100000 in
set_option maxHeartbeats 4000000 in
theorem direction_ok (w : World) (C : Conv) (P : List Pt) (hC : IsConv w C P) :
    Calls Try.prog 55 #[.agg C.cells] w fun e w' => e = .returned (.tuple #[.int .i64 (dirI C P).1, .int .i64 (dirI C P).2]) ∧ Mods [] w w' := by
  have HC := Lib.hid hC
  have HR0 := Lib.hid (heap_alloc_new w (.cells C.cells 26))
  have HM0 := Lib.hid ((Mods.refl (S := []) (w := w)).alloc (.cells C.cells 26))
  have HN := Lib.hid (show dirI C P = if convB C P then (if fallL (prA C P) = false then (1, 0) else if riseL (prA C P) = false then (-1, 0) else (0, 0)) else (0, 1) from rfl)
  have CV := Lib.hid (fun W (M : Mods [] w W) => convValid_ok W C P (HC.out.mods0 M))
  clear hC
  generalize dirI C P = N at HN ⊢
  cases hb : convB C P with
  | false =>
    rw [hb] at CV
    have HR := Lib.hid (HN.out.trans (if_neg (by rw [hb]; decide)))
    clear hb
    go_enter Try.func55, Try.ntmps55
    go_wp2_with (refine wpList_load_conv rfl (.tmp 1) rfl HR0.out (by rfl) ?_)
    refine (CV.out _ HM0.out).mono ?_
    rintro e w1 ⟨rfl, M1⟩
    go_wp2_with fail
    go_ret2
    exact ⟨ret_two HR.out, HM0.out.trans M1⟩
  | true =>
    rw [hb] at CV
    have HVS := Lib.hid (fun W (M : Mods [] w W) => values_ok W C P (HC.out.mods0 M) hb)
    have HPN := Lib.hid (prA_len C P)
    replace HN := Lib.hid (HN.out.trans (if_pos hb))
    clear hb
    generalize prA C P = l at *
    go_enter Try.func55, Try.ntmps55
    go_wp2_with (refine wpList_load_conv rfl (.tmp 1) rfl HR0.out (by rfl) ?_)
    refine (CV.out _ HM0.out).mono ?_
    rintro e w1 ⟨rfl, M1⟩
    have HM1 := Lib.hid (HM0.out.trans M1)
    have HR1' := Lib.hid (M1.heap HR0.out (by simp))
    clear M1
    go_wp2_with (refine wpList_load_conv rfl (.tmp 1) rfl HR1'.out (by rfl) ?_)
    refine (HVS.out _ HM1.out).mono ?_
    rintro e w2 ⟨vl, rfl, O2, M2⟩
    have HM2 := Lib.hid (HM1.out.trans M2)
    have HRD := Lib.hid O2.rd
    obtain ⟨ad, cap, rfl, _⟩ := O2.rd
    clear M2 HR1' HVS CV O2 HM0 HR0 HM1
    have hn256 := HPN.out
    go_wp2_with fail
    go_loopw [4, 5, 7] (fun r f i wr => ∃ j : Nat, (j + 1 ≤ l.length ∨ j = 0) ∧ i = .int .i64 ((j : Int) + 1) ∧ r = .bool (riseL (l.take (j + 1))) ∧ f = .bool (fallL (l.take (j + 1))) ∧ Mods [] w2 wr) (fun _ _ i _ => 257 - (intOf i).toNat)
    case atStart => exact ⟨0, .inr rfl, rfl, by rw [rise_one], by rw [fall_one], Mods.refl⟩
    case round =>
      obtain ⟨j, hj, rfl, rfl, rfl, M⟩ := hrel
      by_cases hlt : j + 1 < l.length
      · have i1 : (j : Int) + 1 < (l.length : Int) := by omega
        have i2 : (0 : Int) ≤ (j : Int) + 1 := by omega
        have i3 : ((j : Int) + 1).toNat = j + 1 := by omega
        have i4 : (j : Int) < (l.length : Int) := by omega
        have HRS := Lib.hid (rise_step hlt)
        have HFS := Lib.hid (fall_step hlt)
        obtain ⟨bl, off, he, hz1, hz2, hbl, hc⟩ := HRD.out.at (show 0 < l.length by omega)
        have c1 := M.cell (hc (j + 1) hlt).2 (by simp)
        have c0 := M.cell (hc j (by omega)).2 (by simp)
        subst he
        have HM := Lib.hid M
        have e1 : ptV l (j + 1) = (l.getD (j + 1) default).val := rfl
        have e0 : ptV l j = (l.getD j default).val := rfl
        rw [e1] at c1
        rw [e0] at c0
        clear M hc e1 e0
        generalize (l.getD (j + 1) default).val = x1 at *
        generalize (l.getD j default).val = x0 at *
        have i5 : (j : Int) + 1 - 1 = (j : Int) := by omega
        have i6 : ((j : Int) + 1 - 1).toNat = j := by omega
        have i7 : (0 : Int) ≤ (j : Int) + 1 - 1 := by omega
        have i8 : (j : Int) + 1 - 1 < (l.length : Int) := by omega
        have i9 : IntKind.i64.wrap ((j : Int) + 1 - 1) = (j : Int) := by rw [i5]; exact IntWalk.i64_in _ (by omega)
        generalize riseL (l.take (j + 1)) = rb at *
        generalize fallL (l.take (j + 1)) = fb at *
        cases rb <;> cases fb
        all_goals
          go_wp2_with fail
          go_quiet (fail)
          go_wp2_with fail
          go_quiet (fail)
          go_wp2_with fail
          exact ⟨⟨j + 1, .inl hlt, by go_num, by rw [HRS.out]; first | rfl | simp, by rw [HFS.out]; first | rfl | simp, by first | exact (HM.out.drewN _).drewN _ | exact HM.out.drewN _⟩, by simp only [intOf]; omega⟩
      · have i1 : ¬ (j : Int) + 1 < (l.length : Int) := by omega
        have htk : l.take (j + 1) = l := List.take_of_length_le (by omega)
        rw [htk]
        have HM := Lib.hid (HM2.out.trans M)
        clear M htk
        cases hf : fallL l with
        | false =>
          have HR := Lib.hid (HN.out.trans (if_pos hf))
          go_wp2_with fail
          go_ret2
          exact ⟨ret_two HR.out, HM.out⟩
        | true =>
          have HN1 := Lib.hid (HN.out.trans (if_neg (by rw [hf]; decide)))
          cases hr : riseL l with
          | false =>
            have HR := Lib.hid (HN1.out.trans (if_pos hr))
            go_wp2_with fail
            go_ret2
            exact ⟨ret_two HR.out, HM.out⟩
          | true =>
            have HR := Lib.hid (HN1.out.trans (if_neg (by rw [hr]; decide)))
            go_wp2_with fail
            go_ret2
            exact ⟨ret_two HR.out, HM.out⟩
end Go.Proofs.Ytgjjmiaiclhidaa
