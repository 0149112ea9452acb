/- The reference's Valid of tables: contract. -/
import Derived.Test.YtijjkonephjodaaRefConv
namespace Go.Proofs.Ytijjkonephjodaa
open Go.RowKit

set_option maxRecDepth 100000 in
set_option maxHeartbeats 4000000 in
theorem refConvTab_ok (w : World) (C : Conv) (P : List Pt) (h : IsConv w C P) (hf : C.form = 5) (hm : C.m = 0) (hbz : C.b = 0) (h1 : C.k1 = 0) (h2 : C.k2 = 0) (hl1 : 2 ≤ P.length) (hl2 : P.length ≤ 12) :
    Calls Try.prog 86 #[.agg C.cells] w fun e w' => e = .returned (.bool (convB C P)) ∧ Mods [] w w' := by
  have HB := Lib.hid (show convB C P = tableB C.sgn P by rw [convB, if_neg (by omega), decide_eq_true ⟨hf, hm, hbz, h1, h2⟩, Bool.true_and])
  obtain ⟨rd, pok, _, _, _, _, _⟩ := h
  have RD := Lib.hid rd
  obtain ⟨ad, cap, hpts, hc1, hc2, _⟩ := rd
  have hc3 : cap ≤ 9223372036854775807 := hc2
  have hb := pok.len
  have PO := Lib.hid pok
  clear pok hc2
  obtain ⟨form, sgn, m, b, k1, k2, pts⟩ := C
  simp only at hf hm hbz h1 h2 hpts HB RD
  subst hf hm hbz h1 h2 hpts
  unfold Conv.cells
  simp only
  have e1 : decide ((P.length : Int) < 2) = false := by simp; omega
  have e2 : decide ((12 : Int) < (P.length : Int)) = false := by simp; omega
  go_enter Try.func86, Try.ntmps86
  go_wp2_with fail
  have H0 := heap_alloc_new w (.cells #[.int .i64 5, .bool sgn, .int .i64 0, .int .i64 0, .int .i64 0, .int .i64 0, .slice ad P.length cap] 26)
  have M0 := (Mods.refl (S := []) (w := w)).alloc (.cells #[.int .i64 5, .bool sgn, .int .i64 0, .int .i64 0, .int .i64 0, .int .i64 0, .slice ad P.length cap] 26)
  generalize w.alloc (.cells #[.int .i64 5, .bool sgn, .int .i64 0, .int .i64 0, .int .i64 0, .int .i64 0, .slice ad P.length cap] 26) = w1 at H0 M0 ⊢
  generalize w.heap.size = g at H0 ⊢
  go_loopw [3] (fun i wr => ∃ k : Nat, k ≤ P.length ∧ i = .int .i64 k ∧ Mods [] w wr ∧ wr.heap[g]? = some (.cells #[.int .i64 5, .bool sgn, .int .i64 0, .int .i64 0, .int .i64 0, .int .i64 0, .slice ad P.length cap] 26 (0, 0)) ∧ Hid (∀ j, j < k → ptB sgn P j = true)) (fun i _ => P.length - (intOf i).toNat)
  case atStart => exact ⟨0, Nat.zero_le _, rfl, M0, H0, fun j hj => by omega⟩
  case round =>
    obtain ⟨k, hk, rfl, M1, H1, hs⟩ := hrel
    clear M0 H0
    have z1 : wr.cell? ⟨g, 1, none⟩ = some (.bool sgn) := cell_blk H1 1
    have z6 : wr.cell? ⟨g, 6, none⟩ = some (.slice ad P.length cap) := cell_blk H1 6
    by_cases hlt : k < P.length
    · obtain ⟨_, _, he, _, _, hc⟩ := RD.out.mods0 M1
      obtain ⟨bb, off, rfl, x0, x1⟩ := hc k hlt
      injection he with he1 he2 he3
      subst he1 he3
      clear hc he2
      have HR := PO.out.raw k
      obtain ⟨p, hp⟩ : ∃ p, p = P.getD k default := ⟨_, rfl⟩
      rw [← hp] at x0 x1 HR
      have HP := Lib.hid hp
      clear hp
      obtain ⟨raw, val⟩ := p
      simp only at x0 x1 HR
      have i1 : (0 : Int) ≤ (k : Int) := by omega
      have i2 : (k : Int) < (P.length : Int) := by omega
      have MM := Lib.hid M1
      have HH := Lib.hid H1
      clear M1 H1
      by_cases hv : -1000000000000 ≤ val ∧ val ≤ 1000000000000
      · have v1 : decide (val < -1000000000000) = false := by simp; omega
        have v2 : decide (1000000000000 < val) = false := by simp; omega
        have HV := Lib.hid hv
        clear hv
        by_cases h0 : k = 0
        · have e3 : decide ((0 : Int) < (k : Int)) = false := by simp; omega
          have e4 : decide (0 < k) = false := by simp; omega
          have HQ := Lib.hid (show ptB sgn P k = true by simp only [ptB, ← HP.out]; simp [HV.out, h0])
          clear h0
          go_wp2_with fail
          go_quiet (fail)
          go_wp2
          go_roundw
          case rel => exact ⟨k + 1, by omega, by go_num, MM.out.drewN _, HH.out, fun j hj => by
            rcases Nat.lt_or_ge j k with h | h
            · exact hs.out j h
            · obtain rfl : j = k := by omega
              exact HQ.out⟩
          case measure => simp [intOf]; omega
        · have e3 : decide ((0 : Int) < (k : Int)) = true := by simp; omega
          have e4 : decide (0 < k) = true := by simp; omega
          obtain ⟨_, _, he, _, _, hc⟩ := RD.out.mods0 MM.out
          obtain ⟨_, _, hz, u0, _⟩ := hc (k - 1) (by omega)
          injection he with he1 he2 he3
          subst he1
          injection hz with hz1
          injection hz1 with hz2 hz3
          subst hz2 hz3
          clear hc he2 he3
          have HR2 := PO.out.raw (k - 1)
          obtain ⟨q, hq⟩ : ∃ q, q = P.getD (k - 1) default := ⟨_, rfl⟩
          rw [← hq] at u0 HR2
          have HQ2 := Lib.hid hq
          clear hq
          obtain ⟨raw2, val2⟩ := q
          simp only at u0 HR2
          have j2 : (0 : Int) ≤ (k : Int) - 1 := by omega
          have j3 : (k : Int) - 1 < (P.length : Int) := by omega
          have j4 : ((k : Int) - 1).toNat = k - 1 := by omega
          by_cases hlt2 : numI sgn raw2 < numI sgn raw
          · have e5 : decide (numI sgn raw ≤ numI sgn raw2) = false := by simp; omega
            have HQ := Lib.hid (show ptB sgn P k = true by simp only [ptB, ← HP.out, ← HQ2.out]; simp [HV.out, hlt2])
            have j1 : IntKind.i64.wrap ((k : Int) - 1) = (k : Int) - 1 := IntWalk.i64_in _ (by omega)
            clear h0 hlt2
            go_wp2_with fail
            go_quiet ((go_at_call 105; exact quiet_left (refNumber_ok _ _ (by assumption) _)))
            clear j1 j2 j3 j4
            go_wp2
            go_roundw
            case rel => exact ⟨k + 1, by omega, by go_num, MM.out.drewN _, HH.out, fun j hj => by
              rcases Nat.lt_or_ge j k with h | h
              · exact hs.out j h
              · obtain rfl : j = k := by omega
                exact HQ.out⟩
            case measure => simp [intOf]; omega
          · have e5 : decide (numI sgn raw ≤ numI sgn raw2) = true := by simp; omega
            have HQ := Lib.hid (show ptB sgn P k = false by simp only [ptB, ← HP.out, ← HQ2.out]; simp [hlt2, h0])
            have HF := Lib.hid (tableB_false hlt HQ.out)
            have j1 : IntKind.i64.wrap ((k : Int) - 1) = (k : Int) - 1 := IntWalk.i64_in _ (by omega)
            clear h0 hlt2
            go_wp2_with fail
            go_quiet ((go_at_call 105; exact quiet_left (refNumber_ok _ _ (by assumption) _)))
            clear j1 j2 j3 j4
            go_wp2
            go_ret
            exact ⟨ret_bool (by rw [HB.out, HF.out]), MM.out.drewN _⟩
      · have HQ := Lib.hid (show ptB sgn P k = false by simp only [ptB, ← HP.out]; simp only [decide_eq_false hv, Bool.false_and])
        have HF := Lib.hid (tableB_false hlt HQ.out)
        by_cases hv1 : val < -1000000000000
        · have v1 : decide (val < -1000000000000) = true := by simpa using hv1
          clear hv hv1
          go_wp2
          go_ret
          exact ⟨ret_bool (by rw [HB.out, HF.out]), MM.out⟩
        · have v1 : decide (val < -1000000000000) = false := by simpa using hv1
          have v2 : decide (1000000000000 < val) = true := by simp; omega
          clear hv hv1
          go_wp2
          go_ret
          exact ⟨ret_bool (by rw [HB.out, HF.out]), MM.out⟩
    · have HF := Lib.hid (show tableB sgn P = true by
        simp only [tableB, Bool.and_eq_true, decide_eq_true_eq, List.all_eq_true]
        exact ⟨⟨hl1, hl2⟩, fun j hj => hs.out j (by have := List.mem_range.1 hj; omega)⟩)
      go_wp2
      go_ret
      exact ⟨ret_bool (by rw [HB.out, HF.out]), M1⟩

theorem refConvValid_ok (w : World) (C : Conv) (P : List Pt) (h : IsConv w C P) :
    Calls Try.prog 86 #[.agg C.cells] w fun e w' => e = .returned (.bool (convB C P)) ∧ Mods [] w w' := by
  by_cases hlin : 1 ≤ C.form ∧ C.form ≤ 4
  · exact refConvLin_ok w C P h hlin
  · by_cases h2 : C.form ≠ 5 ∨ C.m ≠ 0 ∨ C.b ≠ 0 ∨ C.k1 ≠ 0 ∨ C.k2 ≠ 0 ∨ P.length < 2 ∨ 12 < P.length
    · exact refConvNo_ok w C P h hlin h2
    · exact refConvTab_ok w C P h (by omega) (by omega) (by omega) (by omega) (by omega) (by omega) (by omega)
end Go.Proofs.Ytijjkonephjodaa
