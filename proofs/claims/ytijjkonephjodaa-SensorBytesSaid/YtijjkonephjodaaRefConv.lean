/- The reference's Valid of conversions: contract. -/
import Derived.Test.YtijjkonephjodaaConvValid
namespace Go.Proofs.Ytijjkonephjodaa
open Go.RowKit

set_option maxRecDepth 100000 in
set_option maxHeartbeats 4000000 in
theorem refConvLin_ok (w : World) (C : Conv) (P : List Pt) (h : IsConv w C P) (hlin : 1 ≤ C.form ∧ C.form ≤ 4) :
    Calls Try.prog 86 #[.agg C.cells] w fun e w' => e = .returned (.bool (convB C P)) ∧ Mods [] w w' := by
  have hb := h.pok.len
  obtain ⟨ad, cap, hpts⟩ := h.rd.len
  clear h
  have ML := Lib.hid (fun o => (Mods.refl (S := []) (w := w)).alloc o)
  have HB := Lib.hid (show convB C P = (facB C.m && facB C.b && powB C.k1 && powB C.k2 && decide (P.length = 0)) by rw [convB, if_pos hlin])
  obtain ⟨form, sgn, m, b, k1, k2, pts⟩ := C
  simp only at hlin hpts
  subst hpts
  unfold Conv.cells
  simp only at HB ⊢
  obtain ⟨hl1, hl2⟩ := hlin
  go_enter Try.func86, Try.ntmps86
  go_wp2
  all_goals
    go_ret
    exact ⟨ret_bool (by rw [HB.out, Bool.eq_iff_iff]; simp [facB, powB, len0]; omega), ML.out _⟩

theorem refConvB_no {C : Conv} {P : List Pt} (h : ¬ (1 ≤ C.form ∧ C.form ≤ 4)) (h2 : C.form ≠ 5 ∨ C.m ≠ 0 ∨ C.b ≠ 0 ∨ C.k1 ≠ 0 ∨ C.k2 ≠ 0 ∨ P.length < 2 ∨ 12 < P.length) : convB C P = false := by
  rw [convB, if_neg h, tableB]
  cases hd : decide (C.form = 5 ∧ C.m = 0 ∧ C.b = 0 ∧ C.k1 = 0 ∧ C.k2 = 0) with
  | false => rfl
  | true =>
    rw [decide_eq_true_eq] at hd
    rw [decide_eq_false (by omega), Bool.false_and, Bool.and_false]
set_option maxRecDepth 100000 in
set_option maxHeartbeats 4000000 in
theorem refConvNo_ok (w : World) (C : Conv) (P : List Pt) (h : IsConv w C P) (hn : ¬ (1 ≤ C.form ∧ C.form ≤ 4)) (h2 : C.form ≠ 5 ∨ C.m ≠ 0 ∨ C.b ≠ 0 ∨ C.k1 ≠ 0 ∨ C.k2 ≠ 0 ∨ P.length < 2 ∨ 12 < P.length) :
    Calls Try.prog 86 #[.agg C.cells] w fun e w' => e = .returned (.bool (convB C P)) ∧ Mods [] w w' := by
  have hb := h.pok.len
  obtain ⟨ad, cap, hpts⟩ := h.rd.len
  have ML := Lib.hid (fun o => (Mods.refl (S := []) (w := w)).alloc o)
  have HB := Lib.hid (refConvB_no (P := P) hn h2)
  clear h
  have hlin : (decide (1 ≤ C.form) = false) ∨ (decide (1 ≤ C.form) = true ∧ decide (C.form ≤ 4) = false) := by
    by_cases h1 : 1 ≤ C.form
    · exact .inr ⟨decide_eq_true h1, decide_eq_false (by omega)⟩
    · exact .inl (decide_eq_false h1)
  clear hn
  obtain ⟨form, sgn, m, b, k1, k2, pts⟩ := C
  simp only at hlin hpts h2
  subst hpts
  unfold Conv.cells
  simp only at HB ⊢
  rcases hlin with e1 | ⟨e1, e2⟩
  all_goals
    rcases Decidable.em (form = 5 ∧ m = 0 ∧ b = 0 ∧ k1 = 0 ∧ k2 = 0 ∧ 2 ≤ P.length) with hx | hx
  all_goals first
    | (obtain ⟨a1, a2, a3, a4, a5, a6⟩ := hx
       have d1 : (form != 5) = false := by simp [a1]
       have d2 : (m != 0) = false := by simp [a2]
       have d3 : (b != 0) = false := by simp [a3]
       have d4 : (k1 != 0) = false := by simp [a4]
       have d5 : (k2 != 0) = false := by simp [a5]
       have d6 : decide ((P.length : Int) < 2) = false := by simp; omega
       have d7 : decide ((12 : Int) < (P.length : Int)) = true := by simp; omega
       clear a1 a2 a3 a4 a5 h2
       go_enter Try.func86, Try.ntmps86
       go_wp2_with fail
       go_ret
       exact ⟨ret_bool (by rw [HB.out]), ML.out _⟩)
    | skip
  all_goals
    clear h2
    by_cases a1 : form = 5
    · have d1 : (form != 5) = false := by simp [a1]
      by_cases a2 : m = 0
      · have d2 : (m != 0) = false := by simp [a2]
        by_cases a3 : b = 0
        · have d3 : (b != 0) = false := by simp [a3]
          by_cases a4 : k1 = 0
          · have d4 : (k1 != 0) = false := by simp [a4]
            by_cases a5 : k2 = 0
            · have d5 : (k2 != 0) = false := by simp [a5]
              have d6 : decide ((P.length : Int) < 2) = true := by simp; omega
              clear a1 a2 a3 a4 a5
              clear hx
              go_enter Try.func86, Try.ntmps86
              go_wp2_with fail
              go_ret
              exact ⟨ret_bool (by rw [HB.out]), ML.out _⟩
            · have d5 : (k2 != 0) = true := by simp [a5]
              clear a1 a2 a3 a4 a5
              clear hx
              go_enter Try.func86, Try.ntmps86
              go_wp2_with fail
              go_ret
              exact ⟨ret_bool (by rw [HB.out]), ML.out _⟩
          · have d4 : (k1 != 0) = true := by simp [a4]
            clear a1 a2 a3 a4
            clear hx
            go_enter Try.func86, Try.ntmps86
            go_wp2_with fail
            go_ret
            exact ⟨ret_bool (by rw [HB.out]), ML.out _⟩
        · have d3 : (b != 0) = true := by simp [a3]
          clear a1 a2 a3
          clear hx
          go_enter Try.func86, Try.ntmps86
          go_wp2_with fail
          go_ret
          exact ⟨ret_bool (by rw [HB.out]), ML.out _⟩
      · have d2 : (m != 0) = true := by simp [a2]
        clear a1 a2
        clear hx
        go_enter Try.func86, Try.ntmps86
        go_wp2_with fail
        go_ret
        exact ⟨ret_bool (by rw [HB.out]), ML.out _⟩
    · have d1 : (form != 5) = true := by simp [a1]
      clear a1
      clear hx
      go_enter Try.func86, Try.ntmps86
      go_wp2_with fail
      go_ret
      exact ⟨ret_bool (by rw [HB.out]), ML.out _⟩
end Go.Proofs.Ytijjkonephjodaa
