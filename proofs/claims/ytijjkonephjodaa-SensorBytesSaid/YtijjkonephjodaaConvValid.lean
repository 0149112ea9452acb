/- convert.Valid: contract. -/
import Derived.Test.YtijjkonephjodaaTable
namespace Go.Proofs.Ytijjkonephjodaa
open Go.RowKit

theorem len0 (n : Nat) : ((n : Int) == 0) = decide (n = 0) := by rw [Bool.eq_iff_iff]; simp
set_option maxRecDepth 100000 in
set_option maxHeartbeats 4000000 in
theorem convValid_ok (w : World) (C : Conv) (P : List Pt) (h : IsConv w C P) :
    Calls Try.prog 84 #[.agg C.cells] w fun e w' => e = .returned (.bool (convB C P)) ∧ Mods [] w w' := by
  have H := Lib.hid h
  have hb := h.pok.len
  obtain ⟨ad, cap, hpts⟩ := h.rd.len
  clear h
  have ML := Lib.hid (fun o => (Mods.refl (S := []) (w := w)).alloc o)
  by_cases hlin : 1 ≤ C.form ∧ C.form ≤ 4
  · have HB := Lib.hid (show convB C P = (facB C.m && facB C.b && powB C.k1 && powB C.k2 && decide (P.length = 0)) by rw [convB, if_pos hlin])
    obtain ⟨form, sgn, m, b, k1, k2, pts⟩ := C
    simp only at hlin hpts
    subst hpts
    unfold Conv.cells
    simp only at HB ⊢
    generalize hfm : facB m = fm at HB
    generalize hfb : facB b = fb at HB
    generalize hf1 : powB k1 = f1 at HB
    generalize hf2 : powB k2 = f2 at HB
    have HM := Lib.hid hfm
    have HBB := Lib.hid hfb
    have H1 := Lib.hid hf1
    have H2 := Lib.hid hf2
    clear hfm hfb hf1 hf2 H
    obtain ⟨hl1, hl2⟩ := hlin
    go_enter Try.func84, Try.ntmps84
    go_wp2_with fail
    all_goals
      refine (factor_ok m _).mono ?_
      rw [HM.out]
      rintro e w' ⟨rfl, rfl⟩
      cases fm
      · go_wp2_with fail
        go_ret
        exact ⟨ret_bool (by rw [HB.out]; simp), ML.out _⟩
      · go_wp2_with fail
        refine (factor_ok b _).mono ?_
        rw [HBB.out]
        rintro e w' ⟨rfl, rfl⟩
        cases fb
        · go_wp2_with fail
          go_ret
          exact ⟨ret_bool (by rw [HB.out]; simp), ML.out _⟩
        · go_wp2_with fail
          refine (power_ok k1 _).mono ?_
          rw [H1.out]
          rintro e w' ⟨rfl, rfl⟩
          cases f1
          · go_wp2_with fail
            go_ret
            exact ⟨ret_bool (by rw [HB.out]; simp), ML.out _⟩
          · go_wp2_with fail
            refine (power_ok k2 _).mono ?_
            rw [H2.out]
            rintro e w' ⟨rfl, rfl⟩
            cases f2
            · go_wp2_with fail
              go_ret
              exact ⟨ret_bool (by rw [HB.out]; simp), ML.out _⟩
            · go_wp2_with fail
              go_ret
              exact ⟨ret_bool (by rw [HB.out, len0]; simp only [Bool.true_and]), ML.out _⟩
  · have HB := Lib.hid (show convB C P = (decide (C.form = 5 ∧ C.m = 0 ∧ C.b = 0 ∧ C.k1 = 0 ∧ C.k2 = 0) && tableB C.sgn P) by rw [convB, if_neg hlin])
    have HT := Lib.hid (fun W (hm : Mods [] w W) => table_ok W C P (H.out.mods0 hm))
    obtain ⟨form, sgn, m, b, k1, k2, pts⟩ := C
    simp only at hlin hpts
    subst hpts
    unfold Conv.cells at HT ⊢
    simp only at HB HT ⊢
    clear H
    have e1 : (form == 1) = false := by simp; omega
    have e2 : (form == 2) = false := by simp; omega
    have e3 : (form == 3) = false := by simp; omega
    have e4 : (form == 4) = false := by simp; omega
    clear hlin
    by_cases h5 : form = 5
    · have HB := Lib.hid (show convB ⟨form, sgn, m, b, k1, k2, .slice ad P.length cap⟩ P = (decide (m = 0 ∧ b = 0 ∧ k1 = 0 ∧ k2 = 0) && tableB sgn P) by rw [HB.out]; simp [h5])
      have e5 : (form == 5) = true := by simp [h5]
      clear h5
      by_cases hm : m = 0
      · by_cases hbb : b = 0
        · by_cases h1 : k1 = 0
          · by_cases h2 : k2 = 0
            · have HB := Lib.hid (show convB ⟨form, sgn, m, b, k1, k2, .slice ad P.length cap⟩ P = tableB sgn P by rw [HB.out]; simp [hm, hbb, h1, h2])
              have d1 : (m == 0) = true := by simp [hm]
              have d2 : (b == 0) = true := by simp [hbb]
              have d3 : (k1 == 0) = true := by simp [h1]
              have d4 : (k2 == 0) = true := by simp [h2]
              clear hm hbb h1 h2
              go_enter Try.func84, Try.ntmps84
              go_wp2_with fail
              refine (HT.out _ (ML.out _)).mono ?_
              rintro e w2 ⟨rfl, hm2⟩
              go_wp2_with fail
              go_ret
              exact ⟨ret_bool (by rw [HB.out]), (ML.out _).trans hm2⟩
            · have HB := Lib.hid (show convB ⟨form, sgn, m, b, k1, k2, .slice ad P.length cap⟩ P = false by rw [HB.out]; simp; omega)
              go_enter Try.func84, Try.ntmps84
              go_wp2_with fail
              go_ret
              exact ⟨ret_bool (by rw [HB.out]), ML.out _⟩
          · have HB := Lib.hid (show convB ⟨form, sgn, m, b, k1, k2, .slice ad P.length cap⟩ P = false by rw [HB.out]; simp; omega)
            go_enter Try.func84, Try.ntmps84
            go_wp2_with fail
            go_ret
            exact ⟨ret_bool (by rw [HB.out]), ML.out _⟩
        · have HB := Lib.hid (show convB ⟨form, sgn, m, b, k1, k2, .slice ad P.length cap⟩ P = false by rw [HB.out]; simp; omega)
          go_enter Try.func84, Try.ntmps84
          go_wp2_with fail
          go_ret
          exact ⟨ret_bool (by rw [HB.out]), ML.out _⟩
      · have HB := Lib.hid (show convB ⟨form, sgn, m, b, k1, k2, .slice ad P.length cap⟩ P = false by rw [HB.out]; simp; omega)
        go_enter Try.func84, Try.ntmps84
        go_wp2_with fail
        go_ret
        exact ⟨ret_bool (by rw [HB.out]), ML.out _⟩
    · have HB := Lib.hid (show convB ⟨form, sgn, m, b, k1, k2, .slice ad P.length cap⟩ P = false by rw [HB.out]; simp; omega)
      go_enter Try.func84, Try.ntmps84
      go_wp2_with fail
      go_ret
      exact ⟨ret_bool (by rw [HB.out]), ML.out _⟩
end Go.Proofs.Ytijjkonephjodaa
