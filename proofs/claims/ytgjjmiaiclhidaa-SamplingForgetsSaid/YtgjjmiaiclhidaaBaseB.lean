/- Joined texts. convert.Valid: contract. | convert.Valid: contract. | The reference's Valid of conversions: contract. | The reference's Valid of tables: contract. -/
import Derived.Test.YtgjjmiaiclhidaaBaseA
import Derived.BigGuardPart
namespace Go.Proofs.Ytgjjmiaiclhidaa
open Go.RowKit

theorem clamp_same {v : Int} : (clampI v != v) = !decide (-1000000000000 ≤ v ∧ v ≤ 1000000000000) := by
  unfold clampI
  rw [Bool.eq_iff_iff]
  simp
  omega
theorem tableB_false {sgn : Bool} {P : List Pt} {k : Nat} (hk : k < P.length) (h : ptB sgn P k = false) : tableB sgn P = false := by
  cases ht : tableB sgn P with
  | false => rfl
  | true =>
    simp only [tableB, Bool.and_eq_true, List.all_eq_true] at ht
    rw [ht.2 k (List.mem_range.2 hk)] at h
    cases h
set_option maxRecDepth 100000 in
set_option maxHeartbeats 2000000 in
theorem table_ok (w : World) (C : Conv) (P : List Pt) (h : IsConv w C P) :
    Calls Try.prog 97 #[.agg C.cells] w fun e w' => e = .returned (.bool (tableB C.sgn P)) ∧ Mods [] w w' := by
  obtain ⟨rd, pok, _, _, _, _, _⟩ := h
  obtain ⟨form, sgn, m, b, k1, k2, pts⟩ := C
  simp only at rd
  have RD := Lib.hid rd
  obtain ⟨ad, cap, rfl, hc1, hc2, _⟩ := rd
  have hc3 : cap ≤ 9223372036854775807 := hc2
  have hb := pok.len
  have PO := Lib.hid pok
  clear pok hc2
  unfold Conv.cells
  simp only
  by_cases hl : 2 ≤ P.length ∧ P.length ≤ 12
  · obtain ⟨hl1, hl2⟩ := hl
    have e1 : decide ((P.length : Int) < 2) = false := by simp; omega
    have e2 : decide ((12 : Int) < (P.length : Int)) = false := by simp; omega
    go_enter Try.func97, Try.ntmps97
    go_wp2_with fail
    have H0 := heap_alloc_new w (.cells #[.int .i64 form, .bool sgn, .int .i64 m, .int .i64 b, .int .i64 k1, .int .i64 k2, .slice ad P.length cap] 26)
    have M0 := (Mods.refl (S := []) (w := w)).alloc (.cells #[.int .i64 form, .bool sgn, .int .i64 m, .int .i64 b, .int .i64 k1, .int .i64 k2, .slice ad P.length cap] 26)
    generalize w.alloc (.cells #[.int .i64 form, .bool sgn, .int .i64 m, .int .i64 b, .int .i64 k1, .int .i64 k2, .slice ad P.length cap] 26) = w1 at H0 M0 ⊢
    generalize w.heap.size = g at H0 ⊢
    go_loopw [18] (fun i wr => ∃ k : Nat, k ≤ P.length ∧ i = .int .i64 k ∧ Mods [] w wr ∧ wr.heap[g]? = some (.cells #[.int .i64 form, .bool sgn, .int .i64 m, .int .i64 b, .int .i64 k1, .int .i64 k2, .slice ad P.length cap] 26 (0, 0)) ∧ Hid (∀ j, j < k → ptB sgn P j = true)) (fun i _ => P.length - (intOf i).toNat)
    case atStart => exact ⟨0, Nat.zero_le _, rfl, M0, H0, fun j hj => by omega⟩
    case round =>
      obtain ⟨k, hk, rfl, M1, H1, hs⟩ := hrel
      clear M0 H0
      by_cases hlt : k < P.length
      · obtain ⟨_, _, he, _, _, hc⟩ := RD.out.mods0 M1
        obtain ⟨bb, off, rfl, x0, x1⟩ := hc k hlt
        injection he with he1 he2 he3
        subst he1 he3
        clear hc he2
        have HR := PO.out.raw k
        obtain ⟨p, hp⟩ : ∃ p, p = P.getD k default := ⟨_, rfl⟩
        rw [← hp] at x0 x1 HR
        have HP := Lib.hid hp
        clear hp
        obtain ⟨raw, val⟩ := p
        simp only at x0 x1 HR
        have i1 : (0 : Int) ≤ (k : Int) := by omega
        have i2 : (k : Int) < (P.length : Int) := by omega
        go_wp2_with fail
        have H2 := heap_alloc_new wr (.cells #[.int .u8 raw, .int .i64 val] 72)
        have M2 := (Mods.refl (S := []) (w := wr)).alloc (.cells #[.int .u8 raw, .int .i64 val] 72)
        generalize wr.alloc (.cells #[.int .u8 raw, .int .i64 val] 72) = w2 at H2 M2 ⊢
        generalize wr.heap.size = g2 at H2 ⊢
        have H1 := M2.heap H1 (by simp)
        have y0 : w2.cell? ⟨g2, 0, none⟩ = some (.int .u8 raw) := cell_blk H2 0
        have y1 : w2.cell? ⟨g2, 1, none⟩ = some (.int .i64 val) := cell_blk H2 1
        have z1 : w2.cell? ⟨g, 1, none⟩ = some (.bool sgn) := cell_blk H1 1
        have z6 : w2.cell? ⟨g, 6, none⟩ = some (.slice (some ⟨bb, off, none⟩) P.length cap) := cell_blk H1 6
        have MM := Lib.hid (M1.trans M2)
        have HH := Lib.hid H1
        clear x0 x1 M1 M2 H1 H2
        have hcl := clamp_same (v := val)
        by_cases hv : -1000000000000 ≤ val ∧ val ≤ 1000000000000
        · rw [decide_eq_true hv, Bool.not_true] at hcl
          have HV := Lib.hid hv
          clear hv
          by_cases h0 : k = 0
          · have e3 : decide ((0 : Int) < (k : Int)) = false := by simp; omega
            have HQ := Lib.hid (show ptB sgn P k = true by simp only [ptB, ← HP.out]; simp [HV.out, h0])
            have e4 : decide (0 < k) = false := by simp; omega
            clear h0
            go_quiet ((go_at_call 99; exact quiet_left (clamp_ok _ _)))
            go_wp2
            go_roundw
            case rel => exact ⟨k + 1, by omega, by go_num, MM.out.drewN _, HH.out, fun j hj => by
              rcases Nat.lt_or_ge j k with h | h
              · exact hs.out j h
              · obtain rfl : j = k := by omega
                exact HQ.out⟩
            case measure => simp [intOf]; omega
          · have e3 : decide ((0 : Int) < (k : Int)) = true := by simp; omega
            have e4 : decide (0 < k) = true := by simp; omega
            obtain ⟨_, _, he, _, _, hc⟩ := RD.out.mods0 MM.out
            obtain ⟨_, _, hz, u0, _⟩ := hc (k - 1) (by omega)
            injection he with he1 he2 he3
            subst he1
            injection hz with hz1
            injection hz1 with hz2 hz3
            subst hz2 hz3
            clear hc he2 he3
            have HR2 := PO.out.raw (k - 1)
            obtain ⟨q, hq⟩ : ∃ q, q = P.getD (k - 1) default := ⟨_, rfl⟩
            rw [← hq] at u0 HR2
            have HQ2 := Lib.hid hq
            clear hq
            obtain ⟨raw2, val2⟩ := q
            simp only at u0 HR2
            have j1 : IntKind.i64.wrap ((k : Int) - 1) = (k : Int) - 1 := IntWalk.i64_in _ (by omega)
            have j2 : (0 : Int) ≤ (k : Int) - 1 := by omega
            have j3 : (k : Int) - 1 < (P.length : Int) := by omega
            have j4 : ((k : Int) - 1).toNat = k - 1 := by omega
            by_cases hlt2 : numI sgn raw2 < numI sgn raw
            · have e5 : decide (numI sgn raw ≤ numI sgn raw2) = false := by simp; omega
              have HQ := Lib.hid (show ptB sgn P k = true by simp only [ptB, ← HP.out, ← HQ2.out]; simp [HV.out, hlt2])
              clear h0 hlt2
              go_quiet ((first
                | (go_at_call 99; exact quiet_left (clamp_ok _ _))
                | (go_at_call 47; exact quiet_left (number_ok _ _ (by assumption) _))))
              clear j1 j2 j3 j4
              go_wp2
              go_roundw
              case rel => exact ⟨k + 1, by omega, by go_num, MM.out.drewN _, HH.out, fun j hj => by
                rcases Nat.lt_or_ge j k with h | h
                · exact hs.out j h
                · obtain rfl : j = k := by omega
                  exact HQ.out⟩
              case measure => simp [intOf]; omega
            · have e5 : decide (numI sgn raw ≤ numI sgn raw2) = true := by simp; omega
              have HQ := Lib.hid (show ptB sgn P k = false by simp only [ptB, ← HP.out, ← HQ2.out]; simp [hlt2, h0])
              have HF := Lib.hid (tableB_false hlt HQ.out)
              clear h0 hlt2
              go_quiet ((first
                | (go_at_call 99; exact quiet_left (clamp_ok _ _))
                | (go_at_call 47; exact quiet_left (number_ok _ _ (by assumption) _))))
              clear j1 j2 j3 j4
              go_wp2
              go_ret
              exact ⟨ret_bool (by rw [HF.out]), MM.out.drewN _⟩
        · rw [decide_eq_false hv, Bool.not_false] at hcl
          have HQ := Lib.hid (show ptB sgn P k = false by simp only [ptB, ← HP.out]; simp only [decide_eq_false hv, Bool.false_and])
          have HF := Lib.hid (tableB_false hlt HQ.out)
          clear hv
          go_quiet ((go_at_call 99; exact quiet_left (clamp_ok _ _)))
          go_wp2
          go_ret
          exact ⟨ret_bool (by rw [HF.out]), MM.out.drewN _⟩
      · have HF := Lib.hid (show tableB sgn P = true by
          simp only [tableB, Bool.and_eq_true, decide_eq_true_eq, List.all_eq_true]
          exact ⟨⟨hl1, hl2⟩, fun j hj => hs.out j (by have := List.mem_range.1 hj; omega)⟩)
        go_wp2
        go_ret
        exact ⟨ret_bool (by rw [HF.out]), M1⟩
  · have HF := Lib.hid (show tableB sgn P = false by simp only [tableB, decide_eq_false hl, Bool.false_and])
    by_cases hl1 : P.length < 2
    · have e1 : decide ((P.length : Int) < 2) = true := by simp; omega
      go_enter Try.func97, Try.ntmps97
      go_wp2_with fail
      go_ret
      exact ⟨ret_bool (by rw [HF.out]), Mods.refl.alloc _⟩
    · have e1 : decide ((P.length : Int) < 2) = false := by simp; omega
      have e2 : decide ((12 : Int) < (P.length : Int)) = true := by simp; omega
      go_enter Try.func97, Try.ntmps97
      go_wp2_with fail
      go_ret
      exact ⟨ret_bool (by rw [HF.out]), Mods.refl.alloc _⟩
end Go.Proofs.Ytgjjmiaiclhidaa

namespace Go.Proofs.Ytgjjmiaiclhidaa
open Go.RowKit

theorem len0 (n : Nat) : ((n : Int) == 0) = decide (n = 0) := by rw [Bool.eq_iff_iff]; simp
set_option maxRecDepth 100000 in
set_option maxHeartbeats 4000000 in
theorem convValid_ok (w : World) (C : Conv) (P : List Pt) (h : IsConv w C P) :
    Calls Try.prog 45 #[.agg C.cells] w fun e w' => e = .returned (.bool (convB C P)) ∧ Mods [] w w' := by
  have H := Lib.hid h
  have hb := h.pok.len
  obtain ⟨ad, cap, hpts⟩ := h.rd.len
  clear h
  have ML := Lib.hid (fun o => (Mods.refl (S := []) (w := w)).alloc o)
  by_cases hlin : 1 ≤ C.form ∧ C.form ≤ 4
  · have HB := Lib.hid (show convB C P = (facB C.m && facB C.b && powB C.k1 && powB C.k2 && decide (P.length = 0)) by rw [convB, if_pos hlin])
    obtain ⟨form, sgn, m, b, k1, k2, pts⟩ := C
    simp only at hlin hpts
    subst hpts
    unfold Conv.cells
    simp only at HB ⊢
    generalize hfm : facB m = fm at HB
    generalize hfb : facB b = fb at HB
    generalize hf1 : powB k1 = f1 at HB
    generalize hf2 : powB k2 = f2 at HB
    have HM := Lib.hid hfm
    have HBB := Lib.hid hfb
    have H1 := Lib.hid hf1
    have H2 := Lib.hid hf2
    clear hfm hfb hf1 hf2 H
    obtain ⟨hl1, hl2⟩ := hlin
    go_enter Try.func45, Try.ntmps45
    go_wp2_with fail
    all_goals
      refine (factor_ok m _).mono ?_
      rw [HM.out]
      rintro e w' ⟨rfl, rfl⟩
      cases fm
      · go_wp2_with fail
        go_ret
        exact ⟨ret_bool (by rw [HB.out]; simp), ML.out _⟩
      · go_wp2_with fail
        refine (factor_ok b _).mono ?_
        rw [HBB.out]
        rintro e w' ⟨rfl, rfl⟩
        cases fb
        · go_wp2_with fail
          go_ret
          exact ⟨ret_bool (by rw [HB.out]; simp), ML.out _⟩
        · go_wp2_with fail
          refine (power_ok k1 _).mono ?_
          rw [H1.out]
          rintro e w' ⟨rfl, rfl⟩
          cases f1
          · go_wp2_with fail
            go_ret
            exact ⟨ret_bool (by rw [HB.out]; simp), ML.out _⟩
          · go_wp2_with fail
            refine (power_ok k2 _).mono ?_
            rw [H2.out]
            rintro e w' ⟨rfl, rfl⟩
            cases f2
            · go_wp2_with fail
              go_ret
              exact ⟨ret_bool (by rw [HB.out]; simp), ML.out _⟩
            · go_wp2_with fail
              go_ret
              exact ⟨ret_bool (by rw [HB.out, len0]; simp only [Bool.true_and]), ML.out _⟩
  · have HB := Lib.hid (show convB C P = (decide (C.form = 5 ∧ C.m = 0 ∧ C.b = 0 ∧ C.k1 = 0 ∧ C.k2 = 0) && tableB C.sgn P) by rw [convB, if_neg hlin])
    have HT := Lib.hid (fun W (hm : Mods [] w W) => table_ok W C P (H.out.mods0 hm))
    obtain ⟨form, sgn, m, b, k1, k2, pts⟩ := C
    simp only at hlin hpts
    subst hpts
    unfold Conv.cells at HT ⊢
    simp only at HB HT ⊢
    clear H
    have e1 : (form == 1) = false := by simp; omega
    have e2 : (form == 2) = false := by simp; omega
    have e3 : (form == 3) = false := by simp; omega
    have e4 : (form == 4) = false := by simp; omega
    clear hlin
    by_cases h5 : form = 5
    · have HB := Lib.hid (show convB ⟨form, sgn, m, b, k1, k2, .slice ad P.length cap⟩ P = (decide (m = 0 ∧ b = 0 ∧ k1 = 0 ∧ k2 = 0) && tableB sgn P) by rw [HB.out]; simp [h5])
      have e5 : (form == 5) = true := by simp [h5]
      clear h5
      by_cases hm : m = 0
      · by_cases hbb : b = 0
        · by_cases h1 : k1 = 0
          · by_cases h2 : k2 = 0
            · have HB := Lib.hid (show convB ⟨form, sgn, m, b, k1, k2, .slice ad P.length cap⟩ P = tableB sgn P by rw [HB.out]; simp [hm, hbb, h1, h2])
              have d1 : (m == 0) = true := by simp [hm]
              have d2 : (b == 0) = true := by simp [hbb]
              have d3 : (k1 == 0) = true := by simp [h1]
              have d4 : (k2 == 0) = true := by simp [h2]
              clear hm hbb h1 h2
              go_enter Try.func45, Try.ntmps45
              go_wp2_with fail
              refine (HT.out _ (ML.out _)).mono ?_
              rintro e w2 ⟨rfl, hm2⟩
              go_wp2_with fail
              go_ret
              exact ⟨ret_bool (by rw [HB.out]), (ML.out _).trans hm2⟩
            · have HB := Lib.hid (show convB ⟨form, sgn, m, b, k1, k2, .slice ad P.length cap⟩ P = false by rw [HB.out]; simp; omega)
              go_enter Try.func45, Try.ntmps45
              go_wp2_with fail
              go_ret
              exact ⟨ret_bool (by rw [HB.out]), ML.out _⟩
          · have HB := Lib.hid (show convB ⟨form, sgn, m, b, k1, k2, .slice ad P.length cap⟩ P = false by rw [HB.out]; simp; omega)
            go_enter Try.func45, Try.ntmps45
            go_wp2_with fail
            go_ret
            exact ⟨ret_bool (by rw [HB.out]), ML.out _⟩
        · have HB := Lib.hid (show convB ⟨form, sgn, m, b, k1, k2, .slice ad P.length cap⟩ P = false by rw [HB.out]; simp; omega)
          go_enter Try.func45, Try.ntmps45
          go_wp2_with fail
          go_ret
          exact ⟨ret_bool (by rw [HB.out]), ML.out _⟩
      · have HB := Lib.hid (show convB ⟨form, sgn, m, b, k1, k2, .slice ad P.length cap⟩ P = false by rw [HB.out]; simp; omega)
        go_enter Try.func45, Try.ntmps45
        go_wp2_with fail
        go_ret
        exact ⟨ret_bool (by rw [HB.out]), ML.out _⟩
    · have HB := Lib.hid (show convB ⟨form, sgn, m, b, k1, k2, .slice ad P.length cap⟩ P = false by rw [HB.out]; simp; omega)
      go_enter Try.func45, Try.ntmps45
      go_wp2_with fail
      go_ret
      exact ⟨ret_bool (by rw [HB.out]), ML.out _⟩
end Go.Proofs.Ytgjjmiaiclhidaa

namespace Go.Proofs.Ytgjjmiaiclhidaa
open Go.RowKit

set_option maxRecDepth 100000 in
set_option maxHeartbeats 4000000 in
theorem refConvLin_ok (w : World) (C : Conv) (P : List Pt) (h : IsConv w C P) (hlin : 1 ≤ C.form ∧ C.form ≤ 4) :
    Calls Try.prog 46 #[.agg C.cells] w fun e w' => e = .returned (.bool (convB C P)) ∧ Mods [] w w' := by
  have hb := h.pok.len
  obtain ⟨ad, cap, hpts⟩ := h.rd.len
  clear h
  have ML := Lib.hid (fun o => (Mods.refl (S := []) (w := w)).alloc o)
  have HB := Lib.hid (show convB C P = (facB C.m && facB C.b && powB C.k1 && powB C.k2 && decide (P.length = 0)) by rw [convB, if_pos hlin])
  obtain ⟨form, sgn, m, b, k1, k2, pts⟩ := C
  simp only at hlin hpts
  subst hpts
  unfold Conv.cells
  simp only at HB ⊢
  obtain ⟨hl1, hl2⟩ := hlin
  go_enter Try.func46, Try.ntmps46
  go_wp2
  all_goals
    go_ret
    exact ⟨ret_bool (by rw [HB.out, Bool.eq_iff_iff]; simp [facB, powB, len0]; omega), ML.out _⟩

theorem refConvB_no {C : Conv} {P : List Pt} (h : ¬ (1 ≤ C.form ∧ C.form ≤ 4)) (h2 : C.form ≠ 5 ∨ C.m ≠ 0 ∨ C.b ≠ 0 ∨ C.k1 ≠ 0 ∨ C.k2 ≠ 0 ∨ P.length < 2 ∨ 12 < P.length) : convB C P = false := by
  rw [convB, if_neg h, tableB]
  cases hd : decide (C.form = 5 ∧ C.m = 0 ∧ C.b = 0 ∧ C.k1 = 0 ∧ C.k2 = 0) with
  | false => rfl
  | true =>
    rw [decide_eq_true_eq] at hd
    rw [decide_eq_false (by omega), Bool.false_and, Bool.and_false]
set_option maxRecDepth 100000 in
set_option maxHeartbeats 4000000 in
theorem refConvNo_ok (w : World) (C : Conv) (P : List Pt) (h : IsConv w C P) (hn : ¬ (1 ≤ C.form ∧ C.form ≤ 4)) (h2 : C.form ≠ 5 ∨ C.m ≠ 0 ∨ C.b ≠ 0 ∨ C.k1 ≠ 0 ∨ C.k2 ≠ 0 ∨ P.length < 2 ∨ 12 < P.length) :
    Calls Try.prog 46 #[.agg C.cells] w fun e w' => e = .returned (.bool (convB C P)) ∧ Mods [] w w' := by
  have hb := h.pok.len
  obtain ⟨ad, cap, hpts⟩ := h.rd.len
  have ML := Lib.hid (fun o => (Mods.refl (S := []) (w := w)).alloc o)
  have HB := Lib.hid (refConvB_no (P := P) hn h2)
  clear h
  have hlin : (decide (1 ≤ C.form) = false) ∨ (decide (1 ≤ C.form) = true ∧ decide (C.form ≤ 4) = false) := by
    by_cases h1 : 1 ≤ C.form
    · exact .inr ⟨decide_eq_true h1, decide_eq_false (by omega)⟩
    · exact .inl (decide_eq_false h1)
  clear hn
  obtain ⟨form, sgn, m, b, k1, k2, pts⟩ := C
  simp only at hlin hpts h2
  subst hpts
  unfold Conv.cells
  simp only at HB ⊢
  rcases hlin with e1 | ⟨e1, e2⟩
  all_goals
    rcases Decidable.em (form = 5 ∧ m = 0 ∧ b = 0 ∧ k1 = 0 ∧ k2 = 0 ∧ 2 ≤ P.length) with hx | hx
  all_goals first
    | (obtain ⟨a1, a2, a3, a4, a5, a6⟩ := hx
       have d1 : (form != 5) = false := by simp [a1]
       have d2 : (m != 0) = false := by simp [a2]
       have d3 : (b != 0) = false := by simp [a3]
       have d4 : (k1 != 0) = false := by simp [a4]
       have d5 : (k2 != 0) = false := by simp [a5]
       have d6 : decide ((P.length : Int) < 2) = false := by simp; omega
       have d7 : decide ((12 : Int) < (P.length : Int)) = true := by simp; omega
       clear a1 a2 a3 a4 a5 h2
       go_enter Try.func46, Try.ntmps46
       go_wp2_with fail
       go_ret
       exact ⟨ret_bool (by rw [HB.out]), ML.out _⟩)
    | skip
  all_goals
    clear h2
    by_cases a1 : form = 5
    · have d1 : (form != 5) = false := by simp [a1]
      by_cases a2 : m = 0
      · have d2 : (m != 0) = false := by simp [a2]
        by_cases a3 : b = 0
        · have d3 : (b != 0) = false := by simp [a3]
          by_cases a4 : k1 = 0
          · have d4 : (k1 != 0) = false := by simp [a4]
            by_cases a5 : k2 = 0
            · have d5 : (k2 != 0) = false := by simp [a5]
              have d6 : decide ((P.length : Int) < 2) = true := by simp; omega
              clear a1 a2 a3 a4 a5
              clear hx
              go_enter Try.func46, Try.ntmps46
              go_wp2_with fail
              go_ret
              exact ⟨ret_bool (by rw [HB.out]), ML.out _⟩
            · have d5 : (k2 != 0) = true := by simp [a5]
              clear a1 a2 a3 a4 a5
              clear hx
              go_enter Try.func46, Try.ntmps46
              go_wp2_with fail
              go_ret
              exact ⟨ret_bool (by rw [HB.out]), ML.out _⟩
          · have d4 : (k1 != 0) = true := by simp [a4]
            clear a1 a2 a3 a4
            clear hx
            go_enter Try.func46, Try.ntmps46
            go_wp2_with fail
            go_ret
            exact ⟨ret_bool (by rw [HB.out]), ML.out _⟩
        · have d3 : (b != 0) = true := by simp [a3]
          clear a1 a2 a3
          clear hx
          go_enter Try.func46, Try.ntmps46
          go_wp2_with fail
          go_ret
          exact ⟨ret_bool (by rw [HB.out]), ML.out _⟩
      · have d2 : (m != 0) = true := by simp [a2]
        clear a1 a2
        clear hx
        go_enter Try.func46, Try.ntmps46
        go_wp2_with fail
        go_ret
        exact ⟨ret_bool (by rw [HB.out]), ML.out _⟩
    · have d1 : (form != 5) = true := by simp [a1]
      clear a1
      clear hx
      go_enter Try.func46, Try.ntmps46
      go_wp2_with fail
      go_ret
      exact ⟨ret_bool (by rw [HB.out]), ML.out _⟩
end Go.Proofs.Ytgjjmiaiclhidaa

namespace Go.Proofs.Ytgjjmiaiclhidaa
open Go.RowKit

set_option maxRecDepth 100000 in
set_option maxHeartbeats 4000000 in
theorem refConvTab_ok (w : World) (C : Conv) (P : List Pt) (h : IsConv w C P) (hf : C.form = 5) (hm : C.m = 0) (hbz : C.b = 0) (h1 : C.k1 = 0) (h2 : C.k2 = 0) (hl1 : 2 ≤ P.length) (hl2 : P.length ≤ 12) :
    Calls Try.prog 46 #[.agg C.cells] w fun e w' => e = .returned (.bool (convB C P)) ∧ Mods [] w w' := by
  have HB := Lib.hid (show convB C P = tableB C.sgn P by rw [convB, if_neg (by omega), decide_eq_true ⟨hf, hm, hbz, h1, h2⟩, Bool.true_and])
  obtain ⟨rd, pok, _, _, _, _, _⟩ := h
  have RD := Lib.hid rd
  obtain ⟨ad, cap, hpts, hc1, hc2, _⟩ := rd
  have hc3 : cap ≤ 9223372036854775807 := hc2
  have hb := pok.len
  have PO := Lib.hid pok
  clear pok hc2
  obtain ⟨form, sgn, m, b, k1, k2, pts⟩ := C
  simp only at hf hm hbz h1 h2 hpts HB RD
  subst hf hm hbz h1 h2 hpts
  unfold Conv.cells
  simp only
  have e1 : decide ((P.length : Int) < 2) = false := by simp; omega
  have e2 : decide ((12 : Int) < (P.length : Int)) = false := by simp; omega
  go_enter Try.func46, Try.ntmps46
  go_wp2_with fail
  have H0 := heap_alloc_new w (.cells #[.int .i64 5, .bool sgn, .int .i64 0, .int .i64 0, .int .i64 0, .int .i64 0, .slice ad P.length cap] 26)
  have M0 := (Mods.refl (S := []) (w := w)).alloc (.cells #[.int .i64 5, .bool sgn, .int .i64 0, .int .i64 0, .int .i64 0, .int .i64 0, .slice ad P.length cap] 26)
  generalize w.alloc (.cells #[.int .i64 5, .bool sgn, .int .i64 0, .int .i64 0, .int .i64 0, .int .i64 0, .slice ad P.length cap] 26) = w1 at H0 M0 ⊢
  generalize w.heap.size = g at H0 ⊢
  go_loopw [3] (fun i wr => ∃ k : Nat, k ≤ P.length ∧ i = .int .i64 k ∧ Mods [] w wr ∧ wr.heap[g]? = some (.cells #[.int .i64 5, .bool sgn, .int .i64 0, .int .i64 0, .int .i64 0, .int .i64 0, .slice ad P.length cap] 26 (0, 0)) ∧ Hid (∀ j, j < k → ptB sgn P j = true)) (fun i _ => P.length - (intOf i).toNat)
  case atStart => exact ⟨0, Nat.zero_le _, rfl, M0, H0, fun j hj => by omega⟩
  case round =>
    obtain ⟨k, hk, rfl, M1, H1, hs⟩ := hrel
    clear M0 H0
    have z1 : wr.cell? ⟨g, 1, none⟩ = some (.bool sgn) := cell_blk H1 1
    have z6 : wr.cell? ⟨g, 6, none⟩ = some (.slice ad P.length cap) := cell_blk H1 6
    by_cases hlt : k < P.length
    · obtain ⟨_, _, he, _, _, hc⟩ := RD.out.mods0 M1
      obtain ⟨bb, off, rfl, x0, x1⟩ := hc k hlt
      injection he with he1 he2 he3
      subst he1 he3
      clear hc he2
      have HR := PO.out.raw k
      obtain ⟨p, hp⟩ : ∃ p, p = P.getD k default := ⟨_, rfl⟩
      rw [← hp] at x0 x1 HR
      have HP := Lib.hid hp
      clear hp
      obtain ⟨raw, val⟩ := p
      simp only at x0 x1 HR
      have i1 : (0 : Int) ≤ (k : Int) := by omega
      have i2 : (k : Int) < (P.length : Int) := by omega
      have MM := Lib.hid M1
      have HH := Lib.hid H1
      clear M1 H1
      by_cases hv : -1000000000000 ≤ val ∧ val ≤ 1000000000000
      · have v1 : decide (val < -1000000000000) = false := by simp; omega
        have v2 : decide (1000000000000 < val) = false := by simp; omega
        have HV := Lib.hid hv
        clear hv
        by_cases h0 : k = 0
        · have e3 : decide ((0 : Int) < (k : Int)) = false := by simp; omega
          have e4 : decide (0 < k) = false := by simp; omega
          have HQ := Lib.hid (show ptB sgn P k = true by simp only [ptB, ← HP.out]; simp [HV.out, h0])
          clear h0
          go_wp2_with fail
          go_quiet (fail)
          go_wp2
          go_roundw
          case rel => exact ⟨k + 1, by omega, by go_num, MM.out.drewN _, HH.out, fun j hj => by
            rcases Nat.lt_or_ge j k with h | h
            · exact hs.out j h
            · obtain rfl : j = k := by omega
              exact HQ.out⟩
          case measure => simp [intOf]; omega
        · have e3 : decide ((0 : Int) < (k : Int)) = true := by simp; omega
          have e4 : decide (0 < k) = true := by simp; omega
          obtain ⟨_, _, he, _, _, hc⟩ := RD.out.mods0 MM.out
          obtain ⟨_, _, hz, u0, _⟩ := hc (k - 1) (by omega)
          injection he with he1 he2 he3
          subst he1
          injection hz with hz1
          injection hz1 with hz2 hz3
          subst hz2 hz3
          clear hc he2 he3
          have HR2 := PO.out.raw (k - 1)
          obtain ⟨q, hq⟩ : ∃ q, q = P.getD (k - 1) default := ⟨_, rfl⟩
          rw [← hq] at u0 HR2
          have HQ2 := Lib.hid hq
          clear hq
          obtain ⟨raw2, val2⟩ := q
          simp only at u0 HR2
          have j2 : (0 : Int) ≤ (k : Int) - 1 := by omega
          have j3 : (k : Int) - 1 < (P.length : Int) := by omega
          have j4 : ((k : Int) - 1).toNat = k - 1 := by omega
          by_cases hlt2 : numI sgn raw2 < numI sgn raw
          · have e5 : decide (numI sgn raw ≤ numI sgn raw2) = false := by simp; omega
            have HQ := Lib.hid (show ptB sgn P k = true by simp only [ptB, ← HP.out, ← HQ2.out]; simp [HV.out, hlt2])
            have j1 : IntKind.i64.wrap ((k : Int) - 1) = (k : Int) - 1 := IntWalk.i64_in _ (by omega)
            clear h0 hlt2
            go_wp2_with fail
            go_quiet ((go_at_call 48; exact quiet_left (refNumber_ok _ _ (by assumption) _)))
            clear j1 j2 j3 j4
            go_wp2
            go_roundw
            case rel => exact ⟨k + 1, by omega, by go_num, MM.out.drewN _, HH.out, fun j hj => by
              rcases Nat.lt_or_ge j k with h | h
              · exact hs.out j h
              · obtain rfl : j = k := by omega
                exact HQ.out⟩
            case measure => simp [intOf]; omega
          · have e5 : decide (numI sgn raw ≤ numI sgn raw2) = true := by simp; omega
            have HQ := Lib.hid (show ptB sgn P k = false by simp only [ptB, ← HP.out, ← HQ2.out]; simp [hlt2, h0])
            have HF := Lib.hid (tableB_false hlt HQ.out)
            have j1 : IntKind.i64.wrap ((k : Int) - 1) = (k : Int) - 1 := IntWalk.i64_in _ (by omega)
            clear h0 hlt2
            go_wp2_with fail
            go_quiet ((go_at_call 48; exact quiet_left (refNumber_ok _ _ (by assumption) _)))
            clear j1 j2 j3 j4
            go_wp2
            go_ret
            exact ⟨ret_bool (by rw [HB.out, HF.out]), MM.out.drewN _⟩
      · have HQ := Lib.hid (show ptB sgn P k = false by simp only [ptB, ← HP.out]; simp only [decide_eq_false hv, Bool.false_and])
        have HF := Lib.hid (tableB_false hlt HQ.out)
        by_cases hv1 : val < -1000000000000
        · have v1 : decide (val < -1000000000000) = true := by simpa using hv1
          clear hv hv1
          go_wp2
          go_ret
          exact ⟨ret_bool (by rw [HB.out, HF.out]), MM.out⟩
        · have v1 : decide (val < -1000000000000) = false := by simpa using hv1
          have v2 : decide (1000000000000 < val) = true := by simp; omega
          clear hv hv1
          go_wp2
          go_ret
          exact ⟨ret_bool (by rw [HB.out, HF.out]), MM.out⟩
    · have HF := Lib.hid (show tableB sgn P = true by
        simp only [tableB, Bool.and_eq_true, decide_eq_true_eq, List.all_eq_true]
        exact ⟨⟨hl1, hl2⟩, fun j hj => hs.out j (by have := List.mem_range.1 hj; omega)⟩)
      go_wp2
      go_ret
      exact ⟨ret_bool (by rw [HB.out, HF.out]), M1⟩

theorem refConvValid_ok (w : World) (C : Conv) (P : List Pt) (h : IsConv w C P) :
    Calls Try.prog 46 #[.agg C.cells] w fun e w' => e = .returned (.bool (convB C P)) ∧ Mods [] w w' := by
  by_cases hlin : 1 ≤ C.form ∧ C.form ≤ 4
  · exact refConvLin_ok w C P h hlin
  · by_cases h2 : C.form ≠ 5 ∨ C.m ≠ 0 ∨ C.b ≠ 0 ∨ C.k1 ≠ 0 ∨ C.k2 ≠ 0 ∨ P.length < 2 ∨ 12 < P.length
    · exact refConvNo_ok w C P h hlin h2
    · exact refConvTab_ok w C P h (by omega) (by omega) (by omega) (by omega) (by omega) (by omega) (by omega)
end Go.Proofs.Ytgjjmiaiclhidaa
