/- convert.Valid: contract. -/
import Derived.Test.YtijjkonephjodaaConv
import Derived.BigGuardPart
namespace Go.Proofs.Ytijjkonephjodaa
open Go.RowKit

theorem clamp_same {v : Int} : (clampI v != v) = !decide (-1000000000000 ≤ v ∧ v ≤ 1000000000000) := by
  unfold clampI
  rw [Bool.eq_iff_iff]
  simp
  omega
theorem tableB_false {sgn : Bool} {P : List Pt} {k : Nat} (hk : k < P.length) (h : ptB sgn P k = false) : tableB sgn P = false := by
  cases ht : tableB sgn P with
  | false => rfl
  | true =>
    simp only [tableB, Bool.and_eq_true, List.all_eq_true] at ht
    rw [ht.2 k (List.mem_range.2 hk)] at h
    cases h
set_option maxRecDepth 100000 in
set_option maxHeartbeats 2000000 in
theorem table_ok (w : World) (C : Conv) (P : List Pt) (h : IsConv w C P) :
    Calls Try.prog 104 #[.agg C.cells] w fun e w' => e = .returned (.bool (tableB C.sgn P)) ∧ Mods [] w w' := by
  obtain ⟨rd, pok, _, _, _, _, _⟩ := h
  obtain ⟨form, sgn, m, b, k1, k2, pts⟩ := C
  simp only at rd
  have RD := Lib.hid rd
  obtain ⟨ad, cap, rfl, hc1, hc2, _⟩ := rd
  have hc3 : cap ≤ 9223372036854775807 := hc2
  have hb := pok.len
  have PO := Lib.hid pok
  clear pok hc2
  unfold Conv.cells
  simp only
  by_cases hl : 2 ≤ P.length ∧ P.length ≤ 12
  · obtain ⟨hl1, hl2⟩ := hl
    have e1 : decide ((P.length : Int) < 2) = false := by simp; omega
    have e2 : decide ((12 : Int) < (P.length : Int)) = false := by simp; omega
    go_enter Try.func104, Try.ntmps104
    go_wp2_with fail
    have H0 := heap_alloc_new w (.cells #[.int .i64 form, .bool sgn, .int .i64 m, .int .i64 b, .int .i64 k1, .int .i64 k2, .slice ad P.length cap] 26)
    have M0 := (Mods.refl (S := []) (w := w)).alloc (.cells #[.int .i64 form, .bool sgn, .int .i64 m, .int .i64 b, .int .i64 k1, .int .i64 k2, .slice ad P.length cap] 26)
    generalize w.alloc (.cells #[.int .i64 form, .bool sgn, .int .i64 m, .int .i64 b, .int .i64 k1, .int .i64 k2, .slice ad P.length cap] 26) = w1 at H0 M0 ⊢
    generalize w.heap.size = g at H0 ⊢
    go_loopw [18] (fun i wr => ∃ k : Nat, k ≤ P.length ∧ i = .int .i64 k ∧ Mods [] w wr ∧ wr.heap[g]? = some (.cells #[.int .i64 form, .bool sgn, .int .i64 m, .int .i64 b, .int .i64 k1, .int .i64 k2, .slice ad P.length cap] 26 (0, 0)) ∧ Hid (∀ j, j < k → ptB sgn P j = true)) (fun i _ => P.length - (intOf i).toNat)
    case atStart => exact ⟨0, Nat.zero_le _, rfl, M0, H0, fun j hj => by omega⟩
    case round =>
      obtain ⟨k, hk, rfl, M1, H1, hs⟩ := hrel
      clear M0 H0
      by_cases hlt : k < P.length
      · obtain ⟨_, _, he, _, _, hc⟩ := RD.out.mods0 M1
        obtain ⟨bb, off, rfl, x0, x1⟩ := hc k hlt
        injection he with he1 he2 he3
        subst he1 he3
        clear hc he2
        have HR := PO.out.raw k
        obtain ⟨p, hp⟩ : ∃ p, p = P.getD k default := ⟨_, rfl⟩
        rw [← hp] at x0 x1 HR
        have HP := Lib.hid hp
        clear hp
        obtain ⟨raw, val⟩ := p
        simp only at x0 x1 HR
        have i1 : (0 : Int) ≤ (k : Int) := by omega
        have i2 : (k : Int) < (P.length : Int) := by omega
        go_wp2_with fail
        have H2 := heap_alloc_new wr (.cells #[.int .u8 raw, .int .i64 val] 115)
        have M2 := (Mods.refl (S := []) (w := wr)).alloc (.cells #[.int .u8 raw, .int .i64 val] 115)
        generalize wr.alloc (.cells #[.int .u8 raw, .int .i64 val] 115) = w2 at H2 M2 ⊢
        generalize wr.heap.size = g2 at H2 ⊢
        have H1 := M2.heap H1 (by simp)
        have y0 : w2.cell? ⟨g2, 0, none⟩ = some (.int .u8 raw) := cell_blk H2 0
        have y1 : w2.cell? ⟨g2, 1, none⟩ = some (.int .i64 val) := cell_blk H2 1
        have z1 : w2.cell? ⟨g, 1, none⟩ = some (.bool sgn) := cell_blk H1 1
        have z6 : w2.cell? ⟨g, 6, none⟩ = some (.slice (some ⟨bb, off, none⟩) P.length cap) := cell_blk H1 6
        have MM := Lib.hid (M1.trans M2)
        have HH := Lib.hid H1
        clear x0 x1 M1 M2 H1 H2
        have hcl := clamp_same (v := val)
        by_cases hv : -1000000000000 ≤ val ∧ val ≤ 1000000000000
        · rw [decide_eq_true hv, Bool.not_true] at hcl
          have HV := Lib.hid hv
          clear hv
          by_cases h0 : k = 0
          · have e3 : decide ((0 : Int) < (k : Int)) = false := by simp; omega
            have HQ := Lib.hid (show ptB sgn P k = true by simp only [ptB, ← HP.out]; simp [HV.out, h0])
            have e4 : decide (0 < k) = false := by simp; omega
            clear h0
            go_quiet ((go_at_call 117; exact quiet_left (clamp_ok _ _)))
            go_wp2
            go_roundw
            case rel => exact ⟨k + 1, by omega, by go_num, MM.out.drewN _, HH.out, fun j hj => by
              rcases Nat.lt_or_ge j k with h | h
              · exact hs.out j h
              · obtain rfl : j = k := by omega
                exact HQ.out⟩
            case measure => simp [intOf]; omega
          · have e3 : decide ((0 : Int) < (k : Int)) = true := by simp; omega
            have e4 : decide (0 < k) = true := by simp; omega
            obtain ⟨_, _, he, _, _, hc⟩ := RD.out.mods0 MM.out
            obtain ⟨_, _, hz, u0, _⟩ := hc (k - 1) (by omega)
            injection he with he1 he2 he3
            subst he1
            injection hz with hz1
            injection hz1 with hz2 hz3
            subst hz2 hz3
            clear hc he2 he3
            have HR2 := PO.out.raw (k - 1)
            obtain ⟨q, hq⟩ : ∃ q, q = P.getD (k - 1) default := ⟨_, rfl⟩
            rw [← hq] at u0 HR2
            have HQ2 := Lib.hid hq
            clear hq
            obtain ⟨raw2, val2⟩ := q
            simp only at u0 HR2
            have j1 : IntKind.i64.wrap ((k : Int) - 1) = (k : Int) - 1 := IntWalk.i64_in _ (by omega)
            have j2 : (0 : Int) ≤ (k : Int) - 1 := by omega
            have j3 : (k : Int) - 1 < (P.length : Int) := by omega
            have j4 : ((k : Int) - 1).toNat = k - 1 := by omega
            by_cases hlt2 : numI sgn raw2 < numI sgn raw
            · have e5 : decide (numI sgn raw ≤ numI sgn raw2) = false := by simp; omega
              have HQ := Lib.hid (show ptB sgn P k = true by simp only [ptB, ← HP.out, ← HQ2.out]; simp [HV.out, hlt2])
              clear h0 hlt2
              go_quiet ((first
                | (go_at_call 117; exact quiet_left (clamp_ok _ _))
                | (go_at_call 115; exact quiet_left (number_ok _ _ (by assumption) _))))
              clear j1 j2 j3 j4
              go_wp2
              go_roundw
              case rel => exact ⟨k + 1, by omega, by go_num, MM.out.drewN _, HH.out, fun j hj => by
                rcases Nat.lt_or_ge j k with h | h
                · exact hs.out j h
                · obtain rfl : j = k := by omega
                  exact HQ.out⟩
              case measure => simp [intOf]; omega
            · have e5 : decide (numI sgn raw ≤ numI sgn raw2) = true := by simp; omega
              have HQ := Lib.hid (show ptB sgn P k = false by simp only [ptB, ← HP.out, ← HQ2.out]; simp [hlt2, h0])
              have HF := Lib.hid (tableB_false hlt HQ.out)
              clear h0 hlt2
              go_quiet ((first
                | (go_at_call 117; exact quiet_left (clamp_ok _ _))
                | (go_at_call 115; exact quiet_left (number_ok _ _ (by assumption) _))))
              clear j1 j2 j3 j4
              go_wp2
              go_ret
              exact ⟨ret_bool (by rw [HF.out]), MM.out.drewN _⟩
        · rw [decide_eq_false hv, Bool.not_false] at hcl
          have HQ := Lib.hid (show ptB sgn P k = false by simp only [ptB, ← HP.out]; simp only [decide_eq_false hv, Bool.false_and])
          have HF := Lib.hid (tableB_false hlt HQ.out)
          clear hv
          go_quiet ((go_at_call 117; exact quiet_left (clamp_ok _ _)))
          go_wp2
          go_ret
          exact ⟨ret_bool (by rw [HF.out]), MM.out.drewN _⟩
      · have HF := Lib.hid (show tableB sgn P = true by
          simp only [tableB, Bool.and_eq_true, decide_eq_true_eq, List.all_eq_true]
          exact ⟨⟨hl1, hl2⟩, fun j hj => hs.out j (by have := List.mem_range.1 hj; omega)⟩)
        go_wp2
        go_ret
        exact ⟨ret_bool (by rw [HF.out]), M1⟩
  · have HF := Lib.hid (show tableB sgn P = false by simp only [tableB, decide_eq_false hl, Bool.false_and])
    by_cases hl1 : P.length < 2
    · have e1 : decide ((P.length : Int) < 2) = true := by simp; omega
      go_enter Try.func104, Try.ntmps104
      go_wp2_with fail
      go_ret
      exact ⟨ret_bool (by rw [HF.out]), Mods.refl.alloc _⟩
    · have e1 : decide ((P.length : Int) < 2) = false := by simp; omega
      have e2 : decide ((12 : Int) < (P.length : Int)) = true := by simp; omega
      go_enter Try.func104, Try.ntmps104
      go_wp2_with fail
      go_ret
      exact ⟨ret_bool (by rw [HF.out]), Mods.refl.alloc _⟩
end Go.Proofs.Ytijjkonephjodaa
