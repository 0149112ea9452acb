/- The reference's Has, Limit, none and ordered: contracts. -/
import Derived.Test.YtijjkonephjodaaSenValid
namespace Go.Proofs.Ytijjkonephjodaa
open Go.RowKit

theorem wrap_u64 {i : Nat} (h : i < 1000000) : IntKind.u64.wrap (i : Int) = (i : Int) := by
  rw [IntKind.wrap_u64]; omega
theorem has_ok (m i : Nat) (_hm : m < 65536) (hi : i < 16) (w : World) :
    Calls Try.prog 81 #[.int .u16 m, .int .i64 i] w fun e w' => e = .returned (.bool (m.testBit i)) ∧ w = w' := by
  have hu := wrap_u64 (i := i) (by omega)
  have HT := Lib.hid (tb m i)
  obtain ⟨q, hq⟩ : ∃ q : Nat, q = m / 2 ^ i := ⟨_, rfl⟩
  have hql : q ≤ m := by rw [hq]; exact Nat.div_le_self _ _
  have hs : (m : Int) / 2 ^ i = (q : Int) := by rw [shr_nat, hq]
  rw [← hq] at HT
  clear hq
  go_enter Try.func81, Try.ntmps81
  go_wp2
  go_ret
  refine ⟨ret_bool ?_, rfl⟩
  rw [HT.out, Bool.eq_iff_iff]
  simp only [beq_iff_eq, decide_eq_true_eq]
  omega
set_option maxRecDepth 100000 in
theorem limit_ok (w : World) (S : Sen) (P : List Pt) (hS : IsSen w S P) (i : Nat) (hi : i < 6) :
    Calls Try.prog 106 #[.agg S.cells, .int .i64 i] w fun e w' => e = .returned (.int .i64 (S.num i)) ∧ Mods [] w w' := by
  have hr := hS.raw i
  clear hS
  have B0 := SenBox.new w S
  have hc := B0.craw hi
  have M0 := Lib.hid ((Mods.refl (S := []) (w := w)).alloc (.cells S.cells 32))
  obtain ⟨_, x8, _, _, _, _, _⟩ := S.convc
  rw [B0.c] at hc
  clear B0
  have i1 : (0 : Int) ≤ (i : Int) := by omega
  have i2 : (i : Int) < 6 := by omega
  have HN := Lib.hid (show S.num i = numI S.conv.sgn (S.raw i) from rfl)
  go_enter Try.func106, Try.ntmps106
  go_wp2_with fail
  go_quiet ((go_at_call 105; exact quiet_left (refNumber_ok _ _ (by assumption) _)))
  go_wp2
  go_ret
  exact ⟨ret_int (by rw [HN.out]), M0.out.drewN _⟩
set_option maxRecDepth 100000 in
set_option maxHeartbeats 1000000 in
theorem none_ok (w : World) (C : Conv) (P : List Pt) (h : IsConv w C P) :
    Calls Try.prog 88 #[.agg C.cells] w fun e w' => e = .returned (.bool (decide (C.form = 0 ∧ C.sgn = false ∧ C.m = 0 ∧ C.b = 0 ∧ C.k1 = 0 ∧ C.k2 = 0 ∧ P.length = 0))) ∧ Mods [] w w' := by
  have hb := h.pok.len
  obtain ⟨ad, cap, hpts⟩ := h.rd.len
  clear h
  have ML := Lib.hid (fun o => (Mods.refl (S := []) (w := w)).alloc o)
  obtain ⟨form, sgn, m, b, k1, k2, pts⟩ := C
  simp only at hpts
  subst hpts
  unfold Conv.cells
  simp only
  go_enter Try.func88, Try.ntmps88
  go_wp2
  all_goals
    go_ret
    exact ⟨ret_bool (by first | (simp_all; done) | (rw [Bool.eq_iff_iff]; simp_all; try omega)), ML.out _⟩
end Go.Proofs.Ytijjkonephjodaa
