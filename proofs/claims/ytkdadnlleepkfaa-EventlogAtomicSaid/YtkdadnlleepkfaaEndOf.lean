/- baseboardlaw09.endOf: a list of events is the end of another one. -/
import Derived.Test.YtkdadnlleepkfaaAtomP
namespace Go.Proofs.Ytkdadnlleepkfaa
open Go.RowKit
set_option linter.unusedVariables false
set_option linter.unusedSimpArgs false
set_option maxRecDepth 100000 in
set_option maxHeartbeats 4000000 in
theorem endOf0_ok (w : World) (va : Value) (A B : List Evt) (ad : Option Addr) (cap : Nat) (ha : RdE evE w va A) (hb : RdE evE w (.slice ad B.length cap) B) :
    Calls Try.prog 29 #[va, .slice ad B.length cap, .int .i64 0] w fun en w' => en = .returned (.bool (decide (A = B))) ∧ Mods [] w w' := by
  have HS := Lib.hid (sameL_ok w va (.slice ad B.length cap) A B ha hb)
  obtain ⟨ada, ca, rfl⟩ := ha.len
  obtain ⟨_, _, he, h1, h2, h3⟩ := hb
  injection he with e1 e2 e3
  subst e1 e3
  have h4 : B.length ≤ 9223372036854775807 := Nat.le_trans h1 h2
  have h5 : cap ≤ 9223372036854775807 := h2
  clear ha h2
  clear h3 e2
  go_enter Try.func29, Try.ntmps29
  go_wp2_with fail
  refine HS.out.mono ?_
  rintro e w1 ⟨rfl, hm⟩
  go_wp2_with fail
  go_ret
  exact ⟨rfl, hm⟩
set_option maxRecDepth 100000 in
set_option maxHeartbeats 4000000 in
theorem endOfK_ok (w : World) (va : Value) (A B : List Evt) (bb off cap k : Nat) (hk : k ≤ B.length) (ha : RdE evE w va A) (hb : RdE evE w (.slice (some ⟨bb, off, none⟩) B.length cap) B) :
    Calls Try.prog 29 #[va, .slice (some ⟨bb, off, none⟩) B.length cap, .int .i64 (k : Nat)] w fun en w' => en = .returned (.bool (decide (A = B.drop k))) ∧ Mods [] w w' := by
  have HS := Lib.hid (sameL_ok w va _ A (B.drop k) ha (hb.drop hk))
  have HS : Hid (Calls Try.prog 23 #[va, .slice (some ⟨bb, off + k * 10, none⟩) (B.length - k) (cap - k)] w _) := HS
  have HS2 := Lib.hid (fun hc : cap = k => sameL_ok w va (.slice (some ⟨bb, off, none⟩) (B.length - k) 0) A (B.drop k) ha (by
    obtain ⟨_, _, he, h1, h2, h3⟩ := hb
    injection he with e1 e2 e3
    subst e3
    have h0 : B.drop k = [] := List.drop_eq_nil_of_le (by omega)
    refine ⟨some ⟨bb, off, none⟩, 0, by rw [List.length_drop], by rw [h0]; exact Nat.le_refl _, Nat.zero_le _, fun i hi => ?_⟩
    rw [h0] at hi
    simp at hi))
  obtain ⟨ada, ca, rfl⟩ := ha.len
  obtain ⟨_, _, he, h1, h2, h3⟩ := hb
  injection he with e1 e2 e3
  subst e1 e3
  have h4 : B.length ≤ 9223372036854775807 := Nat.le_trans h1 h2
  have h5 : cap ≤ 9223372036854775807 := h2
  have k1 : ((k : Nat) : Int) ≤ ((B.length : Nat) : Int) := by omega
  have k0 : (0 : Int) ≤ ((k : Nat) : Int) := by omega
  clear ha h2 h3
  go_enter Try.func29, Try.ntmps29
  go_wp2_with fail
  · have hck : cap = k := by assumption
    refine (HS2.out hck).mono ?_
    rintro e w1 ⟨rfl, hm⟩
    go_wp2_with fail
    go_ret
    exact ⟨rfl, hm⟩
  · refine HS.out.mono ?_
    rintro e w1 ⟨rfl, hm⟩
    go_wp2_with fail
    go_ret
    exact ⟨rfl, hm⟩
end Go.Proofs.Ytkdadnlleepkfaa
