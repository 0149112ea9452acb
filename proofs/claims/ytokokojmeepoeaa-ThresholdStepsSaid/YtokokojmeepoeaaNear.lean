/- The dice's near and Near: contracts. -/
import Derived.Test.YtokokojmeepoeaaMadeAna
import Derived.Deep.RegionLaw
namespace Go.Proofs.Ytokokojmeepoeaa
open Go.RowKit

set_option maxRecDepth 100000 in
set_option maxHeartbeats 2000000 in
theorem nearI_ok (w : World) (b : Nat) (v : Value) (L : List Int) (n : Nat) (h : IsDice w b v L n) (S : Sen) (P : List Pt) (hS : IsSen w S P) :
    Calls Try.prog 64 #[.pointer (some ⟨b, 0, none⟩), .agg S.cells] w fun e w' => RolledBy w b v L e w' := by
  have hbl := h.lt
  have H := Lib.hid h
  have HR := Lib.hid hS.raw
  clear h hS
  go_enter Try.func64, Try.ntmps64
  go_wp2_with fail
  have B1 := SenBox.new w S
  have M1 := (Mods.refl (S := []) (w := w)).alloc (.cells S.cells 32)
  have D1 := H.out.mods0 M1
  have hg : w.heap.size ≠ b := by omega
  generalize w.alloc (.cells S.cells 32) = w1 at B1 M1 D1 ⊢
  generalize hgg : w.heap.size = g at B1 hg ⊢
  clear hgg hbl
  refine (bool_ok w1 b v L n D1 3 (by omega) (by omega)).mono ?_
  rintro e w2 ⟨r, n2, rfl, D2, M2⟩
  have B2 := B1.mods M2 (by simp; exact hg)
  have MM := Lib.hid ((M1.nil (S := [b])).trans M2)
  clear B1 M1 M2 D1
  cases r with
  | true =>
    go_wp2_with fail
    refine (byte_ok w2 b v L n2 D2).mono ?_
    rintro e w3 ⟨r, n3, rfl, r0, r1, D3, M3⟩
    go_wp2
    go_ret
    exact ⟨r, n3, rfl, r0, r1, D3, MM.out.trans M3⟩
  | false =>
    have DD := Lib.hid D2
    have HB := Lib.hid B2
    clear D2 B2
    go_wp2_with fail
    go_region_law (first
      | (go_simp; go_at_call 28; refine (next_ok w3 b v L n3 D3.out 9 (by omega) (by omega)).mono ?_; rintro e w4 ⟨q, n4, rfl, q0, q1, D4, M4⟩; have c4 : w4.cell? ⟨g, 15 + k, none⟩ = some (.int .u8 x) := M4.cell c3 (by simp; exact hg); have M4 := Lib.hid (M3.out.trans M4); have D4 := Lib.hid D4)
      | (go_simp; go_at_call 28; refine (next_ok (w2.drewN 1) b v L n2 (DD.out.mods0 (Mods.refl.drewN 1)) 6 (by omega) (by omega)).mono ?_; rintro e w3 ⟨r, n3, rfl, r0, r1, D3, M3⟩; obtain ⟨k, rfl⟩ := Int.eq_ofNat_of_zero_le r0; have hk : k < 6 := (by omega); have hx := HR.out k; have B3 := Lib.hid ((HB.out.mods0 (Mods.refl.drewN 1)).mods M3 (by simp; exact hg)); have c3 : w3.cell? ⟨g, 15 + k, none⟩ = some (.int .u8 (S.raw k)) := B3.out.craw hk; generalize S.raw k = x at c3 hx; have M3 := Lib.hid ((MM.out.trans (Mods.refl.drewN 1)).trans M3); have D3 := Lib.hid D3))
    all_goals
      go_wp2
      go_ret
      exact ⟨_, n4, rfl, by rw [IntKind.wrap_u8]; omega, by rw [IntKind.wrap_u8]; omega, D4.out.mods0 (by first | exact Mods.refl.drew | exact Mods.refl), by first | exact M4.out | exact M4.out.drew⟩
theorem near_ok (w : World) (b : Nat) (v : Value) (L : List Int) (n : Nat) (h : IsDice w b v L n) (S : Sen) (P : List Pt) (hS : IsSen w S P) :
    Calls Try.prog 36 #[.pointer (some ⟨b, 0, none⟩), .agg S.cells] w fun e w' => RolledBy w b v L e w' := by
  have H := Lib.hid h
  have HS := Lib.hid hS
  clear h hS
  go_enter Try.func36, Try.ntmps36
  have B1 := SenBox.new w S
  have M1 := (Mods.refl (S := []) (w := w)).alloc (.cells S.cells 32)
  go_wp2_with (refine wpList_load_sen rfl (.tmp 3) rfl B1 (by rfl) ?_)
  refine (nearI_ok _ b v L n (H.out.mods0 M1) S P (HS.out.mods0 M1)).mono ?_
  rintro e w3 ⟨r, n3, rfl, r0, r1, D3, M3⟩
  go_wp2
  go_ret
  exact ⟨r, n3, rfl, r0, r1, D3, (M1.nil (S := [b])).trans M3⟩
end Go.Proofs.Ytokokojmeepoeaa
