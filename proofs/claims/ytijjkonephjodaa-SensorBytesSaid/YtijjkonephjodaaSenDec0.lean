/- What sensor.Decode gives, as plain data; sensor.word: contract. -/
import Derived.Test.YtijjkonephjodaaCdx
import Derived.Test.YtijjkonephjodaaRefSeal
import Derived.Test.YtijjkonephjodaaSenValid
import Derived.Test.YtijjkonephjodaaMadeSenP
namespace Go.Proofs.Ytijjkonephjodaa
open Go.RowKit

/-- The number of 16 bits at the place i. -/
def w16 (A : List Int) (i : Nat) : Nat := (A.getD i 0 + 256 * A.getD (i + 1) 0).toNat
def b8 (A : List Int) (i : Nat) : Nat := (A.getD i 0).toNat
/-- Bytes as a string's. -/
def strOf (ns : List Int) : ByteArray := ns.foldl (fun r n => r.push (UInt8.ofNat n.toNat)) ByteArray.empty
/-- What stands ahead of the rest. -/
def hdrS (X : List Int) (nm : ByteArray) : Sen :=
  ⟨b8 X 1, b8 X 2, b8 X 3, nm, b8 X 4, b8 X 5, decide (X.getD 6 0 % 2 = 1), zC, 0, 0, 0, 0, 0, 0, 0, 0, 0, 0, 0, 0, decide (X.getD 6 0 / 2 % 2 = 1), X.getD 6 0 / 4⟩
/-- What is wrong with the rest. -/
def restErr (disc : Bool) (B : List Int) : Int :=
  if disc then (if B.length < 6 then 4 else if 6 < B.length then 6 else 0)
  else if errC B ≠ 0 then errC B else if (B.drop (lenC B).1.toNat).length < 13 then 4 else if 13 < (B.drop (lenC B).1.toNat).length then 6 else 0
def ana13 (S : Sen) (C : Conv) (R : List Int) : Sen :=
  { S with conv := C, mask := b8 R 0, r0 := b8 R 1, r1 := b8 R 2, r2 := b8 R 3, r3 := b8 R 4, r4 := b8 R 5, r5 := b8 R 6, hl := b8 R 7, hu := b8 R 8, asrt := w16 R 9, deas := w16 R 11 }
/-- With the rest. -/
def restS (S : Sen) (B : List Int) (pv : Value) : Sen :=
  if S.disc then { S with states := w16 B 0, asrt := w16 B 2, deas := w16 B 4 } else ana13 S (decC B pv) (B.drop (lenC B).1.toNat)
def restP (disc : Bool) (B : List Int) : List Pt := if disc then [] else decP B
theorem u8_getD {A : List Int} (hb : Bytes A) (i : Nat) : A.getD i 0 = (b8 A i : Int) := by have := hb i; unfold b8; omega
theorem b8_lt {A : List Int} (hb : Bytes A) (i : Nat) : b8 A i < 256 := by have := hb i; unfold b8; omega
theorem w16_eq {A : List Int} (hb : Bytes A) (i : Nat) : (w16 A i : Int) = A.getD i 0 + 256 * A.getD (i + 1) 0 := by have := hb i; have := hb (i + 1); unfold w16; omega
theorem w16_lt {A : List Int} (hb : Bytes A) (i : Nat) : w16 A i < 65536 := by have := hb i; have := hb (i + 1); unfold w16; omega
theorem u16_join (x y : Int) (hx : 0 ≤ x ∧ x ≤ 255) (hy : 0 ≤ y ∧ y ≤ 255) : bits .or .u16 x (y * 256) = x + 256 * y := by
  obtain ⟨X, rfl⟩ := Int.eq_ofNat_of_zero_le hx.1
  obtain ⟨Y, rfl⟩ := Int.eq_ofNat_of_zero_le hy.1
  have h := u16_or_nat X (Y * 256) (by omega) (by omega)
  have hj := nat_join 8 (Y * 256) X (by omega) (by omega)
  rw [Nat.or_comm, hj] at h
  rw [Int.natCast_mul] at h
  exact h.trans (by omega)
set_option maxRecDepth 100000 in
set_option maxHeartbeats 1000000 in
theorem word_ok (w : World) (v : Value) (A : List Int) (hv : Rd w v (u8s A)) (hb : Bytes A) (hl : 2 ≤ A.length) :
    Calls Try.prog 91 #[v] w fun e w' => e = .returned (.int .u16 (w16 A 0 : Nat)) ∧ ∃ n, w' = w.drewN n := by
  obtain ⟨ad, cap, rfl, h1, h2, hc⟩ := hv.u8
  obtain ⟨bb, off, rfl, x0⟩ := hc 0 (by omega)
  have x1 : w.cell? ⟨bb, off + 1, none⟩ = some (.int .u8 (A.getD 1 0)) := by
    obtain ⟨b', o', he, hx⟩ := hc 1 (by omega)
    cases he
    exact hx
  rw [Nat.add_zero] at x0
  have b0 := hb 0
  have b1 := hb 1
  have HW := w16_eq hb 0
  rw [Nat.zero_add] at HW
  replace HW := Lib.hid HW
  clear hc hv hb h2
  generalize A.getD 0 0 = x at *
  generalize A.getD 1 0 = y at *
  have hj := u16_join x y b0 b1
  obtain ⟨p0, p1⟩ := b0
  obtain ⟨q0, q1⟩ := b1
  have i0 : (0 : Int) < (A.length : Int) := by omega
  have i1 : (1 : Int) < (A.length : Int) := by omega
  go_enter Try.func91, Try.ntmps91
  go_wp2_with fail
  go_quiet (fail)
  go_wp2_with fail
  go_ret
  refine ⟨?_, _, rfl⟩
  rw [HW.out]
  first
    | rfl
    | (rw [hj])
end Go.Proofs.Ytijjkonephjodaa
