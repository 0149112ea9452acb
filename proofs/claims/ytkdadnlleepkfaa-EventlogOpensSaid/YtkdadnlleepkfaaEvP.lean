/- Events as plain data; their bytes, there and back. No program stands here. -/
import Derived.Test.YtkdadnlleepkfaaMem
namespace Go.Proofs.Ytkdadnlleepkfaa

structure Evt where
  id : Fin 65536
  time : Fin 4294967296
  gen : Fin 65536
  st : Fin 256
  sen : Fin 256
  typ : Fin 256
  de : Bool
  d0 : Fin 256
  d1 : Fin 256
  d2 : Fin 256
deriving DecidableEq
def f8 (x : Nat) : Fin 256 := ⟨x % 256, Nat.mod_lt _ (by decide)⟩
def f16 (x : Nat) : Fin 65536 := ⟨x % 65536, Nat.mod_lt _ (by decide)⟩
def f32 (x : Nat) : Fin 4294967296 := ⟨x % 4294967296, Nat.mod_lt _ (by decide)⟩
def zE : Evt := ⟨f16 0, f32 0, f16 0, f8 0, f8 0, f8 0, false, f8 0, f8 0, f8 0⟩
instance : Inhabited Evt := ⟨zE⟩
def validE (e : Evt) : Bool := decide (e.id.val ≤ 65534) && decide (e.time.val ≤ 4294967294) && decide (e.typ.val ≤ 127)
theorem validE_iff (e : Evt) : validE e = true ↔ e.id.val ≤ 65534 ∧ e.time.val ≤ 4294967294 ∧ e.typ.val ≤ 127 := by
  unfold validE
  simp only [Bool.and_eq_true, decide_eq_true_eq, and_assoc]
/-- The sixteen bytes of an event. -/
def encEv (e : Evt) : List Int :=
  [((e.id.val % 256 : Nat) : Int), ((e.id.val / 256 : Nat) : Int), 2, ((e.time.val % 256 : Nat) : Int), ((e.time.val / 256 % 256 : Nat) : Int), ((e.time.val / 65536 % 256 : Nat) : Int), ((e.time.val / 16777216 : Nat) : Int),
    ((e.gen.val % 256 : Nat) : Int), ((e.gen.val / 256 : Nat) : Int), 4, ((e.st.val : Nat) : Int), ((e.sen.val : Nat) : Int), ((e.typ.val + (if e.de then 128 else 0) : Nat) : Int), ((e.d0.val : Nat) : Int), ((e.d1.val : Nat) : Int), ((e.d2.val : Nat) : Int)]
theorem encEv_len (e : Evt) : (encEv e).length = 16 := rfl
theorem encEv_byte {e : Evt} (h : validE e = true) : ∀ i, 0 ≤ (encEv e).getD i 0 ∧ (encEv e).getD i 0 ≤ 255 := by
  obtain ⟨h1, h2, h3⟩ := (validE_iff e).1 h
  have k1 := e.id.isLt
  have k2 := e.time.isLt
  have k3 := e.gen.isLt
  have k4 := e.st.isLt
  have k5 := e.sen.isLt
  have k6 := e.d0.isLt
  have k7 := e.d1.isLt
  have k8 := e.d2.isLt
  intro i
  match i with
  | 0 => show 0 ≤ ((e.id.val % 256 : Nat) : Int) ∧ ((e.id.val % 256 : Nat) : Int) ≤ 255; omega
  | 1 => show 0 ≤ ((e.id.val / 256 : Nat) : Int) ∧ ((e.id.val / 256 : Nat) : Int) ≤ 255; omega
  | 2 => show 0 ≤ (2 : Int) ∧ (2 : Int) ≤ 255; omega
  | 3 => show 0 ≤ ((e.time.val % 256 : Nat) : Int) ∧ ((e.time.val % 256 : Nat) : Int) ≤ 255; omega
  | 4 => show 0 ≤ ((e.time.val / 256 % 256 : Nat) : Int) ∧ ((e.time.val / 256 % 256 : Nat) : Int) ≤ 255; omega
  | 5 => show 0 ≤ ((e.time.val / 65536 % 256 : Nat) : Int) ∧ ((e.time.val / 65536 % 256 : Nat) : Int) ≤ 255; omega
  | 6 => show 0 ≤ ((e.time.val / 16777216 : Nat) : Int) ∧ ((e.time.val / 16777216 : Nat) : Int) ≤ 255; omega
  | 7 => show 0 ≤ ((e.gen.val % 256 : Nat) : Int) ∧ ((e.gen.val % 256 : Nat) : Int) ≤ 255; omega
  | 8 => show 0 ≤ ((e.gen.val / 256 : Nat) : Int) ∧ ((e.gen.val / 256 : Nat) : Int) ≤ 255; omega
  | 9 => show 0 ≤ (4 : Int) ∧ (4 : Int) ≤ 255; omega
  | 10 => show 0 ≤ ((e.st.val : Nat) : Int) ∧ ((e.st.val : Nat) : Int) ≤ 255; omega
  | 11 => show 0 ≤ ((e.sen.val : Nat) : Int) ∧ ((e.sen.val : Nat) : Int) ≤ 255; omega
  | 12 => show 0 ≤ ((e.typ.val + (if e.de then 128 else 0) : Nat) : Int) ∧ ((e.typ.val + (if e.de then 128 else 0) : Nat) : Int) ≤ 255; split <;> omega
  | 13 => show 0 ≤ ((e.d0.val : Nat) : Int) ∧ ((e.d0.val : Nat) : Int) ≤ 255; omega
  | 14 => show 0 ≤ ((e.d1.val : Nat) : Int) ∧ ((e.d1.val : Nat) : Int) ≤ 255; omega
  | 15 => show 0 ≤ ((e.d2.val : Nat) : Int) ∧ ((e.d2.val : Nat) : Int) ≤ 255; omega
  | n + 16 => exact ⟨by show 0 ≤ (0 : Int); decide, by show (0 : Int) ≤ 255; decide⟩
/-- The event of sixteen bytes, valid or not. -/
def rawEv (c : Nat → Nat) : Evt :=
  ⟨f16 (c 0 + 256 * c 1), f32 (c 3 + 256 * c 4 + 65536 * c 5 + 16777216 * c 6), f16 (c 7 + 256 * c 8), f8 (c 10), f8 (c 11), f8 (c 12 % 128), decide (128 ≤ c 12), f8 (c 13), f8 (c 14), f8 (c 15)⟩
/-- What sixteen bytes are decoded to. -/
def decEv (c : Nat → Nat) : Option Evt := if c 2 = 2 ∧ c 9 = 4 then (if validE (rawEv c) then some (rawEv c) else none) else none
theorem dec_enc {e : Evt} (h : validE e = true) : decEv (fun i => ((encEv e).getD i 0).toNat) = some e := by
  obtain ⟨h1, h2, h3⟩ := (validE_iff e).1 h
  have hr : rawEv (fun i => ((encEv e).getD i 0).toNat) = e := by
    obtain ⟨⟨id, hid⟩, ⟨time, ht⟩, ⟨gen, hg⟩, ⟨st, hs⟩, ⟨sen, hn⟩, ⟨typ, hy⟩, de, ⟨d0, h0⟩, ⟨d1, h1'⟩, ⟨d2, h2'⟩⟩ := e
    simp only at h1 h2 h3
    unfold rawEv f8 f16 f32
    simp only [encEv, List.getD_cons_zero, List.getD_cons_succ, Int.toNat_natCast, Evt.mk.injEq, Fin.mk.injEq]
    refine ⟨by omega, by omega, by omega, by omega, by omega, ?_, ?_, by omega, by omega, by omega⟩
    · split <;> omega
    · cases de <;> simp <;> omega
  unfold decEv
  rw [hr, if_pos ⟨rfl, rfl⟩, if_pos h]
theorem decEv_valid {c : Nat → Nat} {e : Evt} (h : decEv c = some e) : validE e = true := by
  unfold decEv at h
  split at h
  · split at h
    · injection h with h
      subst h
      assumption
    · cases h
  · cases h
theorem decEv_congr {c d : Nat → Nat} (h : ∀ i, i < 16 → c i = d i) : decEv c = decEv d := by
  have e : rawEv c = rawEv d := by
    unfold rawEv
    rw [h 0 (by omega), h 1 (by omega), h 3 (by omega), h 4 (by omega), h 5 (by omega), h 6 (by omega), h 7 (by omega), h 8 (by omega), h 10 (by omega), h 11 (by omega), h 12 (by omega), h 13 (by omega), h 14 (by omega), h 15 (by omega)]
  unfold decEv
  rw [e, h 2 (by omega), h 9 (by omega)]
/-- The ID behind another one. -/
def behindN (id : Nat) : Nat := if id = 65534 then 1 else id + 1
end Go.Proofs.Ytkdadnlleepkfaa
