/- discrete.Apply: contract. -/
import Derived.Test.YtokokojmeepoeaaDStep
namespace Go.Proofs.Ytokokojmeepoeaa
open Go.RowKit

/-- Changes whose numbers fit. -/
def ChgOk (l : List Chg) : Prop := ∀ i, I64 (l.getD i default).idx
theorem applyN_lt : ∀ (l : List Chg) (st : Nat), st < 65536 → (applyN st l).1 < 65536
  | [], st, h => h
  | c :: l, st, h => by
    rw [applyN]
    split
    · exact (by decide : 0 < 65536)
    · split
      · exact (by decide : 0 < 65536)
      · exact applyN_lt l _ (Nat.xor_lt_two_pow (n := 16) h (Nat.pow_lt_pow_right (by omega) (by omega)))
theorem drop_getD {α : Type} (d : α) : ∀ (l : List α) (k : Nat), k < l.length → l.drop k = l.getD k d :: l.drop (k + 1)
  | [], _, h => by simp at h
  | _ :: _, 0, _ => rfl
  | _ :: l, k + 1, h => by simpa using drop_getD d l k (by simpa using h)
theorem and_bit16 {st k : Nat} (hst : st < 65536) (hk : k < 15) : (bits .and .u16 (st : Int) ((2 ^ k : Nat) : Int) != 0) = st.testBit k := by
  have hp : 2 ^ k < 65536 := Nat.pow_lt_pow_right (a := 2) (n := 16) (by omega) (by omega)
  rw [u16_and_nat _ _ hst hp, nat_bit, tb]
  have h0 : 0 < 2 ^ k := Nat.pow_pos (by omega)
  rcases Nat.mod_two_eq_zero_or_one (st / 2 ^ k) with h | h
  · simp [h]
  · rw [h]
    generalize 2 ^ k = p at h0
    simp
    omega
set_option maxRecDepth 100000 in
set_option maxHeartbeats 2000000 in
theorem apply_ok (w : World) (st : Nat) (hst : st < 65536) (v : Value) (l : List Chg) (hv : RdChg w v l) (hl : ChgOk l) (hn : l.length ≤ 1000000) :
    Calls Try.prog 30 #[.int .u16 st, v] w fun e w' => e = .returned (.tuple #[.int .u16 (applyN st l).1, .int .i64 (applyN st l).2]) ∧ Mods [] w w' := by
  have HV := Lib.hid hv
  have HL := Lib.hid hl
  obtain ⟨ad, cap, rfl, hc1, hc2, _⟩ := hv
  have hc3 : cap ≤ 9223372036854775807 := hc2
  clear hl hc2
  go_enter Try.func30, Try.ntmps30
  go_wp2_with fail
  go_loopw [0, 11] (fun s i wr => ∃ (k : Nat) (s2 : Nat), k ≤ l.length ∧ i = .int .i64 k ∧ s = .int .u16 s2 ∧ s2 < 65536 ∧ Hid (applyN st l = applyN s2 (l.drop k)) ∧ Mods [] w wr) (fun _ i _ => l.length - (intOf i).toNat)
  case atStart => exact ⟨0, st, Nat.zero_le _, rfl, rfl, hst, Lib.hid rfl, Mods.refl⟩
  case round =>
    obtain ⟨k, s2, hk, rfl, rfl, hs2, HE, M1⟩ := hrel
    by_cases hlt : k < l.length
    · obtain ⟨_, _, he, _, _, hc⟩ := HV.out.mods0 M1
      obtain ⟨bb, off, rfl, x0, x1⟩ := hc k hlt
      injection he with he1 he2 he3
      subst he1 he3
      clear hc he2
      have HR := HL.out k
      have HD := Lib.hid (show applyN st l = applyN s2 (l.getD k default :: l.drop (k + 1)) by rw [HE.out, drop_getD default l k hlt])
      obtain ⟨p, hp⟩ : ∃ p, p = l.getD k default := ⟨_, rfl⟩
      rw [← hp] at x0 x1 HR HD
      clear hp HE
      obtain ⟨idx, on⟩ := p
      simp only at x0 x1 HR
      obtain ⟨r0, r1⟩ := HR
      have i1 : (0 : Int) ≤ (k : Int) := by omega
      have i2 : (k : Int) < (l.length : Int) := by omega
      have MM := Lib.hid (M1.alloc (.cells #[.int .i64 idx, .bool on] 51))
      clear M1
      by_cases hx : idx < 0 ∨ 15 ≤ idx
      · have HF := Lib.hid (show applyN st l = (0, 2) by rw [HD.out, applyN, if_pos hx])
        by_cases h0 : idx < 0
        · have e1 : decide (idx < 0) = true := decide_eq_true h0
          clear hx
          go_wp2_with fail
          go_ret2
          exact ⟨by rw [HF.out]; rfl, MM.out⟩
        · have e1 : decide (idx < 0) = false := decide_eq_false h0
          have e2 : decide (15 ≤ idx) = true := decide_eq_true (by omega)
          clear hx
          go_wp2_with fail
          go_ret2
          exact ⟨by rw [HF.out]; rfl, MM.out⟩
      · have h0 : 0 ≤ idx := by omega
        have h15 : idx < 15 := by omega
        obtain ⟨j, rfl⟩ := Int.eq_ofNat_of_zero_le h0
        have hj : j < 15 := by omega
        have e1 : decide ((j : Int) < 0) = false := decide_eq_false (by omega)
        have e2 : decide ((15 : Int) ≤ (j : Int)) = false := decide_eq_false (by omega)
        have hab := and_bit16 hs2 hj
        have hpow : IntKind.u16.wrap ((2 : Int) ^ j) = ((2 ^ j : Nat) : Int) := by
          rw [IntKind.wrap_u16]
          have h1 : 2 ^ j < 65536 := Nat.pow_lt_pow_right (a := 2) (n := 16) (by omega) (by omega)
          have h2 : ((2 ^ j : Nat) : Int) = (2 : Int) ^ j := by simp
          rw [← h2]; exact Int.emod_eq_of_lt (Int.natCast_nonneg _) (Int.ofNat_lt.2 h1)
        have hp1 : 2 ^ j < 65536 := Nat.pow_lt_pow_right (a := 2) (n := 16) (by omega) (by omega)
        have hxo : bits .xor .u16 (s2 : Int) ((2 ^ j : Nat) : Int) = ((s2 ^^^ 2 ^ j : Nat) : Int) := u16_xor_nat _ _ hs2 hp1
        have hxl : s2 ^^^ 2 ^ j < 65536 := Nat.xor_lt_two_pow (n := 16) hs2 hp1
        have HS := Lib.hid (show applyN st l = if s2.testBit j = on then (0, 1) else applyN (s2 ^^^ 2 ^ j) (l.drop (k + 1)) by rw [HD.out, applyN, if_neg hx]; rfl)
        clear HD hx
        generalize s2 ^^^ 2 ^ j = s3 at hxo hxl HS
        generalize s2.testBit j = tb1 at hab HS
        generalize 2 ^ j = p at hpow hab hxo hp1
        by_cases hq : tb1 = on
        · have HF := Lib.hid (show applyN st l = (0, 1) by rw [HS.out, if_pos hq])
          have e3 : (tb1 == on) = true := by simp [hq]
          clear hq HS
          go_wp2_with fail
          go_ret2
          exact ⟨by rw [HF.out]; rfl, MM.out⟩
        · have HF := Lib.hid (show applyN st l = applyN s3 (l.drop (k + 1)) by rw [HS.out, if_neg hq])
          have e3 : (tb1 == on) = false := by simp [hq]
          clear hq HS
          go_wp2_with fail
          exact ⟨⟨k + 1, s3, by omega, by go_num, rfl, hxl, HF, MM.out⟩, by simp only [intOf]; omega⟩
    · have hk6 : k = l.length := by omega
      subst hk6
      have HF := Lib.hid (show applyN st l = (s2, 0) by rw [HE.out, List.drop_length]; rfl)
      go_wp2
      go_ret2
      exact ⟨by rw [HF.out]; rfl, M1⟩
end Go.Proofs.Ytokokojmeepoeaa
