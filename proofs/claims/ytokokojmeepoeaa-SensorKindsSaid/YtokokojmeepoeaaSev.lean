/- Severity, both: contracts. -/
import Derived.Test.YtokokojmeepoeaaRefValid
namespace Go.Proofs.Ytokokojmeepoeaa
open Go.RowKit

def sevB (st k : Nat) : Bool := st.testBit (k - 1) || st.testBit (k + 2)
def sevI (st : Nat) : Int := if sevB st 3 then 3 else if sevB st 2 then 2 else if sevB st 1 then 1 else 0
theorem shrs (st : Nat) : ((st : Int) / 4 = ((st / 2 ^ 2 : Nat) : Int)) ∧ ((st : Int) / 32 = ((st / 2 ^ 5 : Nat) : Int)) ∧ ((st : Int) / 2 = ((st / 2 ^ 1 : Nat) : Int)) ∧ ((st : Int) / 16 = ((st / 2 ^ 4 : Nat) : Int)) ∧ ((st : Int) / 8 = ((st / 2 ^ 3 : Nat) : Int)) := by
  refine ⟨?_, ?_, ?_, ?_, ?_⟩ <;> omega
theorem or_bit (st a b : Nat) (h : st < 256) : bits .and .u8 (bits .or .u8 ((st / 2 ^ a : Nat) : Int) ((st / 2 ^ b : Nat) : Int)) 1 = if st.testBit a || st.testBit b then 1 else 0 := by
  have ha : st / 2 ^ a < 256 := Nat.lt_of_le_of_lt (Nat.div_le_self _ _) h
  have hb : st / 2 ^ b < 256 := Nat.lt_of_le_of_lt (Nat.div_le_self _ _) h
  rw [u8_or_nat _ _ ha hb, show (1 : Int) = ((1 : Nat) : Int) from rfl, u8_and_nat _ _ (Nat.or_lt_two_pow (n := 8) ha hb) (by omega), nat_mask1, tb, tb]
  have h1 := Nat.testBit_or (st / 2 ^ a) (st / 2 ^ b) 0
  rw [Nat.testBit_zero, Nat.testBit_zero, Nat.testBit_zero] at h1
  generalize st / 2 ^ a = x at h1 ⊢
  generalize st / 2 ^ b = y at h1 ⊢
  have h4 : (x ||| y) % 2 = if (decide (x % 2 = 1) || decide (y % 2 = 1)) = true then 1 else 0 := by
    rw [← h1]
    rcases Nat.mod_two_eq_zero_or_one (x ||| y) with h | h <;> simp [h]
  rw [h4]
  split <;> rfl
set_option maxRecDepth 100000 in
set_option maxHeartbeats 1000000 in
theorem severity_ok (st : Nat) (hst : st < 256) (w : World) :
    Calls Try.prog 39 #[.int .u8 st] w fun e w' => e = .returned (.int .i64 (sevI st)) ∧ Mods [] w w' := by
  obtain ⟨s4, s32, s2, s16, s8⟩ := shrs st
  go_enter Try.func39, Try.ntmps39
  go_wp2_with fail
  go_loopw [3] (fun i wr => ∃ k : Int, 0 ≤ k ∧ k ≤ 3 ∧ i = .int .i64 k ∧ Mods [] w wr ∧ Hid (∀ j : Nat, k < j → j ≤ 3 → sevB st j = false)) (fun i _ => (intOf i).toNat)
  case atStart => exact ⟨3, by omega, by omega, rfl, Mods.refl, fun j h1 h2 => by omega⟩
  case round =>
    obtain ⟨k, hk0, hk, rfl, M, hs⟩ := hrel
    have hcase : k = 3 ∨ k = 2 ∨ k = 1 ∨ k = 0 := by omega
    rcases hcase with rfl | rfl | rfl | rfl
    · have b := or_bit st 2 5 hst
      rw [←s4, ←s32] at b
      have eb : (st.testBit 2 || st.testBit 5) = sevB st 3 := rfl
      rw [eb] at b
      clear s4 s32 s2 s16 s8 eb
      cases hb : sevB st 3 with
      | true =>
        rw [hb] at b
        have b1 : (bits .and .u8 (bits .or .u8 ((st:Int)/4) ((st:Int)/32)) 1 == 1) = true := by rw [b]; rfl
        have HF := Lib.hid (show sevI st = 3 by simp[sevI,hb])
        clear b hb
        go_wp2_with fail
        go_quiet (fail)
        go_wp2
        go_ret
        exact ⟨ret_int (by rw [HF.out]), M.drewN _⟩
      | false =>
        rw [hb] at b
        have b1 : (bits .and .u8 (bits .or .u8 ((st:Int)/4) ((st:Int)/32)) 1 == 1) = false := by rw [b]; rfl
        have HN := Lib.hid (show ∀ j : Nat, (3 : Int) - 1 < j → j ≤ 3 → sevB st j = false from fun j h1 h2 => by
          by_cases e : j = 3
          · rw [e]; exact hb
          · exact hs.out j (by omega) h2)
        clear b hb
        go_wp2_with fail
        go_quiet (fail)
        go_wp2
        exact ⟨⟨(3 : Int) - 1, by omega, by omega, rfl, M.drewN _, HN.out⟩, by simp only [intOf]; omega⟩
    · have b := or_bit st 1 4 hst
      rw [←s2, ←s16] at b
      have eb : (st.testBit 1 || st.testBit 4) = sevB st 2 := rfl
      rw [eb] at b
      clear s4 s32 s2 s16 s8 eb
      cases hb : sevB st 2 with
      | true =>
        rw [hb] at b
        have b1 : (bits .and .u8 (bits .or .u8 ((st:Int)/2) ((st:Int)/16)) 1 == 1) = true := by rw [b]; rfl
        have HF := Lib.hid (show sevI st = 2 by (have :=hs.out 3 (by omega) (by omega);simp[sevI,hb,this]))
        clear b hb
        go_wp2_with fail
        go_quiet (fail)
        go_wp2
        go_ret
        exact ⟨ret_int (by rw [HF.out]), M.drewN _⟩
      | false =>
        rw [hb] at b
        have b1 : (bits .and .u8 (bits .or .u8 ((st:Int)/2) ((st:Int)/16)) 1 == 1) = false := by rw [b]; rfl
        have HN := Lib.hid (show ∀ j : Nat, (2 : Int) - 1 < j → j ≤ 3 → sevB st j = false from fun j h1 h2 => by
          by_cases e : j = 2
          · rw [e]; exact hb
          · exact hs.out j (by omega) h2)
        clear b hb
        go_wp2_with fail
        go_quiet (fail)
        go_wp2
        exact ⟨⟨(2 : Int) - 1, by omega, by omega, rfl, M.drewN _, HN.out⟩, by simp only [intOf]; omega⟩
    · have b := or_bit st 0 3 hst
      rw [Nat.pow_zero,Nat.div_one, ←s8] at b
      have eb : (st.testBit 0 || st.testBit 3) = sevB st 1 := rfl
      rw [eb] at b
      clear s4 s32 s2 s16 s8 eb
      cases hb : sevB st 1 with
      | true =>
        rw [hb] at b
        have b1 : (bits .and .u8 (bits .or .u8 (st:Int) ((st:Int)/8)) 1 == 1) = true := by rw [b]; rfl
        have HF := Lib.hid (show sevI st = 1 by (have h3:=hs.out 3 (by omega) (by omega);have h2:=hs.out 2 (by omega) (by omega);simp[sevI,hb,h3,h2]))
        clear b hb
        go_wp2_with fail
        go_quiet (fail)
        go_wp2
        go_ret
        exact ⟨ret_int (by rw [HF.out]), M.drewN _⟩
      | false =>
        rw [hb] at b
        have b1 : (bits .and .u8 (bits .or .u8 (st:Int) ((st:Int)/8)) 1 == 1) = false := by rw [b]; rfl
        have HN := Lib.hid (show ∀ j : Nat, (1 : Int) - 1 < j → j ≤ 3 → sevB st j = false from fun j h1 h2 => by
          by_cases e : j = 1
          · rw [e]; exact hb
          · exact hs.out j (by omega) h2)
        clear b hb
        go_wp2_with fail
        go_quiet (fail)
        go_wp2
        exact ⟨⟨(1 : Int) - 1, by omega, by omega, rfl, M.drewN _, HN.out⟩, by simp only [intOf]; omega⟩
    · have HF := Lib.hid (show sevI st = 0 by
        have h3 := hs.out 3 (by omega) (by omega)
        have h2 := hs.out 2 (by omega) (by omega)
        have h1 := hs.out 1 (by omega) (by omega)
        simp [sevI, h3, h2, h1])
      clear s4 s32 s2 s16 s8
      go_wp2
      go_ret
      exact ⟨ret_int (by rw [HF.out]), M⟩
end Go.Proofs.Ytokokojmeepoeaa
