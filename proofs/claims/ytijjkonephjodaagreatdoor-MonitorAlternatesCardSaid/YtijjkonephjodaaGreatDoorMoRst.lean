/- Restore and Rearm of a monitor: contracts. -/
import Derived.Test.YtijjkonephjodaaGreatDoorMoFn
namespace Go.Proofs.YtijjkonephjodaaGreatDoor
open Go.RowKit
set_option linter.unusedVariables false
set_option linter.unusedSimpArgs false
set_option maxRecDepth 100000
theorem sub_bits {x b : Nat} (hx : x < 65536) (hb : b < 65536) (h : x &&& (65535 - b) = 0) : x &&& b = x := by
  refine Nat.eq_of_testBit_eq fun i => ?_
  have h1 : (x &&& (65535 - b)).testBit i = false := by rw [h]; simp
  have e : (65535 - b).testBit i = (decide (i < 16) && !(b.testBit i)) := by
    have := Nat.testBit_two_pow_sub_succ (x := b) (n := 16) hb i
    rwa [show 2 ^ 16 - (b + 1) = 65535 - b by omega] at this
  rw [Nat.testBit_and, e] at h1
  rw [Nat.testBit_and]
  by_cases hi : i < 16
  · rw [decide_eq_true hi] at h1
    cases hx1 : x.testBit i <;> cases hb1 : b.testBit i <;> rw [hx1, hb1] at h1 <;> simp_all
  · have h2 : x.testBit i = false := Nat.testBit_lt_two_pow (Nat.lt_of_lt_of_le hx (Nat.pow_le_pow_right (n := 2) (by omega) (by omega : 16 ≤ i)))
    rw [h2]; rfl
/-- What Restore gives, and the states behind it. -/
def restV (l : List SenX) (st : List Nat) (n x : Nat) : Int × List Nat :=
  if numIdx l n < l.length then (if x &&& (65535 - bitN (l.getD (numIdx l n) default).S) = 0 then (0, st.set (numIdx l n) x) else (2, st)) else (8, st)
section
variable {w : World} {mb fb sb : Nat} {vs va : Value} {l : List SenX} {A : List Asc} {F : List FltX} {st : List Nat}
set_option maxHeartbeats 4000000 in
theorem restore_ok9 (h : MonAt w mb fb sb vs va l A F st) (n x : Nat) (hx : x < 65536) :
    Calls Tryz.prog 32 #[.pointer (some ⟨mb, 0, none⟩), .int .u8 (n : Nat), .int .u16 (x : Nat)] w fun e w' => e = .returned (.int .i64 (restV l st n x).1) ∧ MonAt w' mb fb sb vs va l A F (restV l st n x).2 ∧ Mods [sb] w w' := by
  have H := Lib.hid h
  have HF := Lib.hid (find_ok h n)
  have HI := Lib.hid (show findI l n = if numIdx l n = l.length then -1 else ((numIdx l n : Nat) : Int) from rfl)
  have hl := numIdx_le l n
  have HV := Lib.hid (show restV l st n x = if numIdx l n < l.length then (if x &&& (65535 - bitN (l.getD (numIdx l n) default).S) = 0 then (0, st.set (numIdx l n) x) else (2, st)) else (8, st) from rfl)
  generalize restV l st n x = V at HV ⊢
  generalize findI l n = FI at HF HI
  generalize numIdx l n = K at HI HV hl
  clear h
  by_cases hk : K < l.length
  · have hfi : FI = (K : Int) := by rw [HI.out, if_neg (by omega)]
    subst hfi
    rw [if_pos hk] at HV
    obtain ⟨bb, off, cap, hvs, hc1, hc2⟩ := H.out.sens.at (by omega)
    have HSE := Lib.hid (fun W (M : Mods [] w W) => show RdSens W (.slice (some ⟨bb, off, none⟩) l.length cap) l from hvs ▸ (H.out.mods0 M).sens)
    have HRGS := Lib.hid (fun W (M : Mods [] w W) => (HSE.out W M).range hk)
    have HISS := Lib.hid (fun W (M : Mods [] w W) => (HSE.out W M).is K hk)
    have HC0 := Lib.hid (fun W (M : Mods [] w W) => show W.cell? ⟨mb, 0, none⟩ = some (.slice (some ⟨bb, off, none⟩) l.length cap) from hvs ▸ (H.out.mods0 M).c0)
    have HVAL := Lib.hid (H.out.valid hk)
    have HBL := Lib.hid (bitN_lt (HISS.out w Mods.refl))
    have HPUT := Lib.hid (fun W (M : Mods [] w W) (hb : x &&& (65535 - bitN (l.getD K default).S) = 0) => (H.out.mods0 M).putS hk (sub_bits hx HBL.out hb))
    have HBT := Lib.hid (fun W (M : Mods [] w W) => bits_ok W _ _ (HISS.out W M) HVAL.out)
    have HAN := Lib.hid (u16_andNot_nat x (bitN (l.getD K default).S) hx HBL.out)
    clear hvs hx
    generalize (l.getD K default).P = P at HISS HVAL HBT
    generalize (l.getD K default).S = S at HRGS HISS HVAL HV HBL HPUT HBT HAN
    have k0 : (0 : Int) ≤ (K : Int) := by omega
    have k1 : (K : Int) < (l.length : Int) := by omega
    have kn : decide ((K : Int) < 0) = false := decide_eq_false (by omega)
    go_enter Tryz.func32, Tryz.ntmps32
    go_wp2_with fail
    refine HF.out.mono ?_
    rintro e w1 ⟨rfl, M1⟩
    have HM := Lib.hid M1
    have c0 := HC0.out _ M1
    have HRG := Lib.hid (HRGS.out _ M1)
    clear M1
    go_wp2_with (refine wpList_load_mid rfl 40 (.tmp 21) rfl bb (off + K * 28) (by rfl) S.cells.toList _ HRG.out Tryz.underlying40 rfl (Sen.infoS S) ?_)
    refine (HBT.out _ HM.out).mono ?_
    rintro e w2 ⟨rfl, M2⟩
    have HM2 := Lib.hid (HM.out.trans M2)
    have c3 := (H.out.mods0 HM2.out).c3
    have hc := (H.out.mods0 HM2.out).sc hk
    have hfr := (H.out.mods0 HM2.out).sts.fr K
    have HM2H := Lib.hid (H.out.mods0 HM2.out)
    have han := HAN.out
    clear M2 HRG HBT HBL HAN c0
    by_cases hb : x &&& (65535 - bitN S) = 0
    · rw [if_pos hb] at HV
      rw [hb] at han
      have HP := Lib.hid (HPUT.out _ HM2.out hb)
      clear hb HPUT
      go_wp2_with fail
      go_ret
      rw [HV.out]
      exact ⟨rfl, HP.out, HM2.out.nil.setCell (.inl (by simp)) _⟩
    · rw [if_neg hb] at HV
      have hd : ((((x &&& (65535 - bitN S) : Nat) : Int)) != 0) = true := by simp only [bne_iff_ne, ne_eq]; omega
      generalize x &&& (65535 - bitN S) = xa at han hd
      clear hb HPUT
      go_wp2_with fail
      go_ret
      rw [HV.out]
      exact ⟨rfl, HM2H.out, HM2.out.nil⟩
  · have hfi : FI = -1 := by rw [HI.out, if_pos (by omega)]
    subst hfi
    rw [if_neg hk] at HV
    go_enter Tryz.func32, Tryz.ntmps32
    go_wp2_with fail
    refine HF.out.mono ?_
    rintro e w1 ⟨rfl, M1⟩
    have HM := Lib.hid M1
    clear M1
    go_wp2_with fail
    go_ret
    rw [HV.out]
    exact ⟨rfl, H.out.mods0 HM.out, HM.out.nil⟩
set_option maxHeartbeats 400000 in
theorem rearm_ok9 (h : MonAt w mb fb sb vs va l A F st) (n : Nat) :
    Calls Tryz.prog 39 #[.pointer (some ⟨mb, 0, none⟩), .int .u8 (n : Nat)] w fun e w' => e = .returned (.int .i64 (restV l st n 0).1) ∧ MonAt w' mb fb sb vs va l A F (restV l st n 0).2 ∧ Mods [sb] w w' := by
  have HR := Lib.hid (restore_ok9 h n 0 (by decide))
  clear h
  go_enter Tryz.func39, Tryz.ntmps39
  go_wp2_with fail
  refine HR.out.mono ?_
  rintro e w1 ⟨rfl, h1, h2⟩
  have HX := Lib.hid (And.intro h1 h2)
  clear h1 h2
  go_wp2_with fail
  go_ret
  exact ⟨rfl, HX.out⟩
end
end Go.Proofs.YtijjkonephjodaaGreatDoor
