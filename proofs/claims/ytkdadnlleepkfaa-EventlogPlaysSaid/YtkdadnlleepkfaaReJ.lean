/- Joined texts. The reference's device: Fits, fails, Arm, Restore: contracts. Its layout is the program's. | The reference's Program: contract. | The reference's Erase: contract. | The reference's New: contract. -/
import Derived.Test.YtkdadnlleepkfaaFlashPure
import Derived.StillTailTactics
import Derived.Test.YtkdadnlleepkfaaFlashErase
import Derived.Test.YtkdadnlleepkfaaFlashMake
namespace Go.Proofs.Ytkdadnlleepkfaa
open Go.RowKit
set_option maxRecDepth 100000
set_option maxHeartbeats 400000 in
theorem refFits_ok (w : World) (p : DevAt) (D : Dev) (h : IsDev w p D) (ok : D.Ok) (at_ n : Int) :
    Calls Try.prog 64 #[.pointer (some ⟨p.b, 0, none⟩), .int .i64 at_, .int .i64 n] w fun e w' => e = .returned (.bool (fits D at_ n)) ∧ w = w' := by
  have h1 := h.c1
  have hl := ok.len
  have E := Lib.hid (show ∀ b, (b = true ↔ (0 ≤ at_ ∧ 0 ≤ n ∧ at_ + n ≤ (D.data.length : Int))) → b = fits D at_ n from fun b hb => by
    unfold fits
    cases b with
    | true => exact (decide_eq_true (hb.1 rfl)).symm
    | false => exact (decide_eq_false (fun h => by have := hb.2 h; cases this)).symm)
  clear h
  by_cases a0 : 0 ≤ at_
  · by_cases n0 : 0 ≤ n
    · by_cases a1 : at_ ≤ (D.data.length : Int)
      · have hw : IntKind.i64.wrap ((D.data.length : Int) - at_) = (D.data.length : Int) - at_ := IntWalk.i64_in _ (by omega)
        by_cases n1 : n ≤ (D.data.length : Int) - at_
        · go_enter Try.func64, Try.ntmps64
          go_wp2_with fail
          go_ret
          exact ⟨ret_bool (E.out _ ⟨fun _ => by omega, fun _ => rfl⟩), rfl⟩
        · have n2 : decide (n ≤ (D.data.length : Int) - at_) = false := by simpa using n1
          have K := Lib.hid (E.out false ⟨nofun, fun h => by omega⟩)
          clear n1
          go_enter Try.func64, Try.ntmps64
          go_wp2_with fail
          go_ret
          exact ⟨ret_bool (by first | exact K.out | (rw [← K.out]; simp; omega)), rfl⟩
      · have a2 : decide (at_ ≤ (D.data.length : Int)) = false := by simpa using a1
        have K := Lib.hid (E.out false ⟨nofun, fun h => by omega⟩)
        clear a1
        go_enter Try.func64, Try.ntmps64
        go_wp2_with fail
        go_ret
        exact ⟨ret_bool (by first | exact K.out | (rw [← K.out]; simp; omega)), rfl⟩
    · have n2 : decide (0 ≤ n) = false := by simpa using n0
      have K := Lib.hid (E.out false ⟨nofun, fun h => by omega⟩)
      clear n0
      go_enter Try.func64, Try.ntmps64
      go_wp2_with fail
      go_ret
      exact ⟨ret_bool (by first | exact K.out | (rw [← K.out]; simp; omega)), rfl⟩
  · have a2 : decide (0 ≤ at_) = false := by simpa using a0
    have K := Lib.hid (E.out false ⟨nofun, fun h => by omega⟩)
    clear a0
    go_enter Try.func64, Try.ntmps64
    go_wp2_with fail
    go_ret
    exact ⟨ret_bool (by first | exact K.out | (rw [← K.out]; simp; omega)), rfl⟩

set_option maxHeartbeats 1000000 in
theorem refFails_ok (w : World) (p : DevAt) (D : Dev) (h : IsDev w p D) (ok : D.Ok) (hd : D.down = false) (hs : D.steps ≤ 4611686018427387904) :
    Calls Try.prog 65 #[.pointer (some ⟨p.b, 0, none⟩)] w fun e w' => e = .returned (.bool D.step.down) ∧ IsDev w' p D.step ∧ Mods [p.b] w w' := by
  have h3 := h.c3
  have h4 := h.c4
  have h6 := h.c6
  have hf := h.fb
  have hs0 := ok.st
  have hlf := ok.lf
  have H := Lib.hid h
  clear h
  by_cases c0 : D.left = 0
  · have e0 : (D.left == 0) = true := by simpa using c0
    have E := Lib.hid (show D.step = { D with steps := D.steps + 1 } by rw [Dev.step, if_neg (by omega)])
    have E2 := Lib.hid (show D.step.down = false by rw [E.out]; exact hd)
    clear c0 hd
    go_enter Try.func65, Try.ntmps65
    go_wp2_with fail
    go_ret
    exact ⟨ret_bool (by rw [E2.out]), by rw [E.out]; exact H.out.set3 _, Mods.refl.setCell (.inl (by simp)) _⟩
  · have e0 : (D.left == 0) = false := by simpa using c0
    by_cases c1 : D.left = 1
    · have E := Lib.hid (show D.step = { D with steps := D.steps + 1, left := D.left - 1, down := true } by rw [Dev.step, if_pos (by omega), c1]; rfl)
      have E2 := Lib.hid (show D.step.down = true by rw [E.out])
      have e1 : ¬ (0 : Int) < D.left - 1 := by omega
      clear c0 c1 hd
      go_enter Try.func65, Try.ntmps65
      go_wp2_with fail
      go_ret
      exact ⟨ret_bool (by rw [E2.out]), by rw [E.out]; exact ((H.out.set3 _).set4 _).set6 _, ((Mods.refl.setCell (.inl (by simp)) _).setCell (.inl (by simp)) _).setCell (.inl (by simp)) _⟩
    · have E := Lib.hid (show D.step = { D with steps := D.steps + 1, left := D.left - 1 } by
        rw [Dev.step, if_pos (by omega)]
        have : (D.left - 1 == 0) = false := by simp; omega
        rw [this, hd])
      have E2 := Lib.hid (show D.step.down = false by rw [E.out]; exact hd)
      have e1 : (0 : Int) < D.left - 1 := by omega
      clear c0 c1 hd
      go_enter Try.func65, Try.ntmps65
      go_wp2_with fail
      go_ret
      exact ⟨ret_bool (by rw [E2.out]), by rw [E.out]; exact (H.out.set3 _).set4 _, (Mods.refl.setCell (.inl (by simp)) _).setCell (.inl (by simp)) _⟩

set_option maxHeartbeats 400000 in
theorem refArm_ok (w : World) (p : DevAt) (D : Dev) (h : IsDev w p D) (steps torn : Int) :
    Calls Try.prog 43 #[.pointer (some ⟨p.b, 0, none⟩), .int .i64 steps, .int .u8 torn] w fun e w' => e = .returned (.tuple #[]) ∧ IsDev w' p (D.arm steps torn) ∧ Mods [p.b] w w' := by
  have h4 := h.c4
  have h5 := h.c5
  have h6 := h.c6
  have hf := h.fb
  have H := Lib.hid h
  clear h
  by_cases hd : D.down = true
  · have E := Lib.hid (Dev.arm_down hd steps torn)
    rw [hd] at h6
    clear hd
    go_enter Try.func43, Try.ntmps43
    go_wp2
    refine bodyPost_ret (results_none rfl _ _ _) rfl ?_
    exact ⟨rfl, by rw [E.out]; exact H.out, Mods.refl⟩
  · have hd' : D.down = false := by simpa using hd
    have E := Lib.hid (Dev.arm_up hd' steps torn)
    rw [hd'] at h6
    clear hd hd'
    go_enter Try.func43, Try.ntmps43
    go_wp2
    · go_end0
      have e : max steps 0 = 0 := by omega
      exact ⟨rfl, by rw [E.out, e]; exact (H.out.set4 0).set5 torn, (Mods.refl.setCell (.inl (by simp)) _).setCell (.inl (by simp)) _⟩
    · go_end0
      have e : max steps 0 = steps := by omega
      exact ⟨rfl, by rw [E.out, e]; exact (H.out.set4 steps).set5 torn, (Mods.refl.setCell (.inl (by simp)) _).setCell (.inl (by simp)) _⟩

set_option maxHeartbeats 400000 in
theorem refRestore_ok (w : World) (p : DevAt) (D : Dev) (h : IsDev w p D) :
    Calls Try.prog 44 #[.pointer (some ⟨p.b, 0, none⟩)] w fun e w' => e = .returned (.tuple #[]) ∧ IsDev w' p D.restore ∧ Mods [p.b] w w' := by
  have h4 := h.c4
  have h6 := h.c6
  have hf := h.fb
  have H := Lib.hid ((h.set6 false).set4 0)
  clear h
  go_enter Try.func44, Try.ntmps44
  go_wp2
  go_end0
  exact ⟨rfl, H.out, (Mods.refl.setCell (.inl (by simp)) _).setCell (.inl (by simp)) _⟩
end Go.Proofs.Ytkdadnlleepkfaa

namespace Go.Proofs.Ytkdadnlleepkfaa
open Go.RowKit
set_option maxRecDepth 100000
set_option maxHeartbeats 1000000 in
theorem refRun_ok (w : World) (p : DevAt) (D : Dev) (h : IsDev w p D) (ok : D.Ok) (n : Nat) (v : Value) (l : List Int) (hv : Rd w v (u8s l)) (hb : ∀ i, 0 ≤ l.getD i 0 ∧ l.getD i 0 ≤ 255)
    (hne : l ≠ [] → ∀ k, v.ownBlock = some k → k ∉ [p.b, p.g]) (hs : D.steps ≤ 4611686018427000000) (hd : D.down = false) (hf : fits D n l.length = true) :
    Calls Try.prog 33 #[.pointer (some ⟨p.b, 0, none⟩), .int .i64 n, v] w fun e w' => e = .returned (.int .i64 (D.run n l).1) ∧ IsDev w' p (D.run n l).2 ∧ Mods [p.b, p.g] w w' := by
  obtain ⟨ad, cap, rfl, hcap, hcap2, hvc⟩ := hv.u8
  have hfit : n + l.length ≤ D.data.length := by simp [fits] at hf; omega
  have hlen := ok.len
  have h6 := h.c6
  rw [hd] at h6
  have H := Lib.hid h
  have HF := Lib.hid hf
  have HB := Lib.hid hb
  have HVC := Lib.hid hvc
  have HD := Lib.hid hd
  clear h hv hd hf hb hvc
  unfold maxLen at hcap2
  go_enter Try.func33, Try.ntmps33
  go_wp2_with fail
  refine (refFits_ok _ p D H.out ok _ _).mono ?_
  rw [HF.out]
  rintro e w' ⟨rfl, rfl⟩
  clear h6
  go_wp2_with fail
  go_loopw [7] (fun c wr => ∃ k : Nat, k ≤ l.length ∧ c = .int .i64 k ∧ ∃ Dk : Dev, IsDev wr p Dk ∧ Dk.Ok ∧ Hid (Dk.down = false) ∧ Hid (Dk.data.length = D.data.length) ∧ Dk.steps ≤ 4611686018427000000 + k ∧ Hid (Dk.run (n + k) (l.drop k) = D.run n l) ∧ Mods [p.b, p.g] w wr) (fun c _ => l.length - (intOf c).toNat)
  case atStart => exact ⟨0, Nat.zero_le _, rfl, D, H.out, ok, HD.out, rfl, by simpa using hs, by simp [Hid], Mods.refl⟩
  case round =>
    obtain ⟨k, hk, rfl, Dk, I, okk, hdk, hlk, hsk, hrun, hm⟩ := hrel
    by_cases hlt : k < l.length
    · obtain ⟨b', off, rfl, hc⟩ := HVC.out k hlt
      have hnb := hne (by rintro rfl; simp at hlt) _ rfl
      have hcw := hm.cell hc hnb
      have hbk := HB.out k
      clear hc
      have hst := okk.step
      have ht := hst.tn
      have R0 := Lib.hid (drop_cons l k hlt)
      go_wp2_with fail
      refine (refFails_ok wr p Dk I okk hdk.out (by omega)).mono ?_
      rintro e w1 ⟨rfl, I1, M1⟩
      have hl2 : (n + k) < Dk.step.data.length := by rw [Dev.step_data, hlk.out]; omega
      have hst2 := Lib.hid Dk.step_steps
      have h1 := I1.c1
      have h5 := I1.c5
      have hat := I1.at hl2
      have hby := hst.byt (n + k)
      have hcw := M1.cell hcw (by simp at hnb ⊢; exact hnb.1)
      have hm1 := hm.comp M1 (fun j hj => .inl (by simp at hj; simp [hj]))
      have hl3 : (n : Int) + (k : Int) < (Dk.step.data.length : Int) := by omega
      have hz : (0 : Int) ≤ (n : Int) + (k : Int) := by omega
      have hws : IntKind.i64.wrap ((n : Int) + (k : Int)) = (n : Int) + (k : Int) := IntWalk.i64_in _ (by omega)
      have htn : ((n : Int) + (k : Int)).toNat = n + k := by omega
      by_cases hsd : Dk.step.down = true
      · have R := Lib.hid (show D.run n l = (10, Dk.step.put (n + k) (bits .and .u8 (Dk.step.data.getD (n + k) 0) (bits .or .u8 (l.getD k 0) Dk.step.torn))) by
          rw [← hrun.out, R0.out, Dev.run, if_pos hsd, Dev.step_data, Dev.step_torn])
        have HL := Lib.hid (show Dk.step.data.length = D.data.length by rw [Dev.step_data]; exact hlk.out)
        generalize Dk.step = E at I1 hst ht hl2 hst2 h1 h5 hat hby hl3 hsd R HL
        generalize l.getD k 0 = x at hcw hbk R R0
        obtain ⟨y, hy⟩ : ∃ y, y = E.data.getD (n + k) 0 := ⟨_, rfl⟩
        rw [← hy] at hat hby R
        clear R0 I hm M1 hdk hlk hrun okk hy
        rw [hsd]
        go_wp2_with fail
        go_still_tail 26, (by kernel_rfl)
        clear hws htn h1 h5 hcw hat
        change wpList _ _ _ _ _ w1.drew
        have I2 := I1.drew
        have M2 := hm1.drew
        generalize w1.drew = w2 at I2 M2 ⊢
        have hat := I2.at hl2
        have hfz := I2.fg
        have HE := Lib.hid (show IsDev (w2.setCell ⟨p.g, n + k, none⟩ (.int .u8 (bits .and .u8 y (bits .or .u8 x E.torn)))) p (E.put (n + k) (bits .and .u8 y (bits .or .u8 x E.torn))) by simpa [Dev.put, hl2] using I2.setDat (n + k) (bits .and .u8 y (bits .or .u8 x E.torn)))
        have HM := Lib.hid (M2.setCell (p := ⟨p.g, n + k, none⟩) (.inl (by simp)) (.int .u8 (bits .and .u8 y (bits .or .u8 x E.torn))))
        clear I2 M2 I1 hm1
        go_wp2_with fail
        go_ret
        exact ⟨ret_int (by rw [R.out]), by rw [R.out]; exact HE.out, HM.out⟩
      · have R := Lib.hid (show (Dk.step.put (n + k) (bits .and .u8 (Dk.step.data.getD (n + k) 0) (l.getD k 0))).run (n + (k + 1)) (l.drop (k + 1)) = D.run n l by
          rw [← hrun.out, R0.out, Dev.run, if_neg hsd, Dev.step_data, ← Nat.add_assoc])
        have HL := Lib.hid (show Dk.step.data.length = D.data.length by rw [Dev.step_data]; exact hlk.out)
        have hsd' : Dk.step.down = false := by simpa using hsd
        generalize Dk.step = E at I1 hst ht hl2 hst2 h1 h5 hat hby hl3 hsd' R HL ⊢
        generalize l.getD k 0 = x at hcw hbk R R0
        have HO := Lib.hid (hst.put (n + k) (bits_byte .and (E.data.getD (n + k) 0) x).1 (bits_byte .and (E.data.getD (n + k) 0) x).2)
        have HDN := Lib.hid (show (E.put (n + k) (bits .and .u8 (E.data.getD (n + k) 0) x)).down = false from hsd')
        have HLN := Lib.hid (show (E.put (n + k) (bits .and .u8 (E.data.getD (n + k) 0) x)).data.length = D.data.length by simp only [Dev.put, List.length_set]; exact HL.out)
        have HSN : (E.put (n + k) (bits .and .u8 (E.data.getD (n + k) 0) x)).steps ≤ 4611686018427000000 + ((k + 1 : Nat) : Int) := by simp only [Dev.put]; rw [hst2.out]; omega
        have HSN := Lib.hid HSN
        obtain ⟨y, hy⟩ : ∃ y, y = E.data.getD (n + k) 0 := ⟨_, rfl⟩
        rw [← hy] at hat hby R HO HDN HLN HSN
        clear R0 I hm M1 hdk hlk hrun okk hy hsd
        rw [hsd']
        clear hsd'
        go_wp2_with fail
        go_still_tail 21, (by kernel_rfl)
        clear hws htn h1 h5 hcw hat
        change wpList _ _ _ _ _ w1.drew
        have I2 := I1.drew
        have M2 := hm1.drew
        generalize w1.drew = w2 at I2 M2 ⊢
        have hat := I2.at hl2
        have hfz := I2.fg
        have HE := Lib.hid (show IsDev (w2.setCell ⟨p.g, n + k, none⟩ (.int .u8 (bits .and .u8 y x))) p (E.put (n + k) (bits .and .u8 y x)) by simpa [Dev.put, hl2] using I2.setDat (n + k) (bits .and .u8 y x))
        have HM := Lib.hid (M2.setCell (p := ⟨p.g, n + k, none⟩) (.inl (by simp)) (.int .u8 (bits .and .u8 y x)))
        clear I2 M2 I1 hm1
        go_wp2_with fail
        go_roundw
        case rel => exact ⟨k + 1, by omega, by go_num, _, HE.out, HO.out, HDN.out, HLN.out, HSN.out, R.out, HM.out⟩
        case measure => simp [intOf]; omega
    · have e : k = l.length := by omega
      have R := Lib.hid (show D.run n l = (0, Dk) by rw [← hrun.out, List.drop_eq_nil_of_le (by omega)]; rfl)
      clear hrun
      go_wp2
      go_ret
      exact ⟨ret_int (by rw [R.out]), by rw [R.out]; exact I, hm⟩
set_option maxHeartbeats 400000 in
theorem refProgram_ok (w : World) (p : DevAt) (D : Dev) (h : IsDev w p D) (ok : D.Ok) (at_ : Int) (v : Value) (l : List Int) (hv : Rd w v (u8s l)) (hb : ∀ i, 0 ≤ l.getD i 0 ∧ l.getD i 0 ≤ 255)
    (hne : l ≠ [] → ∀ k, v.ownBlock = some k → k ∉ [p.b, p.g]) (hs : D.steps ≤ 4611686018427000000) :
    Calls Try.prog 33 #[.pointer (some ⟨p.b, 0, none⟩), .int .i64 at_, v] w fun e w' => e = .returned (.int .i64 (D.program at_ l).1) ∧ IsDev w' p (D.program at_ l).2 ∧ Mods [p.b, p.g] w w' := by
  by_cases hd : D.down = true
  · have E := Lib.hid (show D.program at_ l = (10, D) by rw [Dev.program, if_pos hd])
    have h6 := h.c6
    rw [hd] at h6
    clear hd hne hv
    go_enter Try.func33, Try.ntmps33
    go_wp2_with fail
    go_ret
    exact ⟨ret_int (by rw [E.out]), by rw [E.out]; exact h, Mods.refl⟩
  · have hd' : D.down = false := by simpa using hd
    by_cases hf : fits D at_ l.length = true
    · have h0 : 0 ≤ at_ := by simp [fits] at hf; omega
      obtain ⟨n, rfl⟩ := Int.eq_ofNat_of_zero_le h0
      have E : D.program (n : Int) l = D.run n l := by rw [Dev.program, if_neg hd, if_pos hf]; simp
      rw [E]
      exact refRun_ok w p D h ok n v l hv hb hne hs hd' hf
    · have E := Lib.hid (show D.program at_ l = (2, D) by rw [Dev.program, if_neg hd, if_neg hf])
      have h6 := h.c6
      rw [hd'] at h6
      have H := Lib.hid h
      have hf' := Lib.hid (show fits D at_ l.length = false by simpa using hf)
      obtain ⟨ad, cap, rfl, hcap, hcap2, _⟩ := hv.u8
      clear hd hne hv hd' hf h
      unfold maxLen at hcap2
      go_enter Try.func33, Try.ntmps33
      go_wp2_with fail
      refine (refFits_ok _ p D H.out ok _ _).mono ?_
      rw [hf'.out]
      rintro e w' ⟨rfl, rfl⟩
      go_wp2_with fail
      go_ret
      exact ⟨ret_int (by rw [E.out]), by rw [E.out]; exact H.out, Mods.refl⟩
end Go.Proofs.Ytkdadnlleepkfaa

namespace Go.Proofs.Ytkdadnlleepkfaa
open Go.RowKit
set_option maxRecDepth 100000
set_option maxHeartbeats 1000000 in
theorem refErased_ok (w : World) (p : DevAt) (D : Dev) (h : IsDev w p D) (ok : D.Ok) (i : Nat) (hi : i < D.wear.length) (hd : D.down = false) (hs : D.steps ≤ 4611686018427000000) (hw : D.wear.getD i 0 ≤ 4611686018427000000) :
    Calls Try.prog 92 #[.pointer (some ⟨p.b, 0, none⟩), .int .i64 i] w fun e w' => e = .returned (.int .i64 (D.erased i).1) ∧ IsDev w' p (D.erased i).2 ∧ Mods p.foot w w' := by
  have h6 := h.c6
  have h2 := h.c2
  rw [hd] at h6
  have hwi := h.wat hi
  have hfw := h.fw
  have hwl := ok.wl
  have hw0 := ok.wr i
  have hsec := sector_in ok hi
  have hlen := ok.len
  have hs0 := ok.s0
  have hs1 := ok.s1
  have H := Lib.hid h
  have i1 : (0 : Int) ≤ (i : Int) := by omega
  have i2 : (i : Int) < (D.wear.length : Int) := by omega
  have d1 : decide ((i : Int) < 0) = false := by simp
  have d2 : decide ((D.wear.length : Int) ≤ (i : Int)) = false := by simp; omega
  generalize hx : D.wear.getD i 0 = x at hwi hw hw0
  have J := Lib.hid (show IsDev (w.setCell ⟨p.gw, i, none⟩ (.int .i64 (x + 1))) p (D.worn i) by rw [Dev.worn, hx]; exact h.setWear i (x + 1))
  have M1 : Mods p.foot w (w.setCell ⟨p.gw, i, none⟩ (.int .i64 (x + 1))) := Mods.refl.setCell (.inl (by simp [DevAt.foot])) _
  have ok1 := ok.worn i
  have hst : (D.worn i).steps ≤ 4611686018427387904 := by show D.steps ≤ _; omega
  have htn := ok.tn
  have HDN := Lib.hid (show (D.worn i).down = false from hd)
  obtain ⟨a, ha⟩ : ∃ a, a = i * D.size := ⟨_, rfl⟩
  rw [← ha] at hsec
  have HP1 := Lib.hid (show IntKind.i64.wrap ((i : Int) + 1) = (i : Int) + 1 from IntWalk.i64_in _ (by omega))
  have HP2 := Lib.hid (show IntKind.i64.wrap ((i : Int) * (D.size : Int)) = (a : Int) by rw [ha, Int.natCast_mul]; exact IntWalk.i64_in _ (by rw [← Int.natCast_mul, ← ha]; omega))
  have HP3 := Lib.hid (show IntKind.i64.wrap (((i : Int) + 1) * (D.size : Int)) = (a : Int) + (D.size : Int) by
    rw [Int.add_mul, Int.one_mul, ← Int.natCast_mul, ← ha]; exact IntWalk.i64_in _ (by omega))
  have HA := Lib.hid ha
  have HSZ := Lib.hid (show (D.worn i).step.size = D.size from Dev.step_size _)
  have HTN := Lib.hid (show (D.worn i).step.torn = D.torn from Dev.step_torn _)
  have HDT := Lib.hid (show (D.worn i).step.data = D.data from Dev.step_data _)
  have HB := Lib.hid ok.byt
  clear hd hx h ha ok
  go_enter Try.func92, Try.ntmps92
  go_wp2_with fail
  have J := J.out
  generalize w.setCell ⟨p.gw, i, none⟩ (.int .i64 (x + 1)) = w1 at J M1 ⊢
  refine (refFails_ok w1 p (D.worn i) J ok1 HDN.out hst).mono ?_
  rintro e w2 ⟨rfl, I2, M2⟩
  have M3 := M1.comp M2 (by intro k hk; simp at hk; subst hk; simp [DevAt.foot])
  clear h6 h2 hwi hfw M1 M2 d1 d2 J ok1 hst
  have R1 := Lib.hid (show (D.worn i).step.down = true → D.erased i = (10, (D.worn i).step.over a D.size D.torn) from fun hdn => by rw [Dev.erased, if_pos hdn, if_pos hdn, HA.out])
  have R0 := Lib.hid (show (D.worn i).step.down = false → D.erased i = (0, (D.worn i).step.over a D.size 255) from fun hdn => by rw [Dev.erased, if_neg (by rw [hdn]; simp), if_neg (by rw [hdn]; simp), HA.out])
  generalize (D.worn i).step = E at I2 HSZ HTN HDT R1 R0 ⊢
  cases hdn : E.down with
  | true =>
    have R := Lib.hid (R1.out hdn)
    have h0 : w2.cell? ⟨p.b, 0, none⟩ = some (.int .i64 D.size) := by rw [← HSZ.out]; exact I2.c0
    have hp2 := HP2.out
    clear hdn
    go_wp2_with fail
    clear h0 hp2
    go_loopw [5] (fun c wr => ∃ k : Nat, k ≤ D.size ∧ c = .int .i64 ((a : Int) + (k : Int)) ∧ IsDev wr p (E.over a k D.torn) ∧ Mods p.foot w wr) (fun c _ => a + D.size - (intOf c).toNat)
    case atStart => exact ⟨0, Nat.zero_le _, rfl, by rw [Dev.over, orRange_zero]; exact I2, M3⟩
    case round =>
      obtain ⟨k, hk, rfl, I, hm⟩ := hrel
      clear I2 M3
      have h0 : wr.cell? ⟨p.b, 0, none⟩ = some (.int .i64 D.size) := by rw [← HSZ.out]; exact I.c0
      have hp1 := HP1.out
      have hp3 := HP3.out
      have htn : ((a : Int) + (k : Int)).toNat = a + k := by omega
      have hz : (0 : Int) ≤ (a : Int) + (k : Int) := by omega
      by_cases hlt : k < D.size
      · have hl2 : a + k < (E.over a k D.torn).data.length := by rw [Dev.over, orRange_len, HDT.out]; omega
        have h1 : wr.cell? ⟨p.b, 1, none⟩ = some (.slice (some ⟨p.g, 0, none⟩) D.data.length p.cb) := by
          have := I.c1; rw [show (E.over a k D.torn).data.length = D.data.length by rw [Dev.over, orRange_len, HDT.out]] at this; exact this
        have h5 : wr.cell? ⟨p.b, 5, none⟩ = some (.int .u8 D.torn) := by rw [← HTN.out]; exact I.c5
        have hc := I.at hl2
        have e2 : (E.over a k D.torn).data.getD (a + k) 0 = D.data.getD (a + k) 0 := by
          rw [Dev.over, orRange_getD _ _ _ _ _ (by rw [HDT.out]; omega), if_neg (by omega), HDT.out]
        rw [e2] at hc
        have hby := HB.out (a + k)
        have e3 : ({ E.over a k D.torn with data := (E.over a k D.torn).data.set (a + k) (bits .or .u8 (D.data.getD (a + k) 0) D.torn) } : Dev) = E.over a (k + 1) D.torn := by
          have := orRange_succ E.data a k D.torn (by rw [HDT.out]; omega)
          rw [HDT.out] at this
          simp only [Dev.over, HDT.out, this]
        have E3 := Lib.hid e3
        generalize D.data.getD (a + k) 0 = y at hc hby E3
        have hl4 : (a : Int) + (k : Int) < (D.data.length : Int) := by omega
        clear e2 e3 hl2
        go_wp2_with fail
        clear h0 hp1 hp3
        go_still_tail 17, (by kernel_rfl)
        clear h1 h5 hc htn
        change wpList _ _ _ _ _ wr.drew
        have I2 := I.drew
        have M2 := hm.drew
        generalize wr.drew = w3 at I2 M2 ⊢
        have hl3 : a + k < (E.over a k D.torn).data.length := by rw [Dev.over, orRange_len, HDT.out]; omega
        have hc := I2.at hl3
        have hfz := I2.fg
        have HE := Lib.hid (by have := I2.setDat (a + k) (bits .or .u8 y D.torn); rw [E3.out] at this; exact this)
        have HM := Lib.hid (M2.setCell (p := ⟨p.g, a + k, none⟩) (.inl (by simp [DevAt.foot])) (.int .u8 (bits .or .u8 y D.torn)))
        clear I2 M2 I hm
        go_wp2
        go_roundw
        case rel => exact ⟨k + 1, by omega, by go_num, HE.out, HM.out⟩
        case measure => simp [intOf]; omega
      · have e : k = D.size := by omega
        rw [e] at I
        have HI := Lib.hid I
        clear e I
        go_wp2
        go_ret
        exact ⟨ret_int (by rw [R.out]), by rw [R.out]; exact HI.out, hm⟩
  | false =>
    have R := Lib.hid (R0.out hdn)
    have h0 : w2.cell? ⟨p.b, 0, none⟩ = some (.int .i64 D.size) := by rw [← HSZ.out]; exact I2.c0
    have hp2 := HP2.out
    clear hdn
    go_wp2_with fail
    clear h0 hp2
    go_loopw [6] (fun c wr => ∃ k : Nat, k ≤ D.size ∧ c = .int .i64 ((a : Int) + (k : Int)) ∧ IsDev wr p (E.over a k 255) ∧ Mods p.foot w wr) (fun c _ => a + D.size - (intOf c).toNat)
    case atStart => exact ⟨0, Nat.zero_le _, rfl, by rw [Dev.over, orRange_zero]; exact I2, M3⟩
    case round =>
      obtain ⟨k, hk, rfl, I, hm⟩ := hrel
      clear I2 M3
      have h0 : wr.cell? ⟨p.b, 0, none⟩ = some (.int .i64 D.size) := by rw [← HSZ.out]; exact I.c0
      have hp1 := HP1.out
      have hp3 := HP3.out
      have htn : ((a : Int) + (k : Int)).toNat = a + k := by omega
      have hz : (0 : Int) ≤ (a : Int) + (k : Int) := by omega
      by_cases hlt : k < D.size
      · have hl2 : a + k < (E.over a k 255).data.length := by rw [Dev.over, orRange_len, HDT.out]; omega
        have h1 : wr.cell? ⟨p.b, 1, none⟩ = some (.slice (some ⟨p.g, 0, none⟩) D.data.length p.cb) := by
          have := I.c1; rw [show (E.over a k 255).data.length = D.data.length by rw [Dev.over, orRange_len, HDT.out]] at this; exact this
        have hc := I.at hl2
        have hfz := I.fg
        have hby := HB.out (a + k)
        have e3 : ({ E.over a k 255 with data := (E.over a k 255).data.set (a + k) 255 } : Dev) = E.over a (k + 1) 255 := by
          have := orRange_succ E.data a k 255 (by rw [HDT.out]; omega)
          rw [HDT.out, or_ff hby.1 hby.2] at this
          simp only [Dev.over, HDT.out, this]
        have HE := Lib.hid (by have := I.setDat (a + k) 255; rw [e3] at this; exact this)
        have HM := Lib.hid (hm.setCell (p := ⟨p.g, a + k, none⟩) (.inl (by simp [DevAt.foot])) (.int .u8 255))
        generalize (E.over a k 255).data.getD (a + k) 0 = y at hc
        have hl4 : (a : Int) + (k : Int) < (D.data.length : Int) := by omega
        clear e3 hl2 I hm hby
        go_wp2
        go_roundw
        case rel => exact ⟨k + 1, by omega, by go_num, HE.out, HM.out⟩
        case measure => simp [intOf]; omega
      · have e : k = D.size := by omega
        rw [e] at I
        have HI := Lib.hid I
        clear e I
        go_wp2
        go_ret
        exact ⟨ret_int (by rw [R.out]), by rw [R.out]; exact HI.out, hm⟩

set_option maxHeartbeats 400000 in
theorem refErase_ok (w : World) (p : DevAt) (D : Dev) (h : IsDev w p D) (ok : D.Ok) (s : Int) (hs : D.steps ≤ 4611686018427000000) (hw : ∀ i, D.wear.getD i 0 ≤ 4611686018427000000) :
    Calls Try.prog 92 #[.pointer (some ⟨p.b, 0, none⟩), .int .i64 s] w fun e w' => e = .returned (.int .i64 (D.erase s).1) ∧ IsDev w' p (D.erase s).2 ∧ Mods p.foot w w' := by
  by_cases hd : D.down = true
  · have E := Lib.hid (show D.erase s = (10, D) by rw [Dev.erase, if_pos hd])
    have h6 := h.c6
    rw [hd] at h6
    have H := Lib.hid h
    clear hd h
    go_enter Try.func92, Try.ntmps92
    go_wp2_with fail
    go_ret
    exact ⟨ret_int (by rw [E.out]), by rw [E.out]; exact H.out, Mods.refl⟩
  · have hd' : D.down = false := by simpa using hd
    by_cases hf : 0 ≤ s ∧ s < D.wear.length
    · obtain ⟨n, rfl⟩ := Int.eq_ofNat_of_zero_le hf.1
      have E : D.erase (n : Int) = D.erased n := by rw [Dev.erase, if_neg hd, if_pos hf]; simp
      rw [E]
      exact refErased_ok w p D h ok n (by omega) hd' hs (hw n)
    · have E := Lib.hid (show D.erase s = (2, D) by rw [Dev.erase, if_neg hd, if_neg hf])
      have h6 := h.c6
      have h2 := h.c2
      rw [hd'] at h6
      have H := Lib.hid h
      have hwl := ok.wl
      by_cases hs0 : s < 0
      · clear hd hd' h hf
        go_enter Try.func92, Try.ntmps92
        go_wp2_with fail
        go_ret
        exact ⟨ret_int (by rw [E.out]), by rw [E.out]; exact H.out, Mods.refl⟩
      · have hs1 : (D.wear.length : Int) ≤ s := by omega
        clear hd hd' h hf
        go_enter Try.func92, Try.ntmps92
        go_wp2_with fail
        go_ret
        exact ⟨ret_int (by rw [E.out]), by rw [E.out]; exact H.out, Mods.refl⟩
end Go.Proofs.Ytkdadnlleepkfaa

namespace Go.Proofs.Ytkdadnlleepkfaa
open Go.RowKit
set_option maxRecDepth 100000
theorem cell1 {w : World} {b : Nat} {a0 a1 a2 a3 a4 a5 a6 : Value} {T : TypeId} {fr : Nat × Nat} (h : w.heap[b]? = some (.cells #[a0, a1, a2, a3, a4, a5, a6] T fr)) : w.cell? ⟨b, 1, none⟩ = some a1 := cell_blk h 1
theorem cell2 {w : World} {b : Nat} {a0 a1 a2 a3 a4 a5 a6 : Value} {T : TypeId} {fr : Nat × Nat} (h : w.heap[b]? = some (.cells #[a0, a1, a2, a3, a4, a5, a6] T fr)) : w.cell? ⟨b, 2, none⟩ = some a2 := cell_blk h 2
set_option maxHeartbeats 1000000 in
theorem refNew_ok (s m : Nat) (hs1 : 1 ≤ s) (hs : s ≤ 16) (hm1 : 64 ≤ m) (hm : m ≤ 1024) (w : World) :
    Calls Try.prog 31 #[.int .i64 s, .int .i64 m] w fun e w' => NewDev w (Dev.fresh s m) e w' := by
  obtain ⟨i0, hi, hz0, hz1, hz2⟩ := info_parts Try.infoI
  have hmk : ∀ w : World, (Instr.makeSlice 40 (.int .i64 (s : Int)) (.int .i64 (s : Int))).run Try.prog w = .ok (.slice (some ⟨w.heap.size, 0, none⟩) s s) (w.alloc (.cells (zeroRow s) 3)) := fun w => by
    have h := run_make (P := Try.prog) w 40 3 i0 (.int .i64 0) Try.underlying40 hi hz0 .i64 .i64 s s (by omega) (Int.le_refl _) (by rw [hz2]; omega) (by omega)
    rw [hz1] at h
    simpa [zeroRow, Value.cells] using h
  have hn1 : 1 ≤ s * m := Nat.mul_pos hs1 (by omega)
  have hn2 : s * m ≤ 16384 := Nat.mul_le_mul hs hm
  have hmul : IntKind.i64.wrap ((s : Int) * (m : Int)) = ((s * m : Nat) : Int) := by rw [← Int.natCast_mul]; exact IntWalk.i64_in _ (by omega)
  clear hi hz0 hz1 hz2
  obtain ⟨j0, hj, hy0, hy1, hy2⟩ := info_parts Try.infoB
  go_enter Try.func31, Try.ntmps31
  go_wp2_with fail
  clear hmk
  have r0 : ((w.alloc (.cells (zeroRow s) 3)).alloc (.cells #[.int .i64 m, .slice none 0 0, .slice (some ⟨w.heap.size, 0, none⟩) s s, .int .i64 0, .int .i64 0, .int .u8 0, .bool false] 111)).heap[w.heap.size]? = some (.cells (zeroRow s) 3 (0, 0)) := heap_alloc (heap_new _ _)
  have r1 : ((w.alloc (.cells (zeroRow s) 3)).alloc (.cells #[.int .i64 m, .slice none 0 0, .slice (some ⟨w.heap.size, 0, none⟩) s s, .int .i64 0, .int .i64 0, .int .u8 0, .bool false] 111)).heap[w.heap.size + 1]? = some (.cells #[.int .i64 m, .slice none 0 0, .slice (some ⟨w.heap.size, 0, none⟩) s s, .int .i64 0, .int .i64 0, .int .u8 0, .bool false] 111 (0, 0)) := by
    have := heap_new (w.alloc (.cells (zeroRow s) 3)) (.cells #[.int .i64 m, .slice none 0 0, .slice (some ⟨w.heap.size, 0, none⟩) s s, .int .i64 0, .int .i64 0, .int .u8 0, .bool false] 111)
    rw [World.size_alloc] at this
    exact this
  have r2 : Mods [] w ((w.alloc (.cells (zeroRow s) 3)).alloc (.cells #[.int .i64 m, .slice none 0 0, .slice (some ⟨w.heap.size, 0, none⟩) s s, .int .i64 0, .int .i64 0, .int .u8 0, .bool false] 111)) := (Mods.refl.alloc _).alloc _
  have r3 : w.heap.size + 2 ≤ ((w.alloc (.cells (zeroRow s) 3)).alloc (.cells #[.int .i64 m, .slice none 0 0, .slice (some ⟨w.heap.size, 0, none⟩) s s, .int .i64 0, .int .i64 0, .int .u8 0, .bool false] 111)).heap.size := by simp
  generalize (w.alloc (.cells (zeroRow s) 3)).alloc (.cells #[.int .i64 m, .slice none 0 0, .slice (some ⟨w.heap.size, 0, none⟩) s s, .int .i64 0, .int .i64 0, .int .u8 0, .bool false] 111) = w1 at r0 r1 r2 r3 ⊢
  go_loopw [7] (fun i wr => ∃ (k : Nat) (dv : Value), k ≤ s * m ∧ i = .int .i64 k ∧ Hid (wr.heap[w.heap.size]? = some (.cells (zeroRow s) 3 (0, 0))) ∧ Hid (wr.heap[w.heap.size + 1]? = some (.cells #[.int .i64 m, dv, .slice (some ⟨w.heap.size, 0, none⟩) s s, .int .i64 0, .int .i64 0, .int .u8 0, .bool false] 111 (0, 0))) ∧ wr.ownsRow (w.heap.size + 2) 5 1 dv k (u8s (List.replicate k 255)) ∧ Mods [] w wr ∧ w.heap.size + 2 ≤ wr.heap.size) (fun i _ => s * m - (intOf i).toNat)
  case atStart => exact ⟨0, _, by omega, rfl, r0, r1, World.ownsRow_nil _ _ _ _, r2, r3⟩
  case round =>
    obtain ⟨k, dv, hk, rfl, q0, q1, O, hmm, hz⟩ := hrel
    clear r0 r1 r2 r3
    by_cases hlt : k < s * m
    · have c1 := cell1 q1.out
      obtain ⟨ad, cap, hdv⟩ : ∃ ad cap, dv = .slice ad k cap := by
        have := (Rd.own O).len
        rw [u8s_length, List.length_replicate] at this
        exact this
      subst hdv
      go_wp2_with (at_builtin; refine wpList_push rfl (.tmp 38) (.tmp 39) 61 rfl (w.heap.size + 2) 5 j0 (.int .u8 0) 1 Try.underlying61 hj hy0 hy1 hy2 rfl _ _ _ rfl O _ _ rfl rfl (by omega) (by omega) (by omega) ?_)
      intro v' w5 hown' M5
      have O5 := own_u8 hown'
      have q05 := M5.heap q0.out (fun h => by have := mem_from h; omega)
      have q15 := M5.heap q1.out (fun h => by have := mem_from h; omega)
      have hm5 := hmm.then_from M5 (by omega)
      have z5 := M5.size
      obtain ⟨g, cap', _, rfl, _⟩ := owns_form O5 (by omega)
      have c5 := cell1 q15
      have f5 := froz_blk q15 1
      have MS : Mods [w.heap.size + 1] w5 (w5.setCell ⟨w.heap.size + 1, 1, none⟩ (.slice (some ⟨g, 0, none⟩) (k + 1) cap')) := Mods.refl.setCell (.inl (by simp)) _
      have Q0 := Lib.hid (MS.heap q05 (by simp))
      have Q1 := Lib.hid (show (w5.setCell ⟨w.heap.size + 1, 1, none⟩ (.slice (some ⟨g, 0, none⟩) (k + 1) cap')).heap[w.heap.size + 1]? = some (.cells #[.int .i64 m, .slice (some ⟨g, 0, none⟩) (k + 1) cap', .slice (some ⟨w.heap.size, 0, none⟩) s s, .int .i64 0, .int .i64 0, .int .u8 0, .bool false] 111 (0, 0)) from heap_setCell q15)
      have HO := Lib.hid (MS.owns O5 (fun j hj => by have := (O5.lt j hj).1; simp; omega))
      have HM := Lib.hid (hm5.comp MS (fun j hj => .inr (by simp at hj; omega)))
      have z6 : w.heap.size + 2 ≤ (w5.setCell ⟨w.heap.size + 1, 1, none⟩ (.slice (some ⟨g, 0, none⟩) (k + 1) cap')).heap.size := by have := MS.size; omega
      have Z6 := Lib.hid z6
      have HRP := Lib.hid (show List.replicate (k + 1) (255 : Int) = List.replicate k 255 ++ [255] by rw [List.replicate_succ'])
      clear O hmm hown' M5 c1 O5 q05 q15 hm5 MS z6 q0 q1
      go_wp2
      go_roundw
      case rel => exact ⟨k + 1, _, by omega, by go_num, Q0.out, Q1.out, by rw [HRP.out]; exact HO.out, HM.out, Z6.out⟩
      case measure => simp [intOf]; omega
    · obtain rfl : k = s * m := by omega
      obtain ⟨g, cap', _, rfl, _⟩ := owns_form O (by omega)
      have HE := Lib.hid (show NewDev w (Dev.fresh s m) (.returned (.tuple #[.pointer (some ⟨w.heap.size + 1, 0, none⟩), .int .i64 0])) wr from by
        have b1 := (O.lt g (by simp [Value.ownBlock])).1
        refine ⟨⟨w.heap.size + 1, g, w.heap.size, cap', s⟩, rfl, ⟨⟨111, ?_⟩, ?_, ?_, ?_, ?_, ?_⟩, hmm, ?_⟩
        · rw [q1.out]
          simp [Dev.fresh]
        · exact RowAt.of_owns O
        · refine ⟨zeroRow s, q0.out, zeroRow_size s, by simp [Dev.fresh, i64s], by simp only [maxLen]; omega, ?_⟩
          rw [zeroRow_list]
          simp [Dev.fresh, i64s]
        · show w.heap.size + 1 ≠ g; omega
        · show w.heap.size + 1 ≠ w.heap.size; omega
        · show g ≠ w.heap.size; omega
        · intro k hk
          simp only [DevAt.foot, List.mem_cons, List.not_mem_nil, or_false] at hk
          rcases hk with rfl | rfl | rfl <;> omega)
      clear O hmm q0 q1 hz
      go_wp2
      go_ret2
      exact HE.out
end Go.Proofs.Ytkdadnlleepkfaa
