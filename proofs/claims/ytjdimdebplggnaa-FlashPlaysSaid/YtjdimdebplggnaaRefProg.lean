/- The reference's Program: contract. -/
import Derived.Test.YtjdimdebplggnaaRefA
import Derived.StillTailTactics
namespace Go.Proofs.Ytjdimdebplggnaa
open Go.RowKit
set_option maxHeartbeats 1000000 in
theorem refRun_ok (w : World) (p : DevAt) (D : Dev) (h : IsDev w p D) (ok : D.Ok) (n : Nat) (v : Value) (l : List Int) (hv : Rd w v (u8s l)) (hb : ∀ i, 0 ≤ l.getD i 0 ∧ l.getD i 0 ≤ 255)
    (hne : l ≠ [] → ∀ k, v.ownBlock = some k → k ∉ [p.b, p.g]) (hs : D.steps ≤ 4611686018427000000) (hd : D.down = false) (hf : fits D n l.length = true) :
    Calls Try.prog 32 #[.pointer (some ⟨p.b, 0, none⟩), .int .i64 n, v] w fun e w' => e = .returned (.int .i64 (D.run n l).1) ∧ IsDev w' p (D.run n l).2 ∧ Mods [p.b, p.g] w w' := by
  obtain ⟨ad, cap, rfl, hcap, hcap2, hvc⟩ := hv.u8
  have hfit : n + l.length ≤ D.data.length := by simp [fits] at hf; omega
  have hlen := ok.len
  have h6 := h.c6
  rw [hd] at h6
  have H := Lib.hid h
  have HF := Lib.hid hf
  have HB := Lib.hid hb
  have HVC := Lib.hid hvc
  have HD := Lib.hid hd
  clear h hv hd hf hb hvc
  unfold maxLen at hcap2
  go_enter Try.func32, Try.ntmps32
  go_wp2_with fail
  refine (refFits_ok _ p D H.out ok _ _).mono ?_
  rw [HF.out]
  rintro e w' ⟨rfl, rfl⟩
  clear h6
  go_wp2_with fail
  go_loopw [7] (fun c wr => ∃ k : Nat, k ≤ l.length ∧ c = .int .i64 k ∧ ∃ Dk : Dev, IsDev wr p Dk ∧ Dk.Ok ∧ Hid (Dk.down = false) ∧ Hid (Dk.data.length = D.data.length) ∧ Dk.steps ≤ 4611686018427000000 + k ∧ Hid (Dk.run (n + k) (l.drop k) = D.run n l) ∧ Mods [p.b, p.g] w wr) (fun c _ => l.length - (intOf c).toNat)
  case atStart => exact ⟨0, Nat.zero_le _, rfl, D, H.out, ok, HD.out, rfl, by simpa using hs, by simp [Hid], Mods.refl⟩
  case round =>
    obtain ⟨k, hk, rfl, Dk, I, okk, hdk, hlk, hsk, hrun, hm⟩ := hrel
    by_cases hlt : k < l.length
    · obtain ⟨b', off, rfl, hc⟩ := HVC.out k hlt
      have hnb := hne (by rintro rfl; simp at hlt) _ rfl
      have hcw := hm.cell hc hnb
      have hbk := HB.out k
      clear hc
      have hst := okk.step
      have ht := hst.tn
      have R0 := Lib.hid (drop_cons l k hlt)
      go_wp2_with fail
      refine (refFails_ok wr p Dk I okk hdk.out (by omega)).mono ?_
      rintro e w1 ⟨rfl, I1, M1⟩
      have hl2 : (n + k) < Dk.step.data.length := by rw [Dev.step_data, hlk.out]; omega
      have hst2 := Lib.hid Dk.step_steps
      have h1 := I1.c1
      have h5 := I1.c5
      have hat := I1.at hl2
      have hby := hst.byt (n + k)
      have hcw := M1.cell hcw (by simp at hnb ⊢; exact hnb.1)
      have hm1 := hm.comp M1 (fun j hj => .inl (by simp at hj; simp [hj]))
      have hl3 : (n : Int) + (k : Int) < (Dk.step.data.length : Int) := by omega
      have hz : (0 : Int) ≤ (n : Int) + (k : Int) := by omega
      have hws : IntKind.i64.wrap ((n : Int) + (k : Int)) = (n : Int) + (k : Int) := IntWalk.i64_in _ (by omega)
      have htn : ((n : Int) + (k : Int)).toNat = n + k := by omega
      by_cases hsd : Dk.step.down = true
      · have R := Lib.hid (show D.run n l = (10, Dk.step.put (n + k) (bits .and .u8 (Dk.step.data.getD (n + k) 0) (bits .or .u8 (l.getD k 0) Dk.step.torn))) by
          rw [← hrun.out, R0.out, Dev.run, if_pos hsd, Dev.step_data, Dev.step_torn])
        have HL := Lib.hid (show Dk.step.data.length = D.data.length by rw [Dev.step_data]; exact hlk.out)
        generalize Dk.step = E at I1 hst ht hl2 hst2 h1 h5 hat hby hl3 hsd R HL
        generalize l.getD k 0 = x at hcw hbk R R0
        obtain ⟨y, hy⟩ : ∃ y, y = E.data.getD (n + k) 0 := ⟨_, rfl⟩
        rw [← hy] at hat hby R
        clear R0 I hm M1 hdk hlk hrun okk hy
        rw [hsd]
        go_wp2_with fail
        go_still_tail 26, (by kernel_rfl)
        clear hws htn h1 h5 hcw hat
        change wpList _ _ _ _ _ w1.drew
        have I2 := I1.drew
        have M2 := hm1.drew
        generalize w1.drew = w2 at I2 M2 ⊢
        have hat := I2.at hl2
        have hfz := I2.fg
        have HE := Lib.hid (show IsDev (w2.setCell ⟨p.g, n + k, none⟩ (.int .u8 (bits .and .u8 y (bits .or .u8 x E.torn)))) p (E.put (n + k) (bits .and .u8 y (bits .or .u8 x E.torn))) by simpa [Dev.put, hl2] using I2.setDat (n + k) (bits .and .u8 y (bits .or .u8 x E.torn)))
        have HM := Lib.hid (M2.setCell (p := ⟨p.g, n + k, none⟩) (.inl (by simp)) (.int .u8 (bits .and .u8 y (bits .or .u8 x E.torn))))
        clear I2 M2 I1 hm1
        go_wp2_with fail
        go_ret
        exact ⟨ret_int (by rw [R.out]), by rw [R.out]; exact HE.out, HM.out⟩
      · have R := Lib.hid (show (Dk.step.put (n + k) (bits .and .u8 (Dk.step.data.getD (n + k) 0) (l.getD k 0))).run (n + (k + 1)) (l.drop (k + 1)) = D.run n l by
          rw [← hrun.out, R0.out, Dev.run, if_neg hsd, Dev.step_data, ← Nat.add_assoc])
        have HL := Lib.hid (show Dk.step.data.length = D.data.length by rw [Dev.step_data]; exact hlk.out)
        have hsd' : Dk.step.down = false := by simpa using hsd
        generalize Dk.step = E at I1 hst ht hl2 hst2 h1 h5 hat hby hl3 hsd' R HL ⊢
        generalize l.getD k 0 = x at hcw hbk R R0
        have HO := Lib.hid (hst.put (n + k) (bits_byte .and (E.data.getD (n + k) 0) x).1 (bits_byte .and (E.data.getD (n + k) 0) x).2)
        have HDN := Lib.hid (show (E.put (n + k) (bits .and .u8 (E.data.getD (n + k) 0) x)).down = false from hsd')
        have HLN := Lib.hid (show (E.put (n + k) (bits .and .u8 (E.data.getD (n + k) 0) x)).data.length = D.data.length by simp only [Dev.put, List.length_set]; exact HL.out)
        have HSN : (E.put (n + k) (bits .and .u8 (E.data.getD (n + k) 0) x)).steps ≤ 4611686018427000000 + ((k + 1 : Nat) : Int) := by simp only [Dev.put]; rw [hst2.out]; omega
        have HSN := Lib.hid HSN
        obtain ⟨y, hy⟩ : ∃ y, y = E.data.getD (n + k) 0 := ⟨_, rfl⟩
        rw [← hy] at hat hby R HO HDN HLN HSN
        clear R0 I hm M1 hdk hlk hrun okk hy hsd
        rw [hsd']
        clear hsd'
        go_wp2_with fail
        go_still_tail 21, (by kernel_rfl)
        clear hws htn h1 h5 hcw hat
        change wpList _ _ _ _ _ w1.drew
        have I2 := I1.drew
        have M2 := hm1.drew
        generalize w1.drew = w2 at I2 M2 ⊢
        have hat := I2.at hl2
        have hfz := I2.fg
        have HE := Lib.hid (show IsDev (w2.setCell ⟨p.g, n + k, none⟩ (.int .u8 (bits .and .u8 y x))) p (E.put (n + k) (bits .and .u8 y x)) by simpa [Dev.put, hl2] using I2.setDat (n + k) (bits .and .u8 y x))
        have HM := Lib.hid (M2.setCell (p := ⟨p.g, n + k, none⟩) (.inl (by simp)) (.int .u8 (bits .and .u8 y x)))
        clear I2 M2 I1 hm1
        go_wp2_with fail
        go_roundw
        case rel => exact ⟨k + 1, by omega, by go_num, _, HE.out, HO.out, HDN.out, HLN.out, HSN.out, R.out, HM.out⟩
        case measure => simp [intOf]; omega
    · have e : k = l.length := by omega
      have R := Lib.hid (show D.run n l = (0, Dk) by rw [← hrun.out, List.drop_eq_nil_of_le (by omega)]; rfl)
      clear hrun
      go_wp2
      go_ret
      exact ⟨ret_int (by rw [R.out]), by rw [R.out]; exact I, hm⟩
set_option maxHeartbeats 400000 in
theorem refProgram_ok (w : World) (p : DevAt) (D : Dev) (h : IsDev w p D) (ok : D.Ok) (at_ : Int) (v : Value) (l : List Int) (hv : Rd w v (u8s l)) (hb : ∀ i, 0 ≤ l.getD i 0 ∧ l.getD i 0 ≤ 255)
    (hne : l ≠ [] → ∀ k, v.ownBlock = some k → k ∉ [p.b, p.g]) (hs : D.steps ≤ 4611686018427000000) :
    Calls Try.prog 32 #[.pointer (some ⟨p.b, 0, none⟩), .int .i64 at_, v] w fun e w' => e = .returned (.int .i64 (D.program at_ l).1) ∧ IsDev w' p (D.program at_ l).2 ∧ Mods [p.b, p.g] w w' := by
  by_cases hd : D.down = true
  · have E := Lib.hid (show D.program at_ l = (10, D) by rw [Dev.program, if_pos hd])
    have h6 := h.c6
    rw [hd] at h6
    clear hd hne hv
    go_enter Try.func32, Try.ntmps32
    go_wp2_with fail
    go_ret
    exact ⟨ret_int (by rw [E.out]), by rw [E.out]; exact h, Mods.refl⟩
  · have hd' : D.down = false := by simpa using hd
    by_cases hf : fits D at_ l.length = true
    · have h0 : 0 ≤ at_ := by simp [fits] at hf; omega
      obtain ⟨n, rfl⟩ := Int.eq_ofNat_of_zero_le h0
      have E : D.program (n : Int) l = D.run n l := by rw [Dev.program, if_neg hd, if_pos hf]; simp
      rw [E]
      exact refRun_ok w p D h ok n v l hv hb hne hs hd' hf
    · have E := Lib.hid (show D.program at_ l = (2, D) by rw [Dev.program, if_neg hd, if_neg hf])
      have h6 := h.c6
      rw [hd'] at h6
      have H := Lib.hid h
      have hf' := Lib.hid (show fits D at_ l.length = false by simpa using hf)
      obtain ⟨ad, cap, rfl, hcap, hcap2, _⟩ := hv.u8
      clear hd hne hv hd' hf h
      unfold maxLen at hcap2
      go_enter Try.func32, Try.ntmps32
      go_wp2_with fail
      refine (refFits_ok _ p D H.out ok _ _).mono ?_
      rw [hf'.out]
      rintro e w' ⟨rfl, rfl⟩
      go_wp2_with fail
      go_ret
      exact ⟨ret_int (by rw [E.out]), by rw [E.out]; exact H.out, Mods.refl⟩
end Go.Proofs.Ytjdimdebplggnaa
