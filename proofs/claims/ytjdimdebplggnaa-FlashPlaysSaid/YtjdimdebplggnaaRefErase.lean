/- The reference's Erase: contract. -/
import Derived.Test.YtjdimdebplggnaaRefProg
import Derived.Test.YtjdimdebplggnaaFlashErases
namespace Go.Proofs.Ytjdimdebplggnaa
open Go.RowKit
set_option maxHeartbeats 1000000 in
theorem refErased_ok (w : World) (p : DevAt) (D : Dev) (h : IsDev w p D) (ok : D.Ok) (i : Nat) (hi : i < D.wear.length) (hd : D.down = false) (hs : D.steps ≤ 4611686018427000000) (hw : D.wear.getD i 0 ≤ 4611686018427000000) :
    Calls Try.prog 33 #[.pointer (some ⟨p.b, 0, none⟩), .int .i64 i] w fun e w' => e = .returned (.int .i64 (D.erased i).1) ∧ IsDev w' p (D.erased i).2 ∧ Mods p.foot w w' := by
  have h6 := h.c6
  have h2 := h.c2
  rw [hd] at h6
  have hwi := h.wat hi
  have hfw := h.fw
  have hwl := ok.wl
  have hw0 := ok.wr i
  have hsec := sector_in ok hi
  have hlen := ok.len
  have hs0 := ok.s0
  have hs1 := ok.s1
  have H := Lib.hid h
  have i1 : (0 : Int) ≤ (i : Int) := by omega
  have i2 : (i : Int) < (D.wear.length : Int) := by omega
  have d1 : decide ((i : Int) < 0) = false := by simp
  have d2 : decide ((D.wear.length : Int) ≤ (i : Int)) = false := by simp; omega
  generalize hx : D.wear.getD i 0 = x at hwi hw hw0
  have J := Lib.hid (show IsDev (w.setCell ⟨p.gw, i, none⟩ (.int .i64 (x + 1))) p (D.worn i) by rw [Dev.worn, hx]; exact h.setWear i (x + 1))
  have M1 : Mods p.foot w (w.setCell ⟨p.gw, i, none⟩ (.int .i64 (x + 1))) := Mods.refl.setCell (.inl (by simp [DevAt.foot])) _
  have ok1 := ok.worn i
  have hst : (D.worn i).steps ≤ 4611686018427387904 := by show D.steps ≤ _; omega
  have htn := ok.tn
  have HDN := Lib.hid (show (D.worn i).down = false from hd)
  obtain ⟨a, ha⟩ : ∃ a, a = i * D.size := ⟨_, rfl⟩
  rw [← ha] at hsec
  have HP1 := Lib.hid (show IntKind.i64.wrap ((i : Int) + 1) = (i : Int) + 1 from IntWalk.i64_in _ (by omega))
  have HP2 := Lib.hid (show IntKind.i64.wrap ((i : Int) * (D.size : Int)) = (a : Int) by rw [ha, Int.natCast_mul]; exact IntWalk.i64_in _ (by rw [← Int.natCast_mul, ← ha]; omega))
  have HP3 := Lib.hid (show IntKind.i64.wrap (((i : Int) + 1) * (D.size : Int)) = (a : Int) + (D.size : Int) by
    rw [Int.add_mul, Int.one_mul, ← Int.natCast_mul, ← ha]; exact IntWalk.i64_in _ (by omega))
  have HA := Lib.hid ha
  have HSZ := Lib.hid (show (D.worn i).step.size = D.size from Dev.step_size _)
  have HTN := Lib.hid (show (D.worn i).step.torn = D.torn from Dev.step_torn _)
  have HDT := Lib.hid (show (D.worn i).step.data = D.data from Dev.step_data _)
  have HB := Lib.hid ok.byt
  clear hd hx h ha ok
  go_enter Try.func33, Try.ntmps33
  go_wp2_with fail
  have J := J.out
  generalize w.setCell ⟨p.gw, i, none⟩ (.int .i64 (x + 1)) = w1 at J M1 ⊢
  refine (refFails_ok w1 p (D.worn i) J ok1 HDN.out hst).mono ?_
  rintro e w2 ⟨rfl, I2, M2⟩
  have M3 := M1.comp M2 (by intro k hk; simp at hk; subst hk; simp [DevAt.foot])
  clear h6 h2 hwi hfw M1 M2 d1 d2 J ok1 hst
  have R1 := Lib.hid (show (D.worn i).step.down = true → D.erased i = (10, (D.worn i).step.over a D.size D.torn) from fun hdn => by rw [Dev.erased, if_pos hdn, if_pos hdn, HA.out])
  have R0 := Lib.hid (show (D.worn i).step.down = false → D.erased i = (0, (D.worn i).step.over a D.size 255) from fun hdn => by rw [Dev.erased, if_neg (by rw [hdn]; simp), if_neg (by rw [hdn]; simp), HA.out])
  generalize (D.worn i).step = E at I2 HSZ HTN HDT R1 R0 ⊢
  cases hdn : E.down with
  | true =>
    have R := Lib.hid (R1.out hdn)
    have h0 : w2.cell? ⟨p.b, 0, none⟩ = some (.int .i64 D.size) := by rw [← HSZ.out]; exact I2.c0
    have hp2 := HP2.out
    clear hdn
    go_wp2_with fail
    clear h0 hp2
    go_loopw [5] (fun c wr => ∃ k : Nat, k ≤ D.size ∧ c = .int .i64 ((a : Int) + (k : Int)) ∧ IsDev wr p (E.over a k D.torn) ∧ Mods p.foot w wr) (fun c _ => a + D.size - (intOf c).toNat)
    case atStart => exact ⟨0, Nat.zero_le _, rfl, by rw [Dev.over, orRange_zero]; exact I2, M3⟩
    case round =>
      obtain ⟨k, hk, rfl, I, hm⟩ := hrel
      clear I2 M3
      have h0 : wr.cell? ⟨p.b, 0, none⟩ = some (.int .i64 D.size) := by rw [← HSZ.out]; exact I.c0
      have hp1 := HP1.out
      have hp3 := HP3.out
      have htn : ((a : Int) + (k : Int)).toNat = a + k := by omega
      have hz : (0 : Int) ≤ (a : Int) + (k : Int) := by omega
      by_cases hlt : k < D.size
      · have hl2 : a + k < (E.over a k D.torn).data.length := by rw [Dev.over, orRange_len, HDT.out]; omega
        have h1 : wr.cell? ⟨p.b, 1, none⟩ = some (.slice (some ⟨p.g, 0, none⟩) D.data.length p.cb) := by
          have := I.c1; rw [show (E.over a k D.torn).data.length = D.data.length by rw [Dev.over, orRange_len, HDT.out]] at this; exact this
        have h5 : wr.cell? ⟨p.b, 5, none⟩ = some (.int .u8 D.torn) := by rw [← HTN.out]; exact I.c5
        have hc := I.at hl2
        have e2 : (E.over a k D.torn).data.getD (a + k) 0 = D.data.getD (a + k) 0 := by
          rw [Dev.over, orRange_getD _ _ _ _ _ (by rw [HDT.out]; omega), if_neg (by omega), HDT.out]
        rw [e2] at hc
        have hby := HB.out (a + k)
        have e3 : ({ E.over a k D.torn with data := (E.over a k D.torn).data.set (a + k) (bits .or .u8 (D.data.getD (a + k) 0) D.torn) } : Dev) = E.over a (k + 1) D.torn := by
          have := orRange_succ E.data a k D.torn (by rw [HDT.out]; omega)
          rw [HDT.out] at this
          simp only [Dev.over, HDT.out, this]
        have E3 := Lib.hid e3
        generalize D.data.getD (a + k) 0 = y at hc hby E3
        have hl4 : (a : Int) + (k : Int) < (D.data.length : Int) := by omega
        clear e2 e3 hl2
        go_wp2_with fail
        clear h0 hp1 hp3
        go_still_tail 17, (by kernel_rfl)
        clear h1 h5 hc htn
        change wpList _ _ _ _ _ wr.drew
        have I2 := I.drew
        have M2 := hm.drew
        generalize wr.drew = w3 at I2 M2 ⊢
        have hl3 : a + k < (E.over a k D.torn).data.length := by rw [Dev.over, orRange_len, HDT.out]; omega
        have hc := I2.at hl3
        have hfz := I2.fg
        have HE := Lib.hid (by have := I2.setDat (a + k) (bits .or .u8 y D.torn); rw [E3.out] at this; exact this)
        have HM := Lib.hid (M2.setCell (p := ⟨p.g, a + k, none⟩) (.inl (by simp [DevAt.foot])) (.int .u8 (bits .or .u8 y D.torn)))
        clear I2 M2 I hm
        go_wp2
        go_roundw
        case rel => exact ⟨k + 1, by omega, by go_num, HE.out, HM.out⟩
        case measure => simp [intOf]; omega
      · have e : k = D.size := by omega
        rw [e] at I
        have HI := Lib.hid I
        clear e I
        go_wp2
        go_ret
        exact ⟨ret_int (by rw [R.out]), by rw [R.out]; exact HI.out, hm⟩
  | false =>
    have R := Lib.hid (R0.out hdn)
    have h0 : w2.cell? ⟨p.b, 0, none⟩ = some (.int .i64 D.size) := by rw [← HSZ.out]; exact I2.c0
    have hp2 := HP2.out
    clear hdn
    go_wp2_with fail
    clear h0 hp2
    go_loopw [6] (fun c wr => ∃ k : Nat, k ≤ D.size ∧ c = .int .i64 ((a : Int) + (k : Int)) ∧ IsDev wr p (E.over a k 255) ∧ Mods p.foot w wr) (fun c _ => a + D.size - (intOf c).toNat)
    case atStart => exact ⟨0, Nat.zero_le _, rfl, by rw [Dev.over, orRange_zero]; exact I2, M3⟩
    case round =>
      obtain ⟨k, hk, rfl, I, hm⟩ := hrel
      clear I2 M3
      have h0 : wr.cell? ⟨p.b, 0, none⟩ = some (.int .i64 D.size) := by rw [← HSZ.out]; exact I.c0
      have hp1 := HP1.out
      have hp3 := HP3.out
      have htn : ((a : Int) + (k : Int)).toNat = a + k := by omega
      have hz : (0 : Int) ≤ (a : Int) + (k : Int) := by omega
      by_cases hlt : k < D.size
      · have hl2 : a + k < (E.over a k 255).data.length := by rw [Dev.over, orRange_len, HDT.out]; omega
        have h1 : wr.cell? ⟨p.b, 1, none⟩ = some (.slice (some ⟨p.g, 0, none⟩) D.data.length p.cb) := by
          have := I.c1; rw [show (E.over a k 255).data.length = D.data.length by rw [Dev.over, orRange_len, HDT.out]] at this; exact this
        have hc := I.at hl2
        have hfz := I.fg
        have hby := HB.out (a + k)
        have e3 : ({ E.over a k 255 with data := (E.over a k 255).data.set (a + k) 255 } : Dev) = E.over a (k + 1) 255 := by
          have := orRange_succ E.data a k 255 (by rw [HDT.out]; omega)
          rw [HDT.out, or_ff hby.1 hby.2] at this
          simp only [Dev.over, HDT.out, this]
        have HE := Lib.hid (by have := I.setDat (a + k) 255; rw [e3] at this; exact this)
        have HM := Lib.hid (hm.setCell (p := ⟨p.g, a + k, none⟩) (.inl (by simp [DevAt.foot])) (.int .u8 255))
        generalize (E.over a k 255).data.getD (a + k) 0 = y at hc
        have hl4 : (a : Int) + (k : Int) < (D.data.length : Int) := by omega
        clear e3 hl2 I hm hby
        go_wp2
        go_roundw
        case rel => exact ⟨k + 1, by omega, by go_num, HE.out, HM.out⟩
        case measure => simp [intOf]; omega
      · have e : k = D.size := by omega
        rw [e] at I
        have HI := Lib.hid I
        clear e I
        go_wp2
        go_ret
        exact ⟨ret_int (by rw [R.out]), by rw [R.out]; exact HI.out, hm⟩

set_option maxHeartbeats 400000 in
theorem refErase_ok (w : World) (p : DevAt) (D : Dev) (h : IsDev w p D) (ok : D.Ok) (s : Int) (hs : D.steps ≤ 4611686018427000000) (hw : ∀ i, D.wear.getD i 0 ≤ 4611686018427000000) :
    Calls Try.prog 33 #[.pointer (some ⟨p.b, 0, none⟩), .int .i64 s] w fun e w' => e = .returned (.int .i64 (D.erase s).1) ∧ IsDev w' p (D.erase s).2 ∧ Mods p.foot w w' := by
  by_cases hd : D.down = true
  · have E := Lib.hid (show D.erase s = (10, D) by rw [Dev.erase, if_pos hd])
    have h6 := h.c6
    rw [hd] at h6
    have H := Lib.hid h
    clear hd h
    go_enter Try.func33, Try.ntmps33
    go_wp2_with fail
    go_ret
    exact ⟨ret_int (by rw [E.out]), by rw [E.out]; exact H.out, Mods.refl⟩
  · have hd' : D.down = false := by simpa using hd
    by_cases hf : 0 ≤ s ∧ s < D.wear.length
    · obtain ⟨n, rfl⟩ := Int.eq_ofNat_of_zero_le hf.1
      have E : D.erase (n : Int) = D.erased n := by rw [Dev.erase, if_neg hd, if_pos hf]; simp
      rw [E]
      exact refErased_ok w p D h ok n (by omega) hd' hs (hw n)
    · have E := Lib.hid (show D.erase s = (2, D) by rw [Dev.erase, if_neg hd, if_neg hf])
      have h6 := h.c6
      have h2 := h.c2
      rw [hd'] at h6
      have H := Lib.hid h
      have hwl := ok.wl
      by_cases hs0 : s < 0
      · clear hd hd' h hf
        go_enter Try.func33, Try.ntmps33
        go_wp2_with fail
        go_ret
        exact ⟨ret_int (by rw [E.out]), by rw [E.out]; exact H.out, Mods.refl⟩
      · have hs1 : (D.wear.length : Int) ≤ s := by omega
        clear hd hd' h hf
        go_enter Try.func33, Try.ntmps33
        go_wp2_with fail
        go_ret
        exact ⟨ret_int (by rw [E.out]), by rw [E.out]; exact H.out, Mods.refl⟩
end Go.Proofs.Ytjdimdebplggnaa
