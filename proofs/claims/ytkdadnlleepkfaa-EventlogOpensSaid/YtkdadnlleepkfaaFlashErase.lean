/- Erase: contract. -/
import Derived.Test.YtkdadnlleepkfaaFlashProg
namespace Go.Proofs.Ytkdadnlleepkfaa
open Go.RowKit
set_option maxRecDepth 100000
/-- x laid over the n bytes from a on, by or. -/
def orRange (l : List Int) (a n : Nat) (x : Int) : List Int := l.mapIdx fun j y => if a ≤ j ∧ j < a + n then bits .or .u8 y x else y
theorem orRange_len (l : List Int) (a n : Nat) (x : Int) : (orRange l a n x).length = l.length := by simp [orRange]
theorem orRange_getD (l : List Int) (a n : Nat) (x : Int) (j : Nat) (hj : j < l.length) : (orRange l a n x).getD j 0 = if a ≤ j ∧ j < a + n then bits .or .u8 (l.getD j 0) x else l.getD j 0 := by
  simp [orRange, List.getD_eq_getElem?_getD, List.getElem?_mapIdx, List.getElem?_eq_getElem hj]
theorem orRange_zero (l : List Int) (a : Nat) (x : Int) : orRange l a 0 x = l := by
  refine List.ext_getElem (orRange_len _ _ _ _) fun j h1 h2 => ?_
  simp only [orRange, List.getElem_mapIdx]
  rw [if_neg (by omega)]
theorem orRange_succ (l : List Int) (a n : Nat) (x : Int) (_h : a + n < l.length) : (orRange l a n x).set (a + n) (bits .or .u8 (l.getD (a + n) 0) x) = orRange l a (n + 1) x := by
  refine List.ext_getElem (by simp [orRange_len]) fun j h1 h2 => ?_
  simp only [List.length_set, orRange_len] at h1
  rw [List.getElem_set]
  simp only [orRange, List.getElem_mapIdx]
  by_cases e : a + n = j
  · subst e
    rw [if_pos rfl, if_pos (by omega), List.getD_eq_getElem?_getD, List.getElem?_eq_getElem h1]
    rfl
  · rw [if_neg e]
    by_cases h : a ≤ j ∧ j < a + n
    · rw [if_pos h, if_pos (by omega)]
    · rw [if_neg h, if_neg (by omega)]
def Dev.worn (D : Dev) (i : Nat) : Dev := { D with wear := D.wear.set i (D.wear.getD i 0 + 1) }
def Dev.over (D : Dev) (a n : Nat) (x : Int) : Dev := { D with data := orRange D.data a n x }
def Dev.erased (D : Dev) (i : Nat) : Int × Dev :=
  ((if (D.worn i).step.down then 10 else 0), (D.worn i).step.over (i * D.size) D.size (if (D.worn i).step.down then D.torn else 255))
def Dev.erase (D : Dev) (s : Int) : Int × Dev := if D.down then (10, D) else if 0 ≤ s ∧ s < D.wear.length then D.erased s.toNat else (2, D)
theorem Dev.Ok.over {D : Dev} (h : D.Ok) (a n : Nat) (x : Int) : (D.over a n x).Ok where
  len := by simp only [Dev.over, orRange_len]; exact h.len
  wl := h.wl
  mul := by simp only [Dev.over, orRange_len]; exact h.mul
  s0 := h.s0
  s1 := h.s1
  byt := by
    intro j
    simp only [Dev.over]
    rcases Nat.lt_or_ge j D.data.length with hj | hj
    · rw [orRange_getD _ _ _ _ _ hj]; split; exact bits_byte _ _ _; exact h.byt j
    · rw [List.getD_eq_getElem?_getD, List.getElem?_eq_none (by rw [orRange_len]; exact hj)]; decide
  tn := h.tn
  st := h.st
  lf := h.lf
  wr := h.wr
theorem Dev.Ok.worn {D : Dev} (h : D.Ok) (i : Nat) : (D.worn i).Ok where
  len := h.len
  wl := by simp only [Dev.worn, List.length_set]; exact h.wl
  mul := by simp only [Dev.worn, List.length_set]; exact h.mul
  s0 := h.s0
  s1 := h.s1
  byt := h.byt
  tn := h.tn
  st := h.st
  lf := h.lf
  wr := by intro j; simp only [Dev.worn, getD_set]; split; have := h.wr i; omega; exact h.wr j
theorem Dev.Ok.erased {D : Dev} (h : D.Ok) (i : Nat) : (D.erased i).2.Ok := ((h.worn i).step).over _ _ _
theorem sector_in {D : Dev} (ok : D.Ok) {i : Nat} (hi : i < D.wear.length) : i * D.size + D.size ≤ D.data.length := by
  rw [← ok.mul, ← Nat.succ_mul]; exact Nat.mul_le_mul_right _ hi

set_option maxHeartbeats 1000000 in
theorem erased_ok (w : World) (p : DevAt) (D : Dev) (h : IsDev w p D) (ok : D.Ok) (i : Nat) (hi : i < D.wear.length) (hd : D.down = false) (hs : D.steps ≤ 4611686018427000000) (hw : D.wear.getD i 0 ≤ 4611686018427000000) :
    Calls Try.prog 95 #[.pointer (some ⟨p.b, 0, none⟩), .int .i64 i] w fun e w' => e = .returned (.int .i64 (D.erased i).1) ∧ IsDev w' p (D.erased i).2 ∧ Mods p.foot w w' := by
  have h6 := h.c6
  have h2 := h.c2
  rw [hd] at h6
  have hwi := h.wat hi
  have hfw := h.fw
  have hwl := ok.wl
  have hw0 := ok.wr i
  have hsec := sector_in ok hi
  have hlen := ok.len
  have hs0 := ok.s0
  have hs1 := ok.s1
  have H := Lib.hid h
  have HD := Lib.hid hd
  have i1 : (0 : Int) ≤ (i : Int) := by omega
  have i2 : (i : Int) < (D.wear.length : Int) := by omega
  have d1 : decide ((i : Int) < 0) = false := by simp
  have d2 : decide ((D.wear.length : Int) ≤ (i : Int)) = false := by simp; omega
  generalize hx : D.wear.getD i 0 = x at hwi hw hw0
  have J := Lib.hid (show IsDev (w.setCell ⟨p.gw, i, none⟩ (.int .i64 (x + 1))) p (D.worn i) by rw [Dev.worn, hx]; exact h.setWear i (x + 1))
  have M1 : Mods [p.b, p.g, p.gw] w (w.setCell ⟨p.gw, i, none⟩ (.int .i64 (x + 1))) := Mods.refl.setCell (.inl (by simp)) _
  have ok1 := ok.worn i
  have ok2 := ok1.step
  have hst : (D.worn i).steps ≤ 4611686018427387904 := by show D.steps ≤ _; omega
  have htn := ok.tn
  obtain ⟨a, ha⟩ : ∃ a, a = i * D.size := ⟨_, rfl⟩
  rw [← ha] at hsec
  have hcb : D.data.length ≤ p.cb := by obtain ⟨_, _, _, h3, _⟩ := h.dat; simpa [u8s] using h3
  have hcm : p.cb ≤ maxLen := by obtain ⟨_, _, _, _, h4, _⟩ := h.dat; exact h4
  unfold maxLen at hcm
  have HP1 := Lib.hid (show IntKind.i64.wrap ((i : Int) + 1) = (i : Int) + 1 from IntWalk.i64_in _ (by omega))
  have HP2 := Lib.hid (show IntKind.i64.wrap ((i : Int) * (D.size : Int)) = (a : Int) by rw [ha, Int.natCast_mul]; exact IntWalk.i64_in _ (by rw [← Int.natCast_mul, ← ha]; omega))
  have HP3 := Lib.hid (show IntKind.i64.wrap (((i : Int) + 1) * (D.size : Int)) = (a : Int) + (D.size : Int) by
    rw [Int.add_mul, Int.one_mul, ← Int.natCast_mul, ← ha]; exact IntWalk.i64_in _ (by omega))
  have HA := Lib.hid ha
  clear hd hx h ha
  go_enter Try.func95, Try.ntmps95
  go_wp2_with fail
  have J := J.out
  generalize w.setCell ⟨p.gw, i, none⟩ (.int .i64 (x + 1)) = w1 at J M1 ⊢
  refine (step_ok w1 p (D.worn i) J ok1 hst).mono ?_
  rintro e w2 ⟨rfl, I2, M2⟩
  have M3 := M1.comp M2 (by intro k hk; simp at hk; subst hk; simp)
  clear h6 h2 hwi hfw M1 M2 d1 d2
  have h1 := I2.c1
  have h0 := I2.c0
  have h5 := I2.c5
  rw [Dev.step_data] at h1
  rw [Dev.step_size] at h0
  rw [Dev.step_torn] at h5
  replace h1 : w2.cell? ⟨p.b, 1, none⟩ = some (.slice (some ⟨p.g, 0, none⟩) D.data.length p.cb) := h1
  replace h0 : w2.cell? ⟨p.b, 0, none⟩ = some (.int .i64 D.size) := h0
  replace h5 : w2.cell? ⟨p.b, 5, none⟩ = some (.int .u8 D.torn) := h5
  have b1 : (0 : Int) ≤ (a : Int) := by omega
  have b2 : (a : Int) ≤ (a : Int) + (D.size : Int) := by omega
  have b3 : (a : Int) + (D.size : Int) ≤ (p.cb : Int) := by omega
  have b4 : ((a : Int) + (D.size : Int)).toNat = a + D.size := by omega
  have b5 : a + D.size - a = D.size := by omega
  have b6 : ¬ p.cb = a := by omega
  by_cases hdn : (D.worn i).step.down = true
  · have R := Lib.hid (show D.erased i = (10, (D.worn i).step.over a D.size D.torn) by rw [Dev.erased, if_pos hdn, if_pos hdn, HA.out])
    go_wp2_with fail
    have hp1 := HP1.out
    have hp2 := HP2.out
    have hp3 := HP3.out
    go_quiet (fail)
    have I3 := I2.drewN nq
    have M4 := M3.drewN nq
    generalize w2.drewN nq = w3 at I3 M4 ⊢
    clear hp1 hp2 hp3 b4 b5 b6 h1 h0 h5 I2 M3 J
    go_wp2_with fail
    go_loopw [8, 62] (fun _ c wr => ∃ k : Nat, k ≤ D.size ∧ c = .int .i64 k ∧ IsDev wr p ((D.worn i).step.over a k D.torn) ∧ Mods [p.b, p.g, p.gw] w wr) (fun _ c _ => D.size - (intOf c).toNat)
    case atStart => exact ⟨0, Nat.zero_le _, rfl, by rw [Dev.over, orRange_zero]; exact I3, M4⟩
    case round =>
      obtain ⟨k, hk, rfl, I, hm⟩ := hrel
      clear I3 M4
      by_cases hlt : k < D.size
      · have e1 : (D.worn i).step.data = D.data := Dev.step_data _
        have hl2 : a + k < ((D.worn i).step.over a k D.torn).data.length := by rw [Dev.over, orRange_len, e1]; omega
        have hc := I.at hl2
        have hfz := I.fg
        have e2 : ((D.worn i).step.over a k D.torn).data.getD (a + k) 0 = D.data.getD (a + k) 0 := by
          rw [Dev.over, orRange_getD _ _ _ _ _ (by rw [e1]; omega), if_neg (by omega), e1]
        rw [e2] at hc
        have hby := ok.byt (a + k)
        have I4 := I.setDat (a + k) (bits .or .u8 (D.data.getD (a + k) 0) D.torn)
        have e3 : ({ (D.worn i).step.over a k D.torn with data := ((D.worn i).step.over a k D.torn).data.set (a + k) (bits .or .u8 (D.data.getD (a + k) 0) D.torn) } : Dev) = (D.worn i).step.over a (k + 1) D.torn := by
          have := orRange_succ (D.worn i).step.data a k D.torn (by rw [e1]; omega)
          rw [e1] at this
          simp only [Dev.over, e1, this]
        rw [e3] at I4
        generalize D.data.getD (a + k) 0 = y at hc hby I4
        clear e1 e2 e3 hl2
        have I5 := Lib.hid I4
        clear I4 I
        go_wp2
        go_roundw
        case rel => exact ⟨k + 1, by omega, by go_num, I5.out, hm.setCell (.inl (by simp)) _⟩
        case measure => simp [intOf]; omega
      · have e : k = D.size := by omega
        rw [e] at I
        have HI := Lib.hid I
        clear e I
        go_wp2
        go_ret
        exact ⟨ret_int (by rw [R.out]), by rw [R.out]; exact HI.out, hm⟩
  · have R := Lib.hid (show D.erased i = (0, (D.worn i).step.over a D.size 255) by rw [Dev.erased, if_neg hdn, if_neg hdn, HA.out])
    have hdn' : (D.worn i).step.down = false := by simpa using hdn
    clear hdn
    go_wp2_with fail
    have hp1 := HP1.out
    have hp2 := HP2.out
    have hp3 := HP3.out
    go_quiet (fail)
    have I3 := I2.drewN nq
    have M4 := M3.drewN nq
    generalize w2.drewN nq = w3 at I3 M4 ⊢
    clear hp1 hp2 hp3 b4 b5 b6 h1 h0 h5 I2 M3 J
    go_wp2_with fail
    go_loopw [8, 62] (fun _ c wr => ∃ k : Nat, k ≤ D.size ∧ c = .int .i64 k ∧ IsDev wr p ((D.worn i).step.over a k 255) ∧ Mods [p.b, p.g, p.gw] w wr) (fun _ c _ => D.size - (intOf c).toNat)
    case atStart => exact ⟨0, Nat.zero_le _, rfl, by rw [Dev.over, orRange_zero]; exact I3, M4⟩
    case round =>
      obtain ⟨k, hk, rfl, I, hm⟩ := hrel
      clear I3 M4
      by_cases hlt : k < D.size
      · have e1 : (D.worn i).step.data = D.data := Dev.step_data _
        have hl2 : a + k < ((D.worn i).step.over a k 255).data.length := by rw [Dev.over, orRange_len, e1]; omega
        have hc := I.at hl2
        have hfz := I.fg
        have e2 : ((D.worn i).step.over a k 255).data.getD (a + k) 0 = D.data.getD (a + k) 0 := by
          rw [Dev.over, orRange_getD _ _ _ _ _ (by rw [e1]; omega), if_neg (by omega), e1]
        rw [e2] at hc
        have hby := ok.byt (a + k)
        have I4 := I.setDat (a + k) (bits .or .u8 (D.data.getD (a + k) 0) 255)
        have e3 : ({ (D.worn i).step.over a k 255 with data := ((D.worn i).step.over a k 255).data.set (a + k) (bits .or .u8 (D.data.getD (a + k) 0) 255) } : Dev) = (D.worn i).step.over a (k + 1) 255 := by
          have := orRange_succ (D.worn i).step.data a k 255 (by rw [e1]; omega)
          rw [e1] at this
          simp only [Dev.over, e1, this]
        rw [e3] at I4
        generalize D.data.getD (a + k) 0 = y at hc hby I4
        clear e1 e2 e3 hl2
        have I5 := Lib.hid I4
        clear I4 I
        go_wp2
        go_roundw
        case rel => exact ⟨k + 1, by omega, by go_num, I5.out, hm.setCell (.inl (by simp)) _⟩
        case measure => simp [intOf]; omega
      · have e : k = D.size := by omega
        rw [e] at I
        have HI := Lib.hid I
        clear e I
        go_wp2
        go_ret
        exact ⟨ret_int (by rw [R.out]), by rw [R.out]; exact HI.out, hm⟩

set_option maxHeartbeats 400000 in
theorem erase_ok (w : World) (p : DevAt) (D : Dev) (h : IsDev w p D) (ok : D.Ok) (s : Int) (hs : D.steps ≤ 4611686018427000000) (hw : ∀ i, D.wear.getD i 0 ≤ 4611686018427000000) :
    Calls Try.prog 95 #[.pointer (some ⟨p.b, 0, none⟩), .int .i64 s] w fun e w' => e = .returned (.int .i64 (D.erase s).1) ∧ IsDev w' p (D.erase s).2 ∧ Mods p.foot w w' := by
  by_cases hd : D.down = true
  · have E := Lib.hid (show D.erase s = (10, D) by rw [Dev.erase, if_pos hd])
    have h6 := h.c6
    rw [hd] at h6
    have H := Lib.hid h
    clear hd h
    go_enter Try.func95, Try.ntmps95
    go_wp2_with fail
    go_ret
    exact ⟨ret_int (by rw [E.out]), by rw [E.out]; exact H.out, Mods.refl⟩
  · have hd' : D.down = false := by simpa using hd
    by_cases hf : 0 ≤ s ∧ s < D.wear.length
    · obtain ⟨n, rfl⟩ := Int.eq_ofNat_of_zero_le hf.1
      have E : D.erase (n : Int) = D.erased n := by rw [Dev.erase, if_neg hd, if_pos hf]; simp
      rw [E]
      exact erased_ok w p D h ok n (by omega) hd' hs (hw n)
    · have E := Lib.hid (show D.erase s = (2, D) by rw [Dev.erase, if_neg hd, if_neg hf])
      have h6 := h.c6
      have h2 := h.c2
      rw [hd'] at h6
      have H := Lib.hid h
      have hwl := ok.wl
      by_cases hs0 : s < 0
      · clear hd hd' h hf
        go_enter Try.func95, Try.ntmps95
        go_wp2_with fail
        go_ret
        exact ⟨ret_int (by rw [E.out]), by rw [E.out]; exact H.out, Mods.refl⟩
      · have hs1 : (D.wear.length : Int) ≤ s := by omega
        clear hd hd' h hf
        go_enter Try.func95, Try.ntmps95
        go_wp2_with fail
        go_ret
        exact ⟨ret_int (by rw [E.out]), by rw [E.out]; exact H.out, Mods.refl⟩
end Go.Proofs.Ytkdadnlleepkfaa
