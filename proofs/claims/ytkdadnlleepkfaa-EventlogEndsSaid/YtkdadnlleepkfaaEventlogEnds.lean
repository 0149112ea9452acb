/- EventlogEnds: the walk of the law. -/
import Derived.Test.YtkdadnlleepkfaaLgZ
namespace Go.Proofs.Ytkdadnlleepkfaa
open Go.RowKit
set_option linter.unusedVariables false
set_option linter.unusedSimpArgs false
theorem fill_len_le {G : Geo} {ov : Bool} {ev : Nat → Evt} {m : Nat} (hm : m ≤ G.slots) (hn : 2 ≤ G.n) : (fillL G ov ev m).s.recs.length = m ∧ fillM G ov m = m := by
  have h1 : fillM G ov m = m := by
    unfold fillM
    split
    · rfl
    · have : 1 * G.slots ≤ (G.n - 1) * G.slots := Nat.mul_le_mul_right _ (by omega)
      omega
  refine ⟨?_, h1⟩
  show (recsAB _ _ _ _).length = m
  rw [recsAB_len, h1]
  rcases Nat.eq_zero_or_pos m with h0 | h0
  · omega
  have h2 : fillT G.slots G.n m = 1 := by
    unfold fillT fillQ
    rw [if_neg (by omega)]
    have : (m + G.slots - 1) / G.slots = 1 := by
      rw [show m + G.slots - 1 = G.slots * 1 + (m - 1) by omega, Nat.mul_add_div (by omega), Nat.div_eq_of_lt (by omega)]
    rw [this]
    omega
  rw [h2]
  simp
set_option maxRecDepth 100000 in
set_option maxHeartbeats 8000000 in
theorem eventlogEnds_walk (w : World) (s : Int) (hs : I64 s) (z : Int) (hz : I64 z) (ov : Bool) (v : Value) (Ls : List Int) (hv : Rd w v (i64s Ls)) (hb : ∀ i, I64 (Ls.getD i 0)) (n : Int) (hn : I64 n) (t : Int) (ht : 0 ≤ t ∧ t ≤ 255) :
    Calls Try.prog 9 #[.int .i64 s, .int .i64 z, .bool ov, v, .int .i64 n, .int .u8 t] w fun e w' => e = .returned (.bool true) ∧ Mods [] w w' := by
  have HT := Lib.hid ht
  clear ht
  have HL := Lib.hid (light_ok w v Ls hv)
  have HV := Lib.hid hv
  have HB := Lib.hid hb
  have HAW := Lib.hid awake_ok
  obtain ⟨N, hN⟩ := Int.eq_ofNat_of_zero_le (show 0 ≤ 2 + s % 3 by omega)
  obtain ⟨Z, hZ⟩ := Int.eq_ofNat_of_zero_le (show 0 ≤ 64 + z % 40 by omega)
  obtain ⟨m, hm⟩ := Int.eq_ofNat_of_zero_le (show 0 ≤ n % 3 by omega)
  have HNR := Lib.hid (show 2 ≤ N ∧ N ≤ 4 by omega)
  have HZR := Lib.hid (show 64 ≤ Z ∧ Z ≤ 103 by omega)
  have HMR := Lib.hid (show m < 3 by omega)
  have HGM := Lib.hid (geometry_ok w s z hs hz)
  rw [hN, hZ] at HGM
  have HMD := Lib.hid (fun W => mod_ok n 3 W hn (by omega) (by omega))
  rw [hm] at HMD
  clear hv hb hs hz hn hN hZ hm
  by_cases hl : Ls.length ≤ 600
  rotate_left 1
  · have HLL := Lib.hid (decide_eq_false hl)
    go_enter Try.func9, Try.ntmps9
    go_wp2_with fail
    refine HL.out.mono ?_
    rw [HLL.out]
    rintro e w' ⟨rfl, rfl⟩
    go_wp2_with fail
    refine (HAW.out _).mono ?_
    rintro e w1 ⟨rfl, M1⟩
    go_wp2
    go_ret
    exact ⟨rfl, M1⟩
  have HLL := Lib.hid (decide_eq_true hl)
  have HFI := Lib.hid (filled_ok w N Z HNR.out.1 (by have := HNR.out.2; omega) HZR.out.1 (by have := HZR.out.2; omega) ov v Ls HV.out (by omega) HB.out m (by have := HMR.out; omega))
  obtain ⟨G, hG⟩ : ∃ G : Geo, G = ⟨0, N, Z⟩ := ⟨_, rfl⟩
  rw [← hG] at HFI
  have HGE := Lib.hid hG
  clear hG hl
  go_enter Try.func9, Try.ntmps9
  go_wp2_with fail
  refine HL.out.mono ?_
  rw [HLL.out]
  rintro e w' ⟨rfl, rfl⟩
  go_wp2_with fail
  refine HGM.out.mono ?_
  rintro e w' ⟨rfl, rfl⟩
  go_wp2_with fail
  refine (HMD.out _).mono ?_
  rintro e w' ⟨rfl, rfl⟩
  go_wp2_with fail
  refine HFI.out.mono ?_
  rintro e w1 ⟨p, qb, v1, vr, B, D, k, B2, rfl, hlw, hk, hc, hor, hB2, hwB⟩
  have HW := Lib.hid hlw
  have HK := Lib.hid hk
  have HC := Lib.hid hc
  have HOR := Lib.hid hor
  have HB2 := Lib.hid hB2
  have HWB := Lib.hid hwB
  obtain ⟨ad, cap, hvr⟩ := (hor.rd evOk).len
  have HSL := Lib.hid (slots_pos hlw.sync.fit)
  have HGN := Lib.hid hlw.sync.fit.n2
  clear hlw hk hc hor hB2 hwB HFI HGM HL
  have HFL := Lib.hid (fill_len_le (G := G) (ov := ov) (ev := evJ Ls) (m := m) (by have := HSL.out; have := HMR.out; omega) HGN.out)
  rw [List.length_map, HFL.out.1] at hvr
  rw [hvr]
  clear hvr
  obtain ⟨S0, hb0, -⟩ := fill_step (ev := evJ Ls) (G := G) (L := fillL G ov (evJ Ls) m) (i := m) HGN.out (by have := HSL.out; omega) (by have := HMR.out; omega) (by show fillS _ _ _ (fillM G ov m) = _; rw [HFL.out.2]) (.inr (by
    have h1 : 1 * G.slots ≤ (G.n - 1) * G.slots := Nat.mul_le_mul_right _ (by have := HGN.out; omega)
    have := HSL.out; have := HMR.out; omega))
  have HB0 := Lib.hid hb0
  have HNW := Lib.hid (show (fillL G ov (evJ Ls) m).s.newest < 2147483648 by
    have h1 := fillS_newest G.slots G.n (evJ Ls) (fillM G ov m) (by have := HSL.out; omega)
    have h2 := fillM_le G ov m
    have h3 := HMR.out
    show (fillS G.slots G.n (evJ Ls) (fillM G ov m)).newest < _
    omega)
  clear hb0
  go_wp2_with fail
  refine (HMD.out _).mono ?_
  rintro e w' ⟨rfl, rfl⟩
  go_wp2_with fail
  refine HW.out.reserve.mono ?_
  rintro e w2 ⟨rfl, hl2, hm2⟩
  have H2 := Lib.hid hl2
  clear hl2 hm2
  have hrv := resN_rng HW.out.num
  generalize hrr : resV (fillL G ov (evJ Ls) m) = r
  have hrs : resS (fillL G ov (evJ Ls) m) = resL (fillL G ov (evJ Ls) m) := rfl
  rw [hrs] at H2
  clear hrs hrv hrr
  go_wp2_with fail
  refine (H2.out.arm 1 t (by omega) HT.out.1 HT.out.2).mono ?_
  rintro e w3 ⟨rfl, hl3, hm3⟩
  have H3 := Lib.hid hl3
  clear hl3 hm3
  have HA3 := Lib.hid (H3.out.add (by have := HK.out; omega) zE)
  have hal := Dev.arm_up HC.out.1 1 t
  have hd1 : (D.arm 1 t).left = 1 := by rw [hal]; rfl
  have HDIE := Lib.hid (dies_addL (x := zE) H3.out.sync rfl H3.out.few hd1 (by decide) (by decide) (S0 := S0) HB0.out HNW.out)
  have HSP := Lib.hid (addL_spec H3.out.sync rfl H3.out.few (e := zE) (by decide) (by decide))
  generalize hR : addL G (D.arm 1 t) (resL (fillL G ov (evJ Ls) m)) zE = R at HA3 HDIE HSP
  obtain ⟨⟨ra, rc⟩, D4, L4⟩ := R
  have hrac : ra = 0 ∧ rc = 10 := by have := HDIE.out; simpa using this
  obtain ⟨rfl, rfl⟩ := hrac
  have HL4 := Lib.hid (show L4 = endL ∧ D4.down = true by
    rcases HSP.out.out with ⟨h, _⟩ | ⟨h, _⟩ | ⟨h, _⟩ | ⟨_, h1, h2, _⟩
    · injection h with _ h; cases h
    · injection h with _ h; cases h
    · injection h with _ h; cases h
    · exact ⟨h2, h1⟩)
  have hl4 := HL4.out.1
  simp only at hl4 HA3
  subst hl4
  clear hR hal hd1 HDIE HSP
  have HA3 : Hid (Calls Try.prog 15 #[.pointer (some ⟨qb, 0, none⟩), .agg #[.int .u16 0, .int .u32 0, .int .u16 0, .int .u8 0, .int .u8 0, .int .u8 0, .bool false, .int .u8 0, .int .u8 0, .int .u8 0]] w3 _) := HA3
  go_wp2_with fail
  refine HA3.out.mono ?_
  rintro e w4 ⟨v4, rfl, hl4, hm4, -⟩
  have H4 := Lib.hid hl4
  clear hl4 hm4 HA3
  go_wp2_with fail
  refine H4.out.restore.mono ?_
  rintro e w5 ⟨rfl, hl5, hm5⟩
  have H5 := Lib.hid hl5
  clear hl5 hm5
  have HA5 := Lib.hid (H5.out.add (by have := HK.out; omega) zE)
  rw [addL_end (.inl rfl)] at HA5
  have HA5 : Hid (Calls Try.prog 15 #[.pointer (some ⟨qb, 0, none⟩), .agg #[.int .u16 0, .int .u32 0, .int .u16 0, .int .u8 0, .int .u8 0, .int .u8 0, .bool false, .int .u8 0, .int .u8 0, .int .u8 0]] w5 _) := HA5
  go_wp2_with fail
  refine HA5.out.mono ?_
  rintro e w6 ⟨v6, rfl, hl6, hm6, -⟩
  have H6 := Lib.hid hl6
  clear hl6 hm6 HA5
  have HG6 : Hid (Calls Try.prog 30 #[.pointer (some ⟨qb, 0, none⟩), .int .u16 0] w6 fun e w' => e = .returned (.tuple #[.agg #[.int .u16 0, .int .u32 0, .int .u16 0, .int .u8 0, .int .u8 0, .int .u8 0, .bool false, .int .u8 0, .int .u8 0, .int .u8 0], .int .u16 0, .int .i64 8]) ∧ Mods [] w6 w') := Lib.hid (H6.out.get 0)
  go_wp2_with fail
  refine HG6.out.mono ?_
  rintro e w7 ⟨rfl, hm7⟩
  have H7 := Lib.hid (H6.out.mods0 (hm7.alloc (.cells #[.int .u16 0, .int .u32 0, .int .u16 0, .int .u8 0, .int .u8 0, .int .u8 0, .bool false, .int .u8 0, .int .u8 0, .int .u8 0] 37)))
  clear hm7
  have HC7 := Lib.hid (fun r => H7.out.clear (by have := HK.out; omega) r)
  have hce : ∀ r, clearL G { D4 with down := false, left := 0 } endL r = (10, { D4 with down := false, left := 0 }, endL) := fun r => by
    unfold clearL
    rw [if_pos (by rfl)]
  simp only [hce] at HC7
  clear hce
  go_wp2_with fail
  refine (HC7.out _).mono ?_
  rintro e w8 ⟨v8, rfl, hl8, hm8⟩
  have H8 := Lib.hid hl8
  clear hl8 hm8 HC7
  have HR8 := Lib.hid H8.out.records
  go_wp2_with fail
  refine HR8.out.mono ?_
  rintro e w9 ⟨v9, rfl, hr9, hm9⟩
  obtain ⟨a9, c9, h9⟩ := (hr9.rd evOk).len
  have h9 : v9 = .slice a9 0 c9 := h9
  subst h9
  have H9 := Lib.hid (H8.out.mods0 hm9)
  clear hr9 hm9 HR8
  have HN9 := Lib.hid H9.out.len
  have HF9 := Lib.hid H9.out.full
  have HV9 := Lib.hid H9.out.reserve
  have HN9 : Hid (Calls Try.prog 25 #[.pointer (some ⟨qb, 0, none⟩)] w9 fun e w' => e = .returned (.int .i64 0) ∧ w9 = w') := HN9
  have HF9 : Hid (Calls Try.prog 24 #[.pointer (some ⟨qb, 0, none⟩)] w9 fun e w' => e = .returned (.bool false) ∧ w9 = w') := HF9
  have HV9 : Hid (Calls Try.prog 38 #[.pointer (some ⟨qb, 0, none⟩)] w9 fun e w' => e = .returned (.int .u16 0) ∧ Lw w w' ⟨qb, v8⟩ B p G { D4 with down := false, left := 0 } endL _ ∧ Mods [qb] w9 w') := HV9
  go_wp2_with fail
  refine HN9.out.mono ?_
  rintro e w' ⟨rfl, rfl⟩
  go_wp2_with fail
  refine HF9.out.mono ?_
  rintro e w' ⟨rfl, rfl⟩
  go_wp2_with fail
  refine HV9.out.mono ?_
  rintro e w10 ⟨rfl, hl10, hm10⟩
  have H10 := Lib.hid hl10
  clear hl10 hm10
  go_wp2_with fail
  refine (HAW.out _).mono ?_
  rintro e w11 ⟨rfl, h11⟩
  have H11 := Lib.hid h11
  clear h11
  go_wp2_with fail
  go_ret
  exact ⟨rfl, H10.out.mods.trans H11.out⟩
end Go.Proofs.Ytkdadnlleepkfaa
