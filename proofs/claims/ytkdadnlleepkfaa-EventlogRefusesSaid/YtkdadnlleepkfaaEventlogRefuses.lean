/- EventlogRefuses: the walk of the law. -/
import Derived.Test.YtkdadnlleepkfaaLgXY
namespace Go.Proofs.Ytkdadnlleepkfaa
open Go.RowKit
set_option linter.unusedVariables false
set_option linter.unusedSimpArgs false
set_option maxRecDepth 100000 in
set_option maxHeartbeats 8000000 in
theorem eventlogRefuses_walk (w : World) (s : Int) (hs : I64 s) (f : Int) (hf : I64 f) (n : Int) (hn : I64 n) (id : Int) (hid : 0 ≤ id ∧ id ≤ 65535) (kd : Int) (hkd : 0 ≤ kd ∧ kd ≤ 255) :
    Calls Try.prog 3 #[.int .i64 s, .int .i64 f, .int .i64 n, .int .u16 id, .int .u8 kd] w fun e w' => e = .returned (.bool true) ∧ Mods [] w w' := by
  have m1 := Lib.hid (fun W => mod_ok s 5 W hs (by omega) (by omega))
  have m2 := Lib.hid (fun W => mod_ok f 8 W hf (by omega) (by omega))
  have m3 := Lib.hid (fun W => mod_ok n 8 W hn (by omega) (by omega))
  have HAW := Lib.hid awake_ok
  obtain ⟨s5, hs5⟩ := Int.eq_ofNat_of_zero_le (show 0 ≤ s % 5 by omega)
  have hs5l : s5 < 5 := by omega
  have f0 : 0 ≤ f % 8 := by omega
  have f1 : f % 8 < 8 := by omega
  have n0 : 0 ≤ n % 8 := by omega
  have n1 : n % 8 < 8 := by omega
  rw [hs5] at m1
  generalize f % 8 = fm at m2 f0 f1
  generalize n % 8 = nm at m3 n0 n1
  clear hs hf hn hs5
  have HN := Lib.hid (new_ok (s5 + 1) 64 (by omega) (by omega) (by omega) (by omega) w)
  have HN2 := Lib.hid (show Calls Try.prog 12 #[.int .i64 (1 + ((s5 : Nat) : Int)), .int .i64 64] w fun e w' => NewDev w (Dev.fresh (s5 + 1) 64) e w' from by
    have h := HN.out
    rwa [show (((s5 + 1 : Nat) : Nat) : Int) = 1 + ((s5 : Nat) : Int) by push_cast; omega] at h)
  have s0 : (0 : Int) ≤ ((s5 : Nat) : Int) := by omega
  have s1 : ((s5 : Nat) : Int) < 5 := by omega
  obtain ⟨i0, i1⟩ := hid
  obtain ⟨k0, k1⟩ := hkd
  go_enter Try.func3, Try.ntmps3
  go_wp2_with fail
  refine (m1.out _).mono ?_
  rintro e w' ⟨rfl, rfl⟩
  go_wp2_with fail
  refine HN2.out.mono ?_
  rintro e w1 ⟨p, rfl, hd, hm, hp⟩
  have HD := Lib.hid hd
  have HM := Lib.hid hm
  have HP := Lib.hid hp
  clear hd hm hp
  go_wp2_with fail
  refine (m2.out _).mono ?_
  rintro e w' ⟨rfl, rfl⟩
  go_wp2_with fail
  refine (m3.out _).mono ?_
  rintro e w' ⟨rfl, rfl⟩
  have HWL := Lib.hid (show (Dev.fresh (s5 + 1) 64).wear.length = s5 + 1 by show (List.replicate (s5 + 1) (0 : Int)).length = _; simp)
  by_cases hfit : 0 ≤ fm - 1 ∧ 2 ≤ nm ∧ fm - 1 + nm ≤ 1 + ((s5 : Nat) : Int)
  · obtain ⟨a1, a2, a3⟩ := hfit
    obtain ⟨a, ha⟩ := Int.eq_ofNat_of_zero_le a1
    obtain ⟨c, hc⟩ := Int.eq_ofNat_of_zero_le n0
    obtain rfl : fm = ((a : Nat) : Int) + 1 := by omega
    subst hc
    have a2' : 2 ≤ c := by omega
    have a3' : a + c ≤ s5 + 1 := by omega
    have b0 : (0 : Int) ≤ ((a : Nat) : Int) := by omega
    have b3 : ((a : Nat) : Int) + ((c : Nat) : Int) ≤ 1 + ((s5 : Nat) : Int) := by omega
    clear a1 a3 ha f0 f1
    obtain ⟨G, hG⟩ : ∃ G : Geo, G = ⟨a, c, 64⟩ := ⟨_, rfl⟩
    have HGE := Lib.hid hG
    have HF := Lib.hid (show Fits G (Dev.fresh (s5 + 1) 64) by
      rw [hG]
      exact ⟨Dev.fresh_ok (by omega) (by omega) (by omega), rfl, by rw [HWL.out]; show a + c ≤ s5 + 1; omega, by show 2 ≤ c; omega, by show 64 ≤ 64; omega⟩)
    obtain ⟨x, hx⟩ : ∃ x : Evt, x = { zE with id := ⟨id.toNat, by omega⟩, typ := ⟨kd.toNat, by omega⟩ } := ⟨_, rfl⟩
    have HXC := Lib.hid (show x.cells.toArray = #[.int .u16 id, .int .u32 0, .int .u16 0, .int .u8 0, .int .u8 0, .int .u8 kd, .bool false, .int .u8 0, .int .u8 0, .int .u8 0] by
      rw [hx]
      simp only [Evt.cells]
      refine congrArg List.toArray ?_
      simp only [List.cons.injEq, Value.int.injEq, true_and, and_true]
      exact ⟨by show ((id.toNat : Nat) : Int) = id; omega, rfl, rfl, rfl, rfl, by show ((kd.toNat : Nat) : Int) = kd; omega, rfl, rfl, rfl, rfl⟩)
    have HXV := Lib.hid (show (validE x && decide (x.id.val = 0)) = (decide (id = 0) && decide (kd ≤ 127)) by
      have h1 : x.id.val = id.toNat := by rw [hx]
      have h2 : x.typ.val = kd.toNat := by rw [hx]
      have h3 : x.time.val = 0 := by rw [hx]; rfl
      rw [Bool.eq_iff_iff, Bool.and_eq_true, Bool.and_eq_true, validE_iff, decide_eq_true_eq, decide_eq_true_eq, decide_eq_true_eq, h1, h2, h3]
      omega)
    have HOP := Lib.hid (show Calls Try.prog 13 #[.pointer (some ⟨p.b, 0, none⟩), .int .i64 ((a : Nat) : Int), .int .i64 ((c : Nat) : Int), .bool false] w1 fun e w' => ∃ q : LogAt, e = .returned (.tuple #[.pointer (some ⟨q.b, 0, none⟩), .int .i64 0]) ∧ Lw w w' q (w1.heap.size + 1) p G (Dev.fresh (s5 + 1) 64) (fillL G false (fun _ => x) 0) 0 ∧ Mods [] w1 w' by
      have h := Lw.open HD.out HF.out rfl (fresh_few _ _) HM.out HP.out false
      have ho := fresh_open (N := s5 + 1) (z := 64) G (by omega) (by rw [hG]) (by rw [hG]; show a + c ≤ s5 + 1; omega) (by rw [hG]; show 0 < c; omega)
      rw [ho] at h
      rw [fillL_zero G false (fun _ => x) (by have := slots_pos HF.out; omega)]
      rw [hG] at h ⊢
      exact h)
    clear hG hx a2' a3'
    go_wp2_with fail
    refine HOP.out.mono ?_
    rintro e w2 ⟨⟨qb, v0⟩, rfl, hlw, hm2⟩
    have HLW := Lib.hid hlw
    clear hlw hm2
    have HAD := Lib.hid (HLW.out.add (by omega) x)
    rw [HXC.out] at HAD
    by_cases hgood : id = 0 ∧ kd ≤ 127
    · obtain ⟨g1, g2⟩ := hgood
      subst g1
      have hv : validE x = true ∧ x.id.val = 0 := by
        have h := HXV.out
        rw [decide_eq_true rfl, decide_eq_true g2] at h
        simpa using h
      have hst := fillL_add (ev := fun _ => x) HLW.out.sync (fresh_calm _ _) HLW.out.few (by omega) hv
      have h2 := hst.2
      have hpos : 0 < (G.n - 1) * G.slots := Nat.mul_pos (by have := HF.out.n2; omega) (by have := slots_pos HF.out; omega)
      rw [if_pos (.inr hpos)] at h2
      rw [h2] at HAD
      clear h2 hst hv hpos
      go_wp2_with fail
      refine HAD.out.mono ?_
      rintro e w5 ⟨v', rfl, hl5, hm5, hy5⟩
      have H5 := Lib.hid hl5
      clear hl5 hm5 hy5 HAD
      go_wp2_with fail
      refine (HAW.out _).mono ?_
      rintro e w6 ⟨rfl, h6⟩
      have H6 := Lib.hid h6
      clear h6
      go_wp2_with fail
      go_ret
      exact ⟨rfl, H5.out.mods.trans H6.out⟩
    · have hbd : (validE x && decide (x.id.val = 0)) = false := by
        rw [HXV.out]
        simp only [Bool.and_eq_false_iff, decide_eq_false_iff_not]
        omega
      have hab := addL_bad (G := G) (D := Dev.fresh (s5 + 1) 64) (L := fillL G false (fun _ => x) 0) rfl rfl hbd
      rw [hab] at HAD
      clear hab hbd
      have HAD2 := Lib.hid (show Calls Try.prog 15 #[.pointer (some ⟨qb, 0, none⟩), .agg #[.int .u16 id, .int .u32 0, .int .u16 0, .int .u8 0, .int .u8 0, .int .u8 kd, .bool false, .int .u8 0, .int .u8 0, .int .u8 0]] w2 fun e w' => ∃ v', e = .returned (.tuple #[.int .u16 0, .int .i64 1]) ∧ Lw w w' ⟨qb, v'⟩ (w1.heap.size + 1) p G (Dev.fresh (s5 + 1) 64) (fillL G false (fun _ => x) 0) (0 + 29) ∧ Mods (p.foot ++ LogAt.foot ⟨qb, v0⟩) w2 w' ∧ _ from HAD.out)
      by_cases g1 : id = 0
      · have g2 : ¬ kd ≤ 127 := fun h => hgood ⟨g1, h⟩
        have g3 : decide (kd ≤ 127) = false := decide_eq_false g2
        subst g1
        clear hgood
        go_wp2_with fail
        refine HAD2.out.mono ?_
        rintro e w5 ⟨v', rfl, hl5, hm5, -⟩
        have H5 := Lib.hid hl5
        have HST := Lib.hid (steps_ok w5 p _ hl5.dev)
        clear hl5 hm5 HAD HAD2
        go_wp2_with fail
        refine HST.out.mono ?_
        rintro e w6 ⟨rfl, rfl⟩
        go_wp2_with fail
        refine (HAW.out _).mono ?_
        rintro e w6 ⟨rfl, h6⟩
        have H6 := Lib.hid h6
        clear h6
        go_wp2_with fail
        go_ret
        exact ⟨rfl, H5.out.mods.trans H6.out⟩
      · clear hgood
        go_wp2_with fail
        refine HAD2.out.mono ?_
        rintro e w5 ⟨v', rfl, hl5, hm5, -⟩
        have H5 := Lib.hid hl5
        have HST := Lib.hid (steps_ok w5 p _ hl5.dev)
        clear hl5 hm5 HAD HAD2
        go_wp2_with fail
        refine HST.out.mono ?_
        rintro e w6 ⟨rfl, rfl⟩
        go_wp2_with fail
        refine (HAW.out _).mono ?_
        rintro e w6 ⟨rfl, h6⟩
        have H6 := Lib.hid h6
        clear h6
        go_wp2_with fail
        go_ret
        exact ⟨rfl, H5.out.mods.trans H6.out⟩
  · have HOB := Lib.hid (open_bad w1 p _ HD.out (by rw [HWL.out]; omega) (fm - 1) nm (by omega) (by omega) false (by rw [HWL.out]; push_cast; omega))
    have HW1 := Lib.hid (HAW.out w1)
    by_cases a1 : 0 ≤ fm - 1
    · obtain ⟨a, ha⟩ := Int.eq_ofNat_of_zero_le a1
      obtain rfl : fm = ((a : Nat) : Int) + 1 := by omega
      have HOB : Hid (Calls Try.prog 13 #[.pointer (some ⟨p.b, 0, none⟩), .int .i64 ((a : Nat) : Int), .int .i64 nm, .bool false] w1 fun e w' => e = .returned (.tuple #[.pointer none, .int .i64 2]) ∧ w1 = w') := Lib.hid (by
        have h := HOB.out
        rwa [show ((a : Nat) : Int) + 1 - 1 = ((a : Nat) : Int) by omega] at h)
      have b0 : (0 : Int) ≤ ((a : Nat) : Int) := by omega
      have b3 : 2 ≤ nm → ¬ ((a : Nat) : Int) + nm ≤ 1 + ((s5 : Nat) : Int) := fun h1 h2 => hfit ⟨a1, h1, by omega⟩
      clear a1 ha hfit
      by_cases a2 : 2 ≤ nm
      · have a3 := b3 a2
        have a4 : decide (((a : Nat) : Int) + nm ≤ 1 + ((s5 : Nat) : Int)) = false := decide_eq_false a3
        clear b3
        go_wp2_with fail
        refine HOB.out.mono ?_
        rintro e w' ⟨rfl, rfl⟩
        go_wp2_with fail
        refine HW1.out.mono ?_
        rintro e w6 ⟨rfl, h6⟩
        have H6 := Lib.hid h6
        clear h6
        go_wp2_with fail
        go_ret
        exact ⟨rfl, HM.out.trans H6.out⟩
      · clear b3
        have a4 : decide (2 ≤ nm) = false := decide_eq_false a2
        go_wp2_with fail
        refine HOB.out.mono ?_
        rintro e w' ⟨rfl, rfl⟩
        go_wp2_with fail
        refine HW1.out.mono ?_
        rintro e w6 ⟨rfl, h6⟩
        have H6 := Lib.hid h6
        clear h6
        go_wp2_with fail
        go_ret
        exact ⟨rfl, HM.out.trans H6.out⟩
    · obtain rfl : fm = 0 := by omega
      have HOB : Hid (Calls Try.prog 13 #[.pointer (some ⟨p.b, 0, none⟩), .int .i64 (-1), .int .i64 nm, .bool false] w1 fun e w' => e = .returned (.tuple #[.pointer none, .int .i64 2]) ∧ w1 = w') := HOB
      clear hfit a1 f0 f1
      go_wp2_with fail
      refine HOB.out.mono ?_
      rintro e w' ⟨rfl, rfl⟩
      go_wp2_with fail
      refine HW1.out.mono ?_
      rintro e w6 ⟨rfl, h6⟩
      have H6 := Lib.hid h6
      clear h6
      go_wp2_with fail
      go_ret
      exact ⟨rfl, HM.out.trans H6.out⟩
end Go.Proofs.Ytkdadnlleepkfaa
