/- FlashClones: the walk. -/
import Derived.Test.YtjdimdebplggnaaPlay
import Derived.Test.YtjdimdebplggnaaClone
namespace Go.Proofs.Ytjdimdebplggnaa
open Go.RowKit
/-- Two devices of which neither has a block of the other. -/
def Apart (p q : DevAt) : Prop := ∀ k ∈ p.foot, k ∉ q.foot
theorem Apart.symm {p q : DevAt} (h : Apart p q) : Apart q p := fun k hk hp => h k hp hk
theorem Apart.new {w : World} {p q : DevAt} {D : Dev} (h : IsDev w p D) (hq : ∀ k ∈ q.foot, w.heap.size ≤ k) : Apart p q := fun k hk hk2 => by
  have := h.lt k hk
  have := hq k hk2
  omega
set_option maxRecDepth 100000 in
set_option maxHeartbeats 2000000 in
theorem flashClones_walk (w : World) (vl : Value) (l : List Do) (hvl : RdDos w vl l) (vm : Value) (m : List Do) (hvm : RdDos w vm m) (vn : Value) (n : List Do) (hvn : RdDos w vn n) :
    Calls Try.prog 10 #[vl, vm, vn] w fun e w' => e = .returned (.bool true) ∧ Mods [] w w' := by
  have HAW := Lib.hid (awake_ok w)
  have LL := Lib.hid (lightDo_ok w vl l hvl)
  have LM := Lib.hid (lightDo_ok w vm m hvm)
  have LN := Lib.hid (lightDo_ok w vn n hvn)
  have RL := Lib.hid hvl
  have RM := Lib.hid hvm
  have RN := Lib.hid hvn
  clear hvl hvm hvn
  cases hl : lightB l with
  | false =>
    have HL := Lib.hid hl
    clear hl
    go_enter Try.func10, Try.ntmps10
    go_wp2_with fail
    refine LL.out.mono ?_
    rw [HL.out]
    rintro e w' ⟨rfl, rfl⟩
    go_wp2_with fail
    refine HAW.out.mono ?_
    rintro e w' ⟨rfl, hm⟩
    go_wp2
    go_ret
    exact ⟨rfl, hm⟩
  | true =>
  have HL := Lib.hid hl
  clear hl
  cases hm : lightB m with
  | false =>
    have HM := Lib.hid hm
    clear hm
    go_enter Try.func10, Try.ntmps10
    go_wp2_with fail
    refine LL.out.mono ?_
    rw [HL.out]
    rintro e w' ⟨rfl, rfl⟩
    go_wp2_with fail
    refine LM.out.mono ?_
    rw [HM.out]
    rintro e w' ⟨rfl, rfl⟩
    go_wp2_with fail
    refine HAW.out.mono ?_
    rintro e w' ⟨rfl, hm⟩
    go_wp2
    go_ret
    exact ⟨rfl, hm⟩
  | true =>
  have HM := Lib.hid hm
  clear hm
  go_enter Try.func10, Try.ntmps10
  go_wp2_with fail
  refine LL.out.mono ?_
  rw [HL.out]
  rintro e w' ⟨rfl, rfl⟩
  go_wp2_with fail
  refine LM.out.mono ?_
  rw [HM.out]
  rintro e w' ⟨rfl, rfl⟩
  go_wp2_with fail
  refine LN.out.mono ?_
  rintro e w' ⟨rfl, rfl⟩
  cases hn : lightB n with
  | false =>
    clear hn
    go_wp2_with fail
    refine HAW.out.mono ?_
    rintro e w' ⟨rfl, hm⟩
    go_wp2
    go_ret
    exact ⟨rfl, hm⟩
  | true =>
  have HN := Lib.hid hn
  clear hn
  go_wp2_with fail
  refine (new264 w).mono ?_
  rintro e w1 ⟨p, rfl, P1, M1, F1⟩
  have HF := Lib.hid F1
  clear F1
  go_wp2_with fail
  refine (new264 w1).mono ?_
  rintro e w2 ⟨q, rfl, Q2, M2, F2⟩
  have z1 := M1.size
  have HG := Lib.hid (show ∀ k ∈ q.foot, w.heap.size ≤ k from fun k hk => by have := F2 k hk; omega)
  have APQ := Lib.hid (Apart.new P1 F2)
  have P2 := P1.mods0 M2
  have N2 := M1.trans M2
  have In0 := Dev.In.fresh (n := 2) (m := 64) (by omega) (by omega) (by omega)
  generalize Dev.fresh 2 64 = D0 at P2 Q2 In0
  clear P1 M1 M2 F2
  go_wp2_with fail
  refine (play_ok w w2 p D0 P2 0 (by omega) In0 vl l RL.out N2 HL.out HF.out).mono ?_
  rintro e w3 ⟨rfl, P3, In3, M3⟩
  have Q3 := Q2.mods M3 (fun k hk hk2 => APQ.out k hk2 hk)
  have N3 := N2.comp M3 (fun k hk => .inr (HF.out k hk))
  clear P2 Q2 N2 M3
  go_wp2_with fail
  refine (play_ok w w3 q D0 Q3 0 (by omega) In0 vl l RL.out N3 HL.out HG.out).mono ?_
  rintro e w4 ⟨rfl, Q4, _, M4⟩
  have P4 := P3.mods M4 (fun k hk hk2 => APQ.out k hk hk2)
  have N4 := N3.comp M4 (fun k hk => .inr (HG.out k hk))
  generalize D0.play l = D1 at P4 Q4 In3
  clear P3 Q3 N3 M4 In0
  go_wp2_with fail
  refine (clone_ok w4 p D1 P4 In3.ok (by rw [In3.dl]; omega) (by rw [In3.wl]; omega)).mono ?_
  rintro e w5 ⟨r, rfl, R5, M5, F5⟩
  have z4 := N4.size
  have HK := Lib.hid (show ∀ k ∈ r.foot, w.heap.size ≤ k from fun k hk => by have := F5 k hk; omega)
  have APR := Lib.hid (Apart.new P4 F5)
  have AQR := Lib.hid (Apart.new Q4 F5)
  have P5 := P4.mods0 M5
  have Q5 := Q4.mods0 M5
  have N5 := N4.trans M5
  clear P4 Q4 N4 M5 F5
  go_wp2_with fail
  refine (equal_ok w5 p q D1 P5 Q5 In3.ok).mono ?_
  rintro e w6 ⟨rfl, M6⟩
  have P6 := P5.mods0 M6
  have Q6 := Q5.mods0 M6
  have R6 := R5.mods0 M6
  have N6 := N5.trans M6
  clear P5 Q5 R5 N5 M6
  go_wp2_with fail
  refine (equal_ok w6 p r D1 P6 R6 In3.ok).mono ?_
  rintro e w7 ⟨rfl, M7⟩
  have P7 := P6.mods0 M7
  have Q7 := Q6.mods0 M7
  have R7 := R6.mods0 M7
  have N7 := N6.trans M7
  clear P6 Q6 R6 N6 M7
  go_wp2_with fail
  refine (play_ok w w7 r D1 R7 _ (by omega) In3 vn n RN.out N7 HN.out HK.out).mono ?_
  rintro e w8 ⟨rfl, R8, InN, M8⟩
  have P8 := P7.mods M8 (fun k hk hk2 => APR.out k hk hk2)
  have Q8 := Q7.mods M8 (fun k hk hk2 => AQR.out k hk hk2)
  have N8 := N7.comp M8 (fun k hk => .inr (HK.out k hk))
  have HDN : Hid (∃ E, E = D1.play n) := ⟨_, rfl⟩
  obtain ⟨DN, hdn⟩ := HDN.out
  rw [← hdn] at R8 InN
  have HDN := Lib.hid hdn.symm
  clear P7 Q7 R7 N7 M8 hdn
  go_wp2_with fail
  refine (equal_ok w8 p q D1 P8 Q8 In3.ok).mono ?_
  rintro e w9 ⟨rfl, M9⟩
  have P9 := P8.mods0 M9
  have Q9 := Q8.mods0 M9
  have R9 := R8.mods0 M9
  have N9 := N8.trans M9
  clear P8 Q8 R8 N8 M9
  go_wp2_with fail
  refine (play_ok w w9 p D1 P9 _ (by omega) In3 vm m RM.out N9 HM.out HF.out).mono ?_
  rintro e w10 ⟨rfl, P10, InM, M10⟩
  have Q10 := Q9.mods M10 (fun k hk hk2 => APQ.out k hk2 hk)
  have R10 := R9.mods M10 (fun k hk hk2 => APR.out k hk2 hk)
  have N10 := N9.comp M10 (fun k hk => .inr (HF.out k hk))
  clear P9 Q9 R9 N9 M10
  go_wp2_with fail
  refine (clone_ok w10 q D1 Q10 In3.ok (by rw [In3.dl]; omega) (by rw [In3.wl]; omega)).mono ?_
  rintro e w11 ⟨s, rfl, S11, M11, F11⟩
  have z10 := N10.size
  have HS := Lib.hid (show ∀ k ∈ s.foot, w.heap.size ≤ k from fun k hk => by have := F11 k hk; omega)
  have APS := Lib.hid (Apart.new P10 F11)
  have AQS := Lib.hid (Apart.new Q10 F11)
  have ARS := Lib.hid (Apart.new R10 F11)
  have P11 := P10.mods0 M11
  have Q11 := Q10.mods0 M11
  have R11 := R10.mods0 M11
  have N11 := N10.trans M11
  clear P10 Q10 R10 N10 M11 F11
  go_wp2_with fail
  refine (play_ok w w11 q D1 Q11 _ (by omega) In3 vm m RM.out N11 HM.out HG.out).mono ?_
  rintro e w12 ⟨rfl, Q12, _, M12⟩
  have P12 := P11.mods M12 (fun k hk hk2 => APQ.out k hk hk2)
  have R12 := R11.mods M12 (fun k hk hk2 => AQR.out k hk2 hk)
  have S12 := S11.mods M12 (fun k hk hk2 => AQS.out k hk2 hk)
  have N12 := N11.comp M12 (fun k hk => .inr (HG.out k hk))
  generalize D1.play m = DM at P12 Q12 InM
  clear P11 Q11 R11 S11 N11 M12
  go_wp2_with fail
  refine (play_ok w w12 s D1 S12 _ (by omega) In3 vn n RN.out N12 HN.out HS.out).mono ?_
  rw [HDN.out]
  rintro e w13 ⟨rfl, S13, _, M13⟩
  have P13 := P12.mods M13 (fun k hk hk2 => APS.out k hk hk2)
  have Q13 := Q12.mods M13 (fun k hk hk2 => AQS.out k hk hk2)
  have R13 := R12.mods M13 (fun k hk hk2 => ARS.out k hk hk2)
  have N13 := N12.comp M13 (fun k hk => .inr (HS.out k hk))
  clear P12 Q12 R12 S12 N12 M13
  go_wp2_with fail
  refine (equal_ok w13 p q DM P13 Q13 InM.ok).mono ?_
  rintro e w14 ⟨rfl, M14⟩
  have R14 := R13.mods0 M14
  have S14 := S13.mods0 M14
  have N14 := N13.trans M14
  clear P13 Q13 R13 S13 N13 M14
  go_wp2_with fail
  refine (equal_ok w14 r s DN R14 S14 InN.ok).mono ?_
  rintro e w15 ⟨rfl, M15⟩
  have N15 := N14.trans M15
  clear R14 S14 N14 M15
  go_wp2_with fail
  refine (awake_ok w15).mono ?_
  rintro e w16 ⟨rfl, M16⟩
  go_wp2
  go_ret
  exact ⟨rfl, N15.trans M16⟩
end Go.Proofs.Ytjdimdebplggnaa
