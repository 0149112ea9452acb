/- Joined texts. The reference's Clear: contract. | The reference's Open in a place that does not fit: contract. | law09.sameDevice: contract. | The program's log and the reference's, over two devices of one content. | law09.same: contract. -/
import Derived.Test.YtkdadnlleepkfaaRfY
namespace Go.Proofs.Ytkdadnlleepkfaa
open Go.RowKit
set_option linter.unusedVariables false
set_option linter.unusedSimpArgs false
set_option maxRecDepth 100000
/-- What Clear of the reference leaves. -/
def RClearPost (w : World) (rb : Nat) (p : DevAt) (G : Geo) (D : Dev) (L : LogP) (r : Nat) (e : Ending) (w' : World) : Prop :=
  ∃ R', e = .returned (.int .i64 (clearL G D L r).1) ∧ RefAt w' rb p G (clearL G D L r).2.1 R' ∧ RelL (clearL G D L r).2.2 R' ∧ Mods (rb :: p.foot) w w'
set_option maxHeartbeats 8000000 in
theorem rClear_ok (w : World) (rb : Nat) (p : DevAt) (G : Geo) (D : Dev) (R : RLog) (L : LogP) (h : RefAt w rb p G D R) (hs : Sync G D L) (hr : RelL L R) (hf : Few D 4611686018425000000) (hn : L.num ≤ 65535) (r : Nat) (hr16 : r ≤ 65535) :
    Calls Try.prog 41 #[.pointer (some ⟨rb, 0, none⟩), .int .u16 (r : Nat)] w fun e w' => RClearPost w rb p G D L r e w' := by
  have H := Lib.hid h
  have HS := Lib.hid hs
  have HRL := Lib.hid hr
  have HFW := Lib.hid hf
  have c7 := h.c7
  have c0 := h.c0
  clear h hs hf
  by_cases hed : L.ended = true
  · have HAD := Lib.hid (show clearL G D L r = (10, D, endL) from by unfold clearL; rw [if_pos (by rw [hed]; rfl)])
    have hre : R.ended = true := hr.e.trans hed
    rw [hre] at c7
    clear hed hre hr
    have HEN := Lib.hid (rEnd_ok w rb p G D R H.out)
    go_enter Try.func41, Try.ntmps41
    go_wp2_with fail
    refine HEN.out.mono ?_
    rintro e w1 ⟨rfl, hr1, hm1⟩
    have HX := Lib.hid (And.intro hr1 (show Mods (rb :: p.foot) w w1 from hm1.mono (fun y hy => .inl (by simp at hy; simp [hy]))))
    clear hr1 hm1
    go_wp2_with fail
    go_ret
    refine ⟨rEnd R, by rw [HAD.out]; rfl, ?_, ?_, HX.out.2⟩
    · rw [HAD.out]; exact HX.out.1
    · rw [HAD.out]; exact RelL.end (L := L) R
  · have hed' : L.ended = false := by simpa using hed
    have HED := Lib.hid hed'
    have hre : R.ended = false := hr.e.trans hed'
    have hdn : D.down = false := HS.out.up hed'
    have HDN := Lib.hid hdn
    have HLS := Lib.hid (HS.out.s hed')
    have d6 := H.out.dev.c6
    have c6 := H.out.c6
    have c5 := H.out.c5
    rw [hre] at c7
    rw [hdn] at d6
    rw [HRL.out.held hed'] at c6
    rw [HRL.out.num hed'] at c5
    have HSP := Lib.hid (clearL_spec HS.out hed' HFW.out r)
    have HCB := Lib.hid (show (L.held && decide (r = L.num)) = false → clearL G D L r = (11, D, L) from fun hb => by
      unfold clearL
      rw [if_neg (by rw [HED.out, HDN.out]; decide), if_pos hb])
    clear hed hed' hre hdn hr
    have n0 : (0 : Int) ≤ ((L.num : Nat) : Int) := by omega
    have n1 : ((L.num : Nat) : Int) ≤ 65535 := by omega
    have r0 : (0 : Int) ≤ ((r : Nat) : Int) := by omega
    have r1 : ((r : Nat) : Int) ≤ 65535 := by omega
    obtain ⟨hb, hhb⟩ : ∃ b, b = L.held := ⟨_, rfl⟩
    rw [← hhb] at c6
    have HHB := Lib.hid hhb
    clear hhb
    cases hb with
    | false =>
      have HAD := Lib.hid (HCB.out (by rw [← HHB.out]; rfl))
      go_enter Try.func41, Try.ntmps41
      go_wp2_with fail
      go_ret
      refine ⟨R, by rw [HAD.out]; rfl, ?_, ?_, Mods.refl⟩
      · rw [HAD.out]; exact H.out
      · rw [HAD.out]; exact HRL.out
    | true =>
      by_cases hrn : r = L.num
      · have e1 : (((r : Nat) : Int) != ((L.num : Nat) : Int)) = false := by simp [hrn]
        have HRN := Lib.hid hrn
        clear hrn HCB
        have HRC := Lib.hid (rRecords_ok w rb p G D R H.out)
        have HRR := Lib.hid (show rRecs D G R = L.s.recs.map (·.2) from by unfold rRecs; rw [HRL.out.e, HED.out, HLS.out]; rfl)
        rw [HRR.out] at HRC
        go_enter Try.func41, Try.ntmps41
        go_wp2_with fail
        refine HRC.out.mono ?_
        rintro e w1 ⟨v1, rfl, ho1, hm1⟩
        have HR1 := Lib.hid (H.out.mods0 hm1)
        have HM1 := Lib.hid hm1
        obtain ⟨ad, cap, hv1⟩ := (ho1.rd evOk).len
        rw [List.length_map] at hv1
        rw [hv1]
        clear ho1 hm1 hv1 HRC c7 c0 c5 c6 d6 e1 n0 n1 r0 r1
        have HCE := Lib.hid (show clearL G D L r = (if L.s.recs = [] then (0, D, { L with held := false, full := false }) else if (openL G D L.s (L.s.newest + 1)).1 ≠ 0 then ((openL G D L.s (L.s.newest + 1)).1, (openL G D L.s (L.s.newest + 1)).2.1, orEnd (openL G D L.s (L.s.newest + 1)).2.1 { L with s := (openL G D L.s (L.s.newest + 1)).2.2 }) else (0, (openL G D L.s (L.s.newest + 1)).2.1, { L with s := (openL G D L.s (L.s.newest + 1)).2.2, held := false, full := false })) from by
          unfold clearL
          rw [if_neg (by rw [HED.out, HDN.out]; decide), if_neg (by rw [← HHB.out, HRN.out]; simp)])
        by_cases hl : L.s.recs = []
        · have HW := Lib.hid (show clearL G D L r = (0, D, { L with held := false, full := false }) from by rw [HCE.out, if_pos hl])
          have HRX := HR1
          have HMX := Lib.hid (show Mods (rb :: p.foot) w w1 from HM1.out.nil)
          rw [hl]
          clear hl HCE HSP HRR
          have c6 := HRX.out.c6
          have c4 := HRX.out.c4
          have f6 := froz_blk HRX.out.blk 6
          have f4 := froz_blk HRX.out.blk 4
          go_wp2_with fail
          go_ret
          refine ⟨{ R with held := false, refused := false }, by rw [HW.out]; rfl, ?_, ?_, (HMX.out.setCell (.inl (by simp)) _).setCell (.inl (by simp)) _⟩
          · rw [HW.out]
            exact (HRX.out.put 6 (.bool false) (R' := { R with held := false }) rfl).put 4 (.bool false) (R' := { R with held := false, refused := false }) rfl
          · rw [HW.out]
            exact ⟨HRL.out.e, rfl, HRL.out.over, fun _ => rfl, HRL.out.num⟩
        · have hpos : 0 < L.s.recs.length := List.length_pos_iff.2 hl
          have hce := HCE.out
          rw [if_neg hl] at hce
          have HCE2 := Lib.hid hce
          have hsp := HSP.out
          obtain ⟨n, hn⟩ : ∃ n, n = L.s.recs.length := ⟨_, rfl⟩
          have e1 : decide ((0 : Int) < ((n : Nat) : Int)) = true := decide_eq_true (by omega)
          have e2 : decide (0 < n) = true := decide_eq_true (by omega)
          have e3 : (0 : Int) < ((n : Nat) : Int) := by omega
          rw [← hn]
          have HLO := Lib.hid (rLopen_ok w1 rb p G D R HR1.out HDN.out (HFW.out.mono (by omega)) 0 (by omega))
          rw [← HLS.out] at HLO
          have hrt : rTail L.s 0 = L.s.newest + 1 := rfl
          rw [hrt] at HLO
          have HLO : Hid (Calls Try.prog 71 #[.pointer (some ⟨rb, 0, none⟩), .int .i64 0] w1 _) := HLO
          have HFI := Lib.hid (show Fits G (openL G D L.s (L.s.newest + 1)).2.1 ∧ ((openL G D L.s (L.s.newest + 1)).1 = 0 ∨ ((openL G D L.s (L.s.newest + 1)).1 = 3 ∧ (openL G D L.s (L.s.newest + 1)).2.1 = D) ∨ ((openL G D L.s (L.s.newest + 1)).1 = 10 ∧ (openL G D L.s (L.s.newest + 1)).2.1.down = true)) from by
            obtain ⟨f1, f2, f3, f4, f5, f6⟩ := openS_facts (byt D) G
            have h := openL_spec H.out.fit HDN.out HFW.out (t := (openS (byt D) G).newest + 1) (by omega) (by omega) (Nat.le_refl _) (by omega)
            rw [← HLS.out] at h
            obtain ⟨h1, _, _, h4⟩ := h
            refine ⟨h1, ?_⟩
            rcases h4 with ⟨h5, _⟩ | ⟨h5, h6, _⟩ | ⟨h5, h6, _⟩
            · exact .inl h5
            · exact .inr (.inl ⟨h5, h6⟩)
            · exact .inr (.inr ⟨h5, h6⟩))
          clear hl hpos hce hsp hn hrt HCE HSP HRR
          generalize openL G D L.s (L.s.newest + 1) = OP at HCE2 HLO HFI
          obtain ⟨oc, D1, S1⟩ := OP
          simp only at HCE2 HLO HFI
          go_wp2_with fail
          refine HLO.out.mono ?_
          rintro e w2 ⟨rfl, hd2, hm2⟩
          have HRX := Lib.hid (HR1.out.redev hd2 HFI.out.1 hm2)
          have HMX := Lib.hid (show Mods (rb :: p.foot) w w2 from HM1.out.nil.trans (hm2.mono (fun y hy => .inl (by simp [hy]))))
          clear hd2 hm2 HLO HR1 HM1 e1 e2 e3
          have hfo := HFI.out.2
          rcases hfo with h1 | ⟨h1, h2⟩ | ⟨h1, h2⟩
          · subst h1
            have HW := Lib.hid (show clearL G D L r = (0, D1, { L with s := S1, held := false, full := false }) from by rw [HCE2.out, if_neg (fun h => h rfl)])
            clear HCE2 HFI
            have c6 := HRX.out.c6
            have c4 := HRX.out.c4
            have f6 := froz_blk HRX.out.blk 6
            have f4 := froz_blk HRX.out.blk 4
            go_wp2_with fail
            go_ret
            refine ⟨{ R with held := false, refused := false }, by rw [HW.out]; rfl, ?_, ?_, (HMX.out.setCell (.inl (by simp)) _).setCell (.inl (by simp)) _⟩
            · rw [HW.out]
              exact (HRX.out.put 6 (.bool false) (R' := { R with held := false }) rfl).put 4 (.bool false) (R' := { R with held := false, refused := false }) rfl
            · rw [HW.out]
              exact ⟨HRL.out.e, rfl, HRL.out.over, fun _ => rfl, HRL.out.num⟩
          · subst h1
            have HW := Lib.hid (show clearL G D L r = (3, D1, { L with s := S1 }) from by
              rw [HCE2.out, if_pos (by decide : ¬ (3 : Int) = 0)]
              unfold orEnd
              rw [if_neg (by rw [h2, HDN.out]; decide)])
            clear h2 HCE2 HFI
            go_wp2_with fail
            go_ret
            refine ⟨R, by rw [HW.out]; rfl, ?_, ?_, HMX.out⟩
            · rw [HW.out]; exact HRX.out
            · rw [HW.out]; exact HRL.out.s _
          · subst h1
            have HW := Lib.hid (show clearL G D L r = (10, D1, endL) from by
              rw [HCE2.out, if_pos (by decide : ¬ (10 : Int) = 0)]
              unfold orEnd
              rw [if_pos h2])
            have HEND := Lib.hid (rEnd_ok w2 rb p G D1 R HRX.out)
            clear h2 HCE2 HFI
            go_wp2_with fail
            refine HEND.out.mono ?_
            rintro e w9 ⟨rfl, hr9, hm9⟩
            have HR9 := Lib.hid hr9
            have HM9 := Lib.hid (show Mods (rb :: p.foot) w w9 from HMX.out.trans (hm9.mono (fun y hy => .inl (by simp at hy; simp [hy]))))
            clear hr9 hm9
            go_wp2_with fail
            go_ret
            refine ⟨rEnd R, by rw [HW.out]; rfl, ?_, ?_, HM9.out⟩
            · rw [HW.out]; exact HR9.out
            · rw [HW.out]; exact RelL.end (L := L) R
      · have e1 : (((r : Nat) : Int) != ((L.num : Nat) : Int)) = true := by simp; omega
        have HAD := Lib.hid (HCB.out (by rw [← HHB.out]; rw [decide_eq_false hrn]; rfl))
        go_enter Try.func41, Try.ntmps41
        go_wp2_with fail
        go_ret
        refine ⟨R, by rw [HAD.out]; rfl, ?_, ?_, Mods.refl⟩
        · rw [HAD.out]; exact H.out
        · rw [HAD.out]; exact HRL.out
end Go.Proofs.Ytkdadnlleepkfaa

namespace Go.Proofs.Ytkdadnlleepkfaa
open Go.RowKit
set_option linter.unusedVariables false
set_option linter.unusedSimpArgs false
set_option maxRecDepth 100000
set_option maxHeartbeats 4000000 in
theorem rOpen_bad (w : World) (p : DevAt) (D : Dev) (h : IsDev w p D) (hs : D.wear.length ≤ 16) (first n : Int) (h1 : -100 ≤ first ∧ first ≤ 100) (h2 : -100 ≤ n ∧ n ≤ 100) (over : Bool)
    (hb : n < 2 ∨ first < 0 ∨ (D.wear.length : Int) < n ∨ (D.wear.length : Int) - n < first) :
    Calls Try.prog 34 #[.pointer (some ⟨p.b, 0, none⟩), .int .i64 first, .int .i64 n, .bool over] w fun e w' => e = .returned (.tuple #[.pointer none, .int .i64 2]) ∧ w = w' := by
  have c2 := h.c2
  obtain ⟨a1, a2⟩ := h1
  obtain ⟨b1, b2⟩ := h2
  obtain ⟨m, hm⟩ : ∃ m, m = D.wear.length := ⟨_, rfl⟩
  rw [← hm] at c2 hs hb
  clear h hm
  by_cases k1 : n < 2
  · have d1 : decide (n < 2) = true := decide_eq_true k1
    clear hb
    go_enter Try.func34, Try.ntmps34
    go_wp2_with fail
    go_ret2
    exact ⟨rfl, rfl⟩
  · have d1 : decide (n < 2) = false := decide_eq_false k1
    by_cases k3 : (m : Int) < n
    · have d3 : decide ((m : Int) < n) = true := decide_eq_true k3
      clear hb
      go_enter Try.func34, Try.ntmps34
      go_wp2_with fail
      go_ret2
      exact ⟨rfl, rfl⟩
    · have d3 : decide ((m : Int) < n) = false := decide_eq_false k3
      by_cases k2 : first < 0
      · have d2 : decide (first < 0) = true := decide_eq_true k2
        clear hb
        go_enter Try.func34, Try.ntmps34
        go_wp2_with fail
        go_ret2
        exact ⟨rfl, rfl⟩
      · have d2 : decide (first < 0) = false := decide_eq_false k2
        have k4 : (m : Int) - n < first := by omega
        have d4 : decide ((m : Int) - n < first) = true := decide_eq_true k4
        clear hb
        go_enter Try.func34, Try.ntmps34
        go_wp2_with fail
        go_ret2
        exact ⟨rfl, rfl⟩
end Go.Proofs.Ytkdadnlleepkfaa

namespace Go.Proofs.Ytkdadnlleepkfaa
open Go.RowKit
set_option linter.unusedVariables false
set_option linter.unusedSimpArgs false
set_option maxRecDepth 100000
theorem read_all {D : Dev} (hd : D.down = false) : D.read 0 (D.data.length : Int) = (D.data, 0) := by
  have hf : fits D 0 (D.data.length : Int) = true := by simp only [fits, decide_eq_true_eq]; omega
  rw [Dev.read, if_neg (by rw [hd]; simp), if_pos hf]
  refine congrArg (·, 0) ?_
  exact List.take_of_length_le (by simp)
set_option maxHeartbeats 4000000 in
theorem sameDev_ok (w : World) (p q : DevAt) (D : Dev) (I : IsDev w p D) (J : IsDev w q D) (ok : D.Ok) :
    Calls Try.prog 37 #[.pointer (some ⟨p.b, 0, none⟩), .pointer (some ⟨q.b, 0, none⟩)] w fun e w' => e = .returned (.bool true) ∧ Mods [] w w' := by
  have HI := Lib.hid I
  have HJ := Lib.hid J
  have HOK := Lib.hid ok
  have hw16 := ok.wl
  clear I J ok
  go_enter Try.func37, Try.ntmps37
  go_wp2_with fail
  refine (wear_ok w p D HI.out HOK.out).mono ?_
  rintro e w1 ⟨v1, rfl, O1, M1⟩
  have HM1 := Lib.hid M1
  have HR1 := Lib.hid (Rd.own O1)
  have HI1 := Lib.hid (HI.out.mods0 M1)
  have HJ1 := Lib.hid (HJ.out.mods0 M1)
  obtain ⟨ad, cap, hv⟩ := HR1.out.len
  rw [i64s_length] at hv
  rw [hv] at HR1 ⊢
  clear O1 M1 hv
  have k2 := HJ1.out.c2
  have k3 := HJ1.out.c3
  have k6 := HJ1.out.c6
  have x1 : (D.down != D.down) = false := by simp
  have x2 : (D.steps != D.steps) = false := by simp
  have x3 : (((D.wear.length : Nat) : Int) != ((D.wear.length : Nat) : Int)) = false := by simp
  go_upto_region 2 with (fail)
  go_quiet (first | (go_at_call 77; exact quietL (down_ok _ p D (HI1.out.drewN _))) | (go_at_call 16; exact quietL (steps_ok _ p D (HI1.out.drewN _))))
  have HM2 := Lib.hid (HM1.out.drewN nq)
  have HI2 := Lib.hid (HI1.out.drewN nq)
  have HJ2 := Lib.hid (HJ1.out.drewN nq)
  have HR2 := Lib.hid (HR1.out.mods0 (Mods.refl.drewN nq))
  generalize w1.drewN nq = w2 at HM2 HI2 HJ2 HR2 ⊢
  clear k2 k3 k6 x1 x2 x3 HM1 HI1 HJ1 HR1 HI HJ
  go_wp2_with fail
  go_loopw [6] (fun i wr => ∃ k : Nat, k ≤ D.wear.length ∧ i = .int .i64 (k : Nat) ∧ Mods [] w2 wr) (fun i _ => D.wear.length - (intOf i).toNat)
  case atStart => exact ⟨0, Nat.zero_le _, rfl, Mods.refl⟩
  case round =>
    obtain ⟨k, hk, rfl, hM⟩ := hrel
    have HM := Lib.hid hM
    have i0 : (0 : Int) ≤ (k : Int) := by omega
    have i16 : k ≤ 16 := by omega
    have HJk := Lib.hid (HJ2.out.mods0 hM)
    by_cases hlt : k < D.wear.length
    · have i1 : (k : Int) < (D.wear.length : Int) := by omega
      have cw := HJk.out.wat hlt
      have c2 := HJk.out.c2
      obtain ⟨_, _, he, _, _, hx⟩ := HR2.out.mods0 hM
      rw [i64s_length] at he
      injection he with he1 _ he2
      subst he1 he2
      obtain ⟨bb, off, rfl, cx⟩ := hx k (by rw [i64s_length]; exact hlt)
      rw [i64s_getD _ _ hlt] at cx
      have x1 : ((D.wear.getD k 0) != (D.wear.getD k 0)) = false := by simp
      generalize D.wear.getD k 0 = y at cw cx x1
      clear hx hk hM
      go_wp2_with fail
      go_quiet (fail)
      go_wp2_with fail
      go_roundw
      case rel => exact ⟨k + 1, by omega, by go_num, HM.out.drewN _⟩
      case measure => simp [intOf]; omega
    · have i1 : ¬ (k : Int) < (D.wear.length : Int) := by omega
      clear hlt hk
      have c1 := HJk.out.c1
      have hIk := HI2.out.mods0 hM
      clear hM
      cases hd : D.down with
      | true =>
        have HD := Lib.hid hd
        have c6 := HJk.out.c6
        rw [hd] at c6
        clear hd
        go_wp2_with fail
        refine (read_ok wr p D hIk HOK.out 0 (D.data.length : Int)).mono ?_
        rw [show D.read 0 (D.data.length : Int) = ([], 10) by rw [Dev.read, if_pos HD.out]]
        rintro e w4 ⟨v4, rfl, O4, M4⟩
        obtain ⟨a4, c4, rfl⟩ := (Rd.own O4).len
        have c6 := M4.cell c6 (by simp)
        have HN := Lib.hid (HM2.out.trans (HM.out.trans M4))
        clear O4 M4 c1 hIk
        go_wp2_with fail
        go_ret
        exact ⟨rfl, HN.out⟩
      | false =>
        have HRA := Lib.hid (read_all hd)
        have HQ2 := Lib.hid (show (D.data == D.data) = true by simp)
        have c6 := HJk.out.c6
        rw [hd] at c6
        clear hd
        go_wp2_with fail
        refine (read_ok wr p D hIk HOK.out 0 (D.data.length : Int)).mono ?_
        rw [HRA.out]
        rintro e w4 ⟨v4, rfl, O4, M4⟩
        have c6 := M4.cell c6 (by simp)
        have c1 := M4.cell c1 (by simp)
        have HS := Lib.hid (Rd.own O4)
        have HT := Lib.hid ((u8s_length D.data ▸ HJk.out.dat.rd : Rd wr (.slice (some ⟨q.g, 0, none⟩) D.data.length q.cb) (u8s D.data)).mods0 M4)
        have HN4 := Lib.hid (HM2.out.trans (HM.out.trans M4))
        clear O4 M4 hIk
        go_wp2_with fail
        refine (same_ok w4 v4 _ _ _ HS.out HT.out).mono ?_
        rw [HQ2.out]
        rintro e w5 ⟨rfl, n, rfl⟩
        have HN := Lib.hid (HN4.out.drewN n)
        clear c1 c6
        go_wp2_with fail
        go_ret
        exact ⟨rfl, HN.out⟩
end Go.Proofs.Ytkdadnlleepkfaa

namespace Go.Proofs.Ytkdadnlleepkfaa
open Go.RowKit
set_option linter.unusedVariables false
set_option linter.unusedSimpArgs false
/-- Both logs, of one content; what they have is the call's own. -/
structure Pair (wb w : World) (q : LogAt) (B : Nat) (p : DevAt) (G : Geo) (D : Dev) (L : LogP) (k : Int) (rb : Nat) (pr : DevAt) (R : RLog) : Prop where
  lw : Lw wb w q B p G D L k
  ref : RefAt w rb pr G D R
  rel : RelL L R
  apart : ∀ x ∈ rb :: pr.foot, x ∉ p.foot ++ q.foot
  new : ∀ x ∈ rb :: pr.foot, wb.heap.size ≤ x
section
variable {wb w w' w1 w2 : World} {q q' : LogAt} {B B' : Nat} {p : DevAt} {G : Geo} {D D' : Dev} {L L' : LogP} {k k' : Int} {rb rb' : Nat} {pr : DevAt} {R R' : RLog}
theorem Pair.mods0 (h : Pair wb w q B p G D L k rb pr R) (M : Mods [] w w') : Pair wb w' q B p G D L k rb pr R :=
  ⟨h.lw.mods0 M, h.ref.mods0 M, h.rel, h.apart, h.new⟩
theorem Pair.more (h : Pair wb w q B p G D L k rb pr R) (hk : k ≤ k') : Pair wb w q B p G D L k' rb pr R := ⟨h.lw.more hk, h.ref, h.rel, h.apart, h.new⟩
theorem RefAt.lt (h : RefAt w rb pr G D R) : ∀ x ∈ rb :: pr.foot, x < w.heap.size := fun x hx => by
  simp only [List.mem_cons] at hx
  rcases hx with rfl | hx
  · exact lt_of_block h.blk
  · exact h.dev.lt _ hx
/-- The reference's log behind a step of the program's. -/
theorem Pair.ref1 (h : Pair wb w q B p G D L k rb pr R) (M : Mods (p.foot ++ q.foot) w w') : RefAt w' rb pr G D R := h.ref.mods M h.apart
theorem Pair.both (h : Pair wb w q B p G D L k rb pr R) (hl : Lw wb w1 q' B' p G D' L' k') (m1 : Mods (p.foot ++ q.foot) w w1) (hq : ∀ x ∈ q'.foot, x ∈ q.foot ∨ w.heap.size ≤ x)
    (hr : RefAt w2 rb pr G D' R') (hrel : RelL L' R') (m2 : Mods (rb :: pr.foot) w1 w2) : Pair wb w2 q' B' p G D' L' k' rb pr R' := by
  have ha : ∀ x ∈ rb :: pr.foot, x ∉ p.foot ++ q'.foot := fun x hx hm => by
    rcases List.mem_append.1 hm with hm | hm
    · exact h.apart x hx (List.mem_append.2 (.inl hm))
    · rcases hq x hm with h2 | h2
      · exact h.apart x hx (List.mem_append.2 (.inr h2))
      · have := h.ref.lt x hx
        omega
  exact ⟨hl.modsS m2 (fun x hx hm => ha x hm hx) h.new, hr, hrel, ha, h.new⟩
theorem foot_grows {q : LogAt} {v' : Value} {n : Nat} (hv : ∀ y, v'.ownBlock = some y → q.v.ownBlock = some y ∨ n ≤ y) : ∀ x ∈ (⟨q.b, v'⟩ : LogAt).foot, x ∈ q.foot ∨ n ≤ x := fun x hx => by
  simp only [LogAt.foot, List.mem_cons, Option.mem_toList] at hx ⊢
  rcases hx with rfl | hx
  · exact .inl (.inl rfl)
  · rcases hv x hx with h | h
    · exact .inl (.inr h)
    · exact .inr h
/-- Both hold the same events. -/
theorem Pair.evs (h : Pair wb w q B p G D L k rb pr R) : L.s.recs.map (·.2) = rRecs D G R := by
  unfold rRecs
  cases he : L.ended with
  | true =>
    rw [h.rel.e.trans he, h.lw.sync.e he]
    rfl
  | false =>
    rw [h.rel.e.trans he, h.lw.sync.s he]
    rfl
theorem Pair.bounds (h : Pair wb w q B p G D L k rb pr R) : (rRecs D G R).length ≤ 1000 := by
  rw [← h.evs, List.length_map]
  exact h.lw.recs
theorem Pair.get1 (h : Pair wb w q B p G D L k rb pr R) (t : Nat) :
    Calls Try.prog 30 #[.pointer (some ⟨q.b, 0, none⟩), .int .u16 (t : Nat)] w fun e w' => e = .returned (.tuple #[.agg (getE (rRecs D G R) t).1.cells.toArray, .int .u16 ((getE (rRecs D G R) t).2.1 : Nat), .int .i64 (getE (rRecs D G R) t).2.2]) ∧ Mods [] w w' := by
  rw [← h.evs, ← getR_E]
  exact h.lw.get t
theorem Pair.len1 (h : Pair wb w q B p G D L k rb pr R) : Calls Try.prog 25 #[.pointer (some ⟨q.b, 0, none⟩)] w fun e w' => e = .returned (.int .i64 ((rRecs D G R).length : Nat)) ∧ w = w' := by
  rw [← h.evs, List.length_map]
  exact h.lw.len
theorem Pair.recs1 (h : Pair wb w q B p G D L k rb pr R) : Calls Try.prog 28 #[.pointer (some ⟨q.b, 0, none⟩)] w fun e w' => RecsPost w (rRecs D G R) e w' := by
  rw [← h.evs]
  exact h.lw.records
theorem Pair.full1 (h : Pair wb w q B p G D L k rb pr R) : Calls Try.prog 24 #[.pointer (some ⟨q.b, 0, none⟩)] w fun e w' => e = .returned (.bool R.refused) ∧ w = w' := by
  rw [h.rel.full]
  exact h.lw.full
/-- Both logs opened. -/
theorem RelL.new (over : Bool) (S : LogS) : RelL (mkL over S) (newR over) := ⟨rfl, rfl, fun _ => rfl, fun _ => rfl, fun _ => rfl⟩
theorem RelL.res (h : RelL L R) (hn : L.num ≤ 65535) : RelL (resS L) (rRes R) ∧ (if R.ended then 0 else rLast R.last) = resV L := by
  cases he : L.ended with
  | true =>
    have e1 : R.ended = true := h.e.trans he
    have e2 : resS L = L := by unfold resS; rw [he]; rfl
    have e3 : rRes R = R := by unfold rRes; rw [e1]; rfl
    have e4 : resV L = 0 := by unfold resV; rw [he]; rfl
    rw [e2, e3, e4, e1]
    exact ⟨h, rfl⟩
  | false =>
    have e1 : R.ended = false := h.e.trans he
    have h1 := h.num he
    have h2 : rLast R.last = resN L := by
      rw [h1]
      unfold rLast resN
      by_cases h3 : L.num = 65535
      · rw [h3]; rfl
      · rw [if_neg h3, Nat.mod_eq_of_lt (by omega)]
    have e2 : resS L = resL L := by unfold resS; rw [he]; rfl
    have e3 : rRes R = { R with last := rLast R.last, held := true } := by unfold rRes; rw [e1]; rfl
    have e4 : resV L = resN L := by unfold resV; rw [he]; rfl
    rw [e2, e3, e4, e1]
    exact ⟨⟨show false = L.ended from he.symm, h.full, fun _ => h.over he, fun _ => rfl, fun _ => h2⟩, h2⟩
end
set_option maxHeartbeats 2000000 in
theorem rReserve_end (w : World) (rb : Nat) (p : DevAt) (G : Geo) (D : Dev) (R : RLog) (h : RefAt w rb p G D R) (he : R.ended = true) :
    Calls Try.prog 42 #[.pointer (some ⟨rb, 0, none⟩)] w fun e w' => e = .returned (.int .u16 0) ∧ w = w' := by
  have c7 := h.c7
  rw [he] at c7
  clear he h
  go_enter Try.func42, Try.ntmps42
  go_wp2_with fail
  go_ret
  exact ⟨rfl, rfl⟩
section
variable {wb w w' w1 w2 : World} {q q' : LogAt} {B B' : Nat} {p : DevAt} {G : Geo} {D D' : Dev} {L L' : LogP} {k k' : Int} {rb rb' : Nat} {pr : DevAt} {R R' : RLog}
/-- The reference's Reserve behind the program's. -/
theorem rRes_ok (h : RefAt w rb pr G D R) (hr : RelL L R) (hn : L.num ≤ 65535) :
    Calls Try.prog 42 #[.pointer (some ⟨rb, 0, none⟩)] w fun e w' => e = .returned (.int .u16 (resV L : Nat)) ∧ RefAt w' rb pr G D (rRes R) ∧ Mods [rb] w w' := by
  have h2 := (hr.res hn).2
  cases he : R.ended with
  | true =>
    rw [he] at h2
    refine (rReserve_end w rb pr G D R h he).mono ?_
    rintro e w' ⟨rfl, rfl⟩
    exact ⟨by rw [← h2]; rfl, by unfold rRes; rw [he]; exact h, Mods.refl⟩
  | false =>
    have hl : R.last ≤ 65535 := by rw [hr.num (hr.e.symm.trans he)]; exact hn
    refine (rReserve_ok w rb pr G D R h hl).mono ?_
    rw [h2]
    exact fun e w' h => h
theorem Pair.modsS {S : List Nat} (h : Pair wb w q B p G D L k rb pr R) (M : Mods S w w') (hS : ∀ x ∈ p.foot ++ q.foot, x ∉ S) (hT : ∀ x ∈ rb :: pr.foot, x ∉ S) (hb : ∀ x ∈ S, wb.heap.size ≤ x) : Pair wb w' q B p G D L k rb pr R :=
  ⟨h.lw.modsS M hS hb, h.ref.mods M hT, h.rel, h.apart, h.new⟩
/-- Dice behind a call on the logs. -/
theorem IsDice.keep {S : List Nat} {b n : Nat} {v : Value} {Ls : List Int} (h : IsDice w b v Ls n) (M : Mods S w w') (hb : b ∉ S) (hS : ∀ x ∈ S, wb.heap.size ≤ x) (hv : Ls ≠ [] → ∀ y, v.ownBlock = some y → y < wb.heap.size) : IsDice w' b v Ls n :=
  h.mods M hb (fun hx y hy hm => by have h1 := hS y hm; have h2 := hv hx y hy; omega)
/-- What Add on both leaves. -/
theorem Pair.added (h : Pair wb w q B p G D L k rb pr R) {v' : Value} (x : Evt) (hl : Lw wb w1 ⟨q.b, v'⟩ B p G (addL G D L x).2.1 (addL G D L x).2.2 k') (m1 : Mods (p.foot ++ q.foot) w w1) (hy : ∀ y, v'.ownBlock = some y → q.v.ownBlock = some y ∨ w.heap.size ≤ y)
    (hr : RefAt w2 rb pr G (addL G D L x).2.1 R') (hrel : RelL (addL G D L x).2.2 R') (m2 : Mods (rb :: pr.foot) w1 w2) : Pair wb w2 ⟨q.b, v'⟩ B p G (addL G D L x).2.1 (addL G D L x).2.2 k' rb pr R' :=
  h.both hl m1 (foot_grows hy) hr hrel m2
theorem footNext {qb : Nat} {v v' : Value} {y : Nat} (h : y ∉ p.foot ++ LogAt.foot ⟨qb, v⟩) (hy : y < w.heap.size) (hv : ∀ y, v'.ownBlock = some y → v.ownBlock = some y ∨ w.heap.size ≤ y) : y ∉ p.foot ++ LogAt.foot ⟨qb, v'⟩ := fun hm => by
  rcases List.mem_append.1 hm with h1 | h1
  · exact h (List.mem_append.2 (.inl h1))
  · rcases foot_grows (q := ⟨qb, v⟩) hv y h1 with h2 | h2
    · exact h (List.mem_append.2 (.inr h2))
    · omega
/-- A log opened anew, its blocks new. -/
theorem Lw.open2 (h : IsDev w p D) (F : Fits G D) (hd : D.down = false) (hf : Few D k) (M : Mods [] wb w) (hn : ∀ x ∈ p.foot, wb.heap.size ≤ x) (over : Bool) :
    Calls Try.prog 13 #[.pointer (some ⟨p.b, 0, none⟩), .int .i64 (G.first : Nat), .int .i64 (G.n : Nat), .bool over] w fun e w' => ∃ q : LogAt, e = .returned (.tuple #[.pointer (some ⟨q.b, 0, none⟩), .int .i64 0]) ∧ Lw wb w' q (w.heap.size + 1) p G D (mkL over (openS (byt D) G)) k ∧ Mods [] w w' ∧ ∀ x ∈ q.foot, w.heap.size ≤ x := by
  refine (open_ok w p D h G F hd F.ok.wl F.ok.s1 over).mono ?_
  rintro e w' ⟨q, rfl, hl, hq, hm⟩
  have hqf : ∀ x ∈ q.foot, w.heap.size ≤ x := fun x hx => by
    simp only [LogAt.foot, List.mem_cons, Option.mem_toList] at hx
    rcases hx with rfl | hx
    · exact hq
    · have := (hl.own.lt _ hx).1; omega
  refine ⟨q, rfl, ⟨h.mods0 hm, .inl ⟨rfl, hl⟩, ?_, ?_, ⟨F, fun _ => hd, fun _ => rfl, fun hx => (by cases hx)⟩, hf, M.trans hm, ?_, Nat.zero_le 65535⟩, hm, hqf⟩
  · have := lt_of_block hl.blk
    have := hl.lt
    omega
  · intro x hx hm
    have h1 := hqf x hm
    have h2 := h.lt _ hx
    omega
  · intro x hx
    rcases List.mem_append.1 hx with hx | hx
    · exact hn _ hx
    · exact Nat.le_trans M.size (hqf x hx)
/-- Both opened. -/
theorem Pair.open (hl : Lw wb w1 q B p G D L k) (hq : ∀ x ∈ q.foot, w.heap.size ≤ x) (he : ∀ x ∈ pr.foot, x < w.heap.size) (ha : ∀ x ∈ pr.foot, x ∉ p.foot) (hn : ∀ x ∈ pr.foot, wb.heap.size ≤ x)
    (hr : RefAt w2 rb pr G D R) (hrel : RelL L R) (hrb : w1.heap.size ≤ rb) (m2 : Mods [] w1 w2) : Pair wb w2 q B p G D L k rb pr R :=
  ⟨hl.mods0 m2, hr, hrel, fun x hx hm => by
    have h1 := hl.lt x hm
    simp only [List.mem_cons] at hx
    rcases hx with rfl | hx
    · omega
    · rcases List.mem_append.1 hm with h2 | h2
      · exact ha x hx h2
      · have h3 := hq x h2
        have h4 := he x hx
        omega, fun x hx => by
    simp only [List.mem_cons] at hx
    rcases hx with rfl | hx
    · have := hl.mods.size; omega
    · exact hn x hx⟩
end
end Go.Proofs.Ytkdadnlleepkfaa

namespace Go.Proofs.Ytkdadnlleepkfaa
open Go.RowKit
set_option linter.unusedVariables false
set_option linter.unusedSimpArgs false
set_option maxRecDepth 100000
theorem RefAt.froz {w : World} {rb : Nat} {p : DevAt} {G : Geo} {D : Dev} {R : RLog} (h : RefAt w rb p G D R) : rb < w.heap.size := lt_of_block h.blk
set_option maxHeartbeats 8000000 in
theorem sameLog_ok {wb w : World} {q : LogAt} {B : Nat} {p : DevAt} {G : Geo} {D : Dev} {L : LogP} {k : Int} {rb : Nat} {pr : DevAt} {R : RLog} (h : Pair wb w q B p G D L k rb pr R) (t : Nat) :
    Calls Try.prog 36 #[.pointer (some ⟨q.b, 0, none⟩), .pointer (some ⟨rb, 0, none⟩), .int .u16 (t : Nat)] w fun e w' => e = .returned (.bool true) ∧ Mods [] w w' := by
  have HG1 := Lib.hid (fun W (M : Mods [] w W) => (h.mods0 M).get1 t)
  have HG2 := Lib.hid (fun W (M : Mods [] w W) => rGet_ok W rb pr G D R (h.ref.mods0 M) t)
  have HRR := Lib.hid (fun W (M : Mods [] w W) => rRecords_ok W rb pr G D R (h.ref.mods0 M))
  have HLN := Lib.hid (fun W (M : Mods [] w W) => (h.mods0 M).len1)
  have HR1 := Lib.hid (fun W (M : Mods [] w W) => (h.mods0 M).recs1)
  have HF1 := Lib.hid (fun W (M : Mods [] w W) => (h.mods0 M).full1)
  have HC4 := Lib.hid (fun W (M : Mods [] w W) => (h.ref.mods0 M).c4)
  have HBD := Lib.hid h.bounds
  generalize hrf : R.refused = rf at HF1 HC4
  generalize rRecs D G R = l at HG1 HG2 HRR HLN HR1 HBD
  obtain ⟨x, hx⟩ : ∃ x, x = (getE l t).1 := ⟨_, rfl⟩
  obtain ⟨nx, hnx⟩ : ∃ nx, nx = (getE l t).2.1 := ⟨_, rfl⟩
  obtain ⟨er, her⟩ : ∃ er, er = (getE l t).2.2 := ⟨_, rfl⟩
  rw [← hx, ← hnx, ← her] at HG1 HG2
  clear hx hnx her hrf h
  have HXX := Lib.hid (fun W => (ev_eq x x W).trans (show _ = Result.ok (Value.bool true) W from by simp))
  have M0 := Lib.hid (Mods.refl (S := []) (w := w))
  go_enter Try.func36, Try.ntmps36
  go_wp2_with fail
  refine (HG1.out _ M0.out).mono ?_
  rintro e w1 ⟨rfl, M1⟩
  have HM1 := Lib.hid M1
  clear M1 M0 HG1
  go_upto_region 2 with (refine wpList_store_row (cs := x.cells.toArray) rfl 37 (.tmp 7) (.tmp 18) rfl (heap_alloc_new w1 _) (by rfl) (by rfl) (by rfl) Try.sizeEv (Evt.one x) ?_; intro w2 R2 M2; have HF2 := Lib.hid (freshA M2); have HR2 := Lib.hid R2; clear R2 M2)
  have HM2 := Lib.hid (HM1.out.trans HF2.out)
  clear HM1 HF2
  generalize w1.heap.size = g7 at HR2 ⊢
  go_wp2_with fail
  refine (HG2.out _ HM2.out).mono ?_
  rintro e w3 ⟨rfl, M3⟩
  have HM3 := Lib.hid (HM2.out.trans M3)
  have HR3 := Lib.hid (M3.heap HR2.out (by simp))
  clear M3 HG2 HM2 HR2
  go_upto_region 3 with (refine wpList_store_row (cs := x.cells.toArray) rfl 37 (.tmp 10) (.tmp 25) rfl (heap_alloc_new w3 _) (by rfl) (by rfl) (by rfl) Try.sizeEv (Evt.one x) ?_; intro w4 R4 M4; have HF4 := Lib.hid (freshA M4); have HR4 := Lib.hid R4; clear R4 M4)
  have HM4 := Lib.hid (HM3.out.trans HF4.out)
  have HS4 := Lib.hid (HF4.out.heap HR3.out (by simp))
  clear HM3 HF4 HR3
  generalize w3.heap.size = g10 at HR4 ⊢
  go_wp2_with fail
  refine (HRR.out _ HM4.out).mono ?_
  rintro e w5 ⟨vr, rfl, O5, M5⟩
  obtain ⟨ad, cap, hvr⟩ := (O5.rd evOk).len
  have HRL := Lib.hid (O5.rd evOk)
  have HM5 := Lib.hid (HM4.out.trans M5)
  have HR5 := Lib.hid (M5.heap HR4.out (by simp))
  have HS5 := Lib.hid (M5.heap HS4.out (by simp))
  rw [hvr] at HRL ⊢
  clear O5 M5 HRR HM4 HR4 HS4 hvr
  go_upto_region 4 with (fail)
  refine heldStart (S := fun W => Mods [] w5 W) 36 rfl (by kernel_rfl) Mods.refl.drew (fun hHeld => ?_)
  refine takeD (i := 0) (d := 30) (v := .agg x.cells.toArray) rfl rfl (by kernel_rfl) (by kernel_rfl) (by kernel_rfl) (fun _ _ _ h => h) (yieldsIf_load_mid (by rfl) 37 (.tmp 7) rfl g7 0 rfl x.cells _ (fun W h k u hu => by
    rw [cell_blk (h.heap HS5.out (by simp)), Nat.zero_add]
    simpa using hu) Try.underlying37 rfl Try.sizeEv) hHeld ?_
  simp only [List.setIfInBounds_toArray, List.set_cons_zero, List.set_cons_succ]
  refine takeD (i := 1) (d := 31) (v := .agg x.cells.toArray) rfl rfl (by kernel_rfl) (by kernel_rfl) (by kernel_rfl) (fun _ _ _ h => h) (yieldsIf_load_mid (by rfl) 37 (.tmp 10) rfl g10 0 rfl x.cells _ (fun W h k u hu => by
    rw [cell_blk (h.heap HR5.out (by simp)), Nat.zero_add]
    simpa using hu) Try.underlying37 rfl Try.sizeEv) hHeld ?_
  simp only [List.setIfInBounds_toArray, List.set_cons_zero, List.set_cons_succ]
  refine takeD (i := 2) (d := 32) (v := .bool true) rfl rfl (by kernel_rfl) (by kernel_rfl) (by kernel_rfl) (fun _ _ _ h => h) (Or.inl ⟨by rfl, fun W hW => ?_⟩) hHeld ?_
  · have hxy := HXX.out
    (try dsimp only at hW)
    go_simp
    try simp only [hxy, Result.andThen_ok]
  simp only [List.setIfInBounds_toArray, List.set_cons_zero, List.set_cons_succ]
  refine takeD (i := 3) (d := 33) (v := ?_) rfl rfl (by kernel_rfl) (by kernel_rfl) (by kernel_rfl) (fun _ _ _ h => h) (Or.inl ⟨by rfl, ?_⟩) hHeld ?_
  rotate_left 1
  · (intro w hSw; (try dsimp only at hSw); go_simp; (try with_reducible rfl))
  simp only [List.setIfInBounds_toArray, List.set_cons_zero, List.set_cons_succ]
  refine takeD (i := 4) (d := 34) (v := ?_) rfl rfl (by kernel_rfl) (by kernel_rfl) (by kernel_rfl) (fun _ _ _ h => h) (Or.inl ⟨by rfl, ?_⟩) hHeld ?_
  rotate_left 1
  · (intro w hSw; (try dsimp only at hSw); go_simp; (try with_reducible rfl))
  simp only [List.setIfInBounds_toArray, List.set_cons_zero, List.set_cons_succ]
  refine takeD (i := 5) (d := 35) (v := ?_) rfl rfl (by kernel_rfl) (by kernel_rfl) (by kernel_rfl) (fun _ _ _ h => h) (Or.inl ⟨by rfl, ?_⟩) hHeld ?_
  rotate_left 1
  · (intro w hSw; (try dsimp only at hSw); go_simp; (try with_reducible rfl))
  simp only [List.setIfInBounds_toArray, List.set_cons_zero, List.set_cons_succ]
  refine takeD (i := 6) (d := 36) (v := .bool true) rfl rfl (by kernel_rfl) (by kernel_rfl) (by kernel_rfl) (fun _ _ _ h => h) (Or.inl ⟨by rfl, fun W hW => ?_⟩) hHeld ?_
  · (try dsimp only at hW)
    go_simp
    all_goals (try simp)
  simp only [List.setIfInBounds_toArray, List.set_cons_zero, List.set_cons_succ]
  refine takeD (i := 7) (d := 37) (v := ?_) rfl rfl (by kernel_rfl) (by kernel_rfl) (by kernel_rfl) (fun _ _ _ h => h) (Or.inl ⟨by rfl, ?_⟩) hHeld ?_
  rotate_left 1
  · (intro w hSw; (try dsimp only at hSw); go_simp; (try with_reducible rfl))
  simp only [List.setIfInBounds_toArray, List.set_cons_zero, List.set_cons_succ]
  refine takeD (i := 8) (d := 38) (v := ?_) rfl rfl (by kernel_rfl) (by kernel_rfl) (by kernel_rfl) (fun _ _ _ h => h) (Or.inl ⟨by rfl, ?_⟩) hHeld ?_
  rotate_left 1
  · (intro w hSw; (try dsimp only at hSw); go_simp; (try with_reducible rfl))
  simp only [List.setIfInBounds_toArray, List.set_cons_zero, List.set_cons_succ]
  refine takeD (i := 9) (d := 39) (v := ?_) rfl rfl (by kernel_rfl) (by kernel_rfl) (by kernel_rfl) (fun _ _ _ h => h) (Or.inl ⟨by rfl, ?_⟩) hHeld ?_
  rotate_left 1
  · (intro w hSw; (try dsimp only at hSw); go_simp; (try with_reducible rfl))
  simp only [List.setIfInBounds_toArray, List.set_cons_zero, List.set_cons_succ]
  refine takeD (i := 10) (d := 40) (v := ?_) rfl rfl (by kernel_rfl) (by kernel_rfl) (by kernel_rfl) (fun _ _ _ h => h) (Or.inl ⟨by rfl, ?_⟩) hHeld ?_
  rotate_left 1
  · (intro w hSw; (try dsimp only at hSw); go_simp; (try with_reducible rfl))
  simp only [List.setIfInBounds_toArray, List.set_cons_zero, List.set_cons_succ]
  refine takeD (i := 11) (d := 41) (v := .bool true) rfl rfl (by kernel_rfl) (by kernel_rfl) (by kernel_rfl) (fun _ _ _ h => h) (Or.inl ⟨by rfl, fun W hW => ?_⟩) hHeld ?_
  · (try dsimp only at hW)
    go_simp
    all_goals (try simp)
  simp only [List.setIfInBounds_toArray, List.set_cons_zero, List.set_cons_succ]
  refine takeD (i := 12) (d := 42) (v := ?_) rfl rfl (by kernel_rfl) (by kernel_rfl) (by kernel_rfl) (fun _ _ _ h => h) (Or.inl ⟨by rfl, ?_⟩) hHeld ?_
  rotate_left 1
  · (intro w hSw; (try dsimp only at hSw); go_simp; (try with_reducible rfl))
  simp only [List.setIfInBounds_toArray, List.set_cons_zero, List.set_cons_succ]
  refine takeD (i := 13) (d := 43) (v := ?_) rfl rfl (by kernel_rfl) (by kernel_rfl) (by kernel_rfl) (fun _ _ _ h => h) (Or.inl ⟨by rfl, ?_⟩) hHeld ?_
  rotate_left 1
  · (intro w hSw; (try dsimp only at hSw); go_simp; (try with_reducible rfl))
  simp only [List.setIfInBounds_toArray, List.set_cons_zero, List.set_cons_succ]
  refine takeD (i := 14) (d := 44) (v := ?_) rfl rfl (by kernel_rfl) (by kernel_rfl) (by kernel_rfl) (fun _ _ _ h => h) (Or.inl ⟨by rfl, ?_⟩) hHeld ?_
  rotate_left 1
  · (intro w hSw; (try dsimp only at hSw); go_simp; (try with_reducible rfl))
  simp only [List.setIfInBounds_toArray, List.set_cons_zero, List.set_cons_succ]
  refine takeD (i := 16) (d := 46) (v := ?_) rfl rfl (by kernel_rfl) (by kernel_rfl) (by kernel_rfl) (fun _ _ _ h => h) (Or.inl ⟨by rfl, ?_⟩) hHeld ?_
  rotate_left 1
  · (intro w hSw; (try dsimp only at hSw); go_simp; (try with_reducible rfl))
  simp only [List.setIfInBounds_toArray, List.set_cons_zero, List.set_cons_succ]
  refine takeD (i := 17) (d := 47) (v := ?_) rfl rfl (by kernel_rfl) (by kernel_rfl) (by kernel_rfl) (fun _ _ _ h => h) (Or.inl ⟨by rfl, ?_⟩) hHeld ?_
  rotate_left 1
  · (intro w hSw; (try dsimp only at hSw); go_simp; (try with_reducible rfl))
  simp only [List.setIfInBounds_toArray, List.set_cons_zero, List.set_cons_succ]
  refine wpAnyH_ready (rs := [15]) (by kernel_rfl) (by simp) ?_
  refine AllReadyH.cons rfl (fun K hK => ?_) AllReadyH.nil
  go_simp
  go_wp2_with (go_at_call 25; refine (HLN.out _ (HM5.out.trans hHeld)).mono ?_; rintro e w' ⟨rfl, rfl⟩)
  refine hK.out _ _ ?_ (fun hHeld => ?_)
  · exact hHeld
  clear hK K
  refine takeD (i := 18) (d := 48) (v := .bool true) rfl rfl (by kernel_rfl) (by kernel_rfl) (by kernel_rfl) (fun _ _ _ h => h) (Or.inl ⟨by rfl, fun W hW => ?_⟩) hHeld ?_
  · (try dsimp only at hW)
    go_simp
    all_goals (try simp)
  simp only [List.setIfInBounds_toArray, List.set_cons_zero, List.set_cons_succ]
  refine takeD (i := 19) (d := 49) (v := ?_) rfl rfl (by kernel_rfl) (by kernel_rfl) (by kernel_rfl) (fun _ _ _ h => h) (Or.inl ⟨by rfl, ?_⟩) hHeld ?_
  rotate_left 1
  · (intro w hSw; (try dsimp only at hSw); go_simp; (try with_reducible rfl))
  simp only [List.setIfInBounds_toArray, List.set_cons_zero, List.set_cons_succ]
  refine takeD (i := 20) (d := 50) (v := ?_) rfl rfl (by kernel_rfl) (by kernel_rfl) (by kernel_rfl) (fun _ _ _ h => h) (Or.inl ⟨by rfl, ?_⟩) hHeld ?_
  rotate_left 1
  · (intro w hSw; (try dsimp only at hSw); go_simp; (try with_reducible rfl))
  simp only [List.setIfInBounds_toArray, List.set_cons_zero, List.set_cons_succ]
  refine takeD (i := 21) (d := 51) (v := ?_) rfl rfl (by kernel_rfl) (by kernel_rfl) (by kernel_rfl) (fun _ _ _ h => h) (Or.inl ⟨by rfl, ?_⟩) hHeld ?_
  rotate_left 1
  · (intro w hSw; (try dsimp only at hSw); go_simp; (try with_reducible rfl))
  simp only [List.setIfInBounds_toArray, List.set_cons_zero, List.set_cons_succ]
  refine takeD (i := 23) (d := 53) (v := ?_) rfl rfl (by kernel_rfl) (by kernel_rfl) (by kernel_rfl) (fun _ _ _ h => h) (Or.inl ⟨by rfl, ?_⟩) hHeld ?_
  rotate_left 1
  · (intro w hSw; (try dsimp only at hSw); go_simp; (try with_reducible rfl))
  simp only [List.setIfInBounds_toArray, List.set_cons_zero, List.set_cons_succ]
  refine wpAnyH_ready (rs := [22]) (by kernel_rfl) (by simp) ?_
  refine AllReadyH.cons rfl (fun K hK => ?_) AllReadyH.nil
  go_simp
  go_wp2_with (go_at_call 28; refine (HR1.out _ (HM5.out.trans hHeld)).mono ?_; rintro e w6 ⟨v6, rfl, O6, M6⟩; have HQ6 := Lib.hid (O6.rd evOk))
  refine hK.out _ _ ?_ (fun hHeld => ?_)
  · exact hHeld.trans M6
  clear hK K
  refine wpAnyH_ready (rs := [24]) (by kernel_rfl) (by simp) ?_
  refine AllReadyH.cons rfl (fun K hK => ?_) AllReadyH.nil
  go_simp
  go_wp2_with (go_at_call 23; refine (sameL_ok _ v6 _ l l HQ6.out (HRL.out.mods0 evOk hHeld)).mono ?_; rintro e w7 ⟨he7, M7⟩; rw [decide_eq_true (rfl : l = l)] at he7; subst he7)
  refine hK.out _ _ ?_ (fun hHeld => ?_)
  · exact hHeld.trans M7
  clear hK K
  refine takeD (i := 25) (d := 55) (v := ?_) rfl rfl (by kernel_rfl) (by kernel_rfl) (by kernel_rfl) (fun _ _ _ h => h) (Or.inl ⟨by rfl, ?_⟩) hHeld ?_
  rotate_left 1
  · (intro w hSw; (try dsimp only at hSw); go_simp; (try with_reducible rfl))
  simp only [List.setIfInBounds_toArray, List.set_cons_zero, List.set_cons_succ]
  refine takeD (i := 26) (d := 56) (v := ?_) rfl rfl (by kernel_rfl) (by kernel_rfl) (by kernel_rfl) (fun _ _ _ h => h) (Or.inl ⟨by rfl, ?_⟩) hHeld ?_
  rotate_left 1
  · (intro w hSw; (try dsimp only at hSw); go_simp; (try with_reducible rfl))
  simp only [List.setIfInBounds_toArray, List.set_cons_zero, List.set_cons_succ]
  refine takeD (i := 27) (d := 57) (v := ?_) rfl rfl (by kernel_rfl) (by kernel_rfl) (by kernel_rfl) (fun _ _ _ h => h) (Or.inl ⟨by rfl, ?_⟩) hHeld ?_
  rotate_left 1
  · (intro w hSw; (try dsimp only at hSw); go_simp; (try with_reducible rfl))
  simp only [List.setIfInBounds_toArray, List.set_cons_zero, List.set_cons_succ]
  refine takeD (i := 29) (d := 59) (v := ?_) rfl rfl (by kernel_rfl) (by kernel_rfl) (by kernel_rfl) (fun _ _ _ h => h) (Or.inl ⟨by rfl, ?_⟩) hHeld ?_
  rotate_left 1
  · (intro w hSw; (try dsimp only at hSw); go_simp; (try with_reducible rfl))
  simp only [List.setIfInBounds_toArray, List.set_cons_zero, List.set_cons_succ]
  refine takeD (i := 30) (d := 60) (v := ?_) rfl rfl (by kernel_rfl) (by kernel_rfl) (by kernel_rfl) (fun _ _ _ h => h) (Or.inl ⟨by rfl, ?_⟩) hHeld ?_
  rotate_left 1
  · (intro w hSw; (try dsimp only at hSw); go_simp; (try with_reducible rfl))
  simp only [List.setIfInBounds_toArray, List.set_cons_zero, List.set_cons_succ]
  refine takeD (i := 31) (d := 61) (v := ?_) rfl rfl (by kernel_rfl) (by kernel_rfl) (by kernel_rfl) (fun _ _ _ h => h) (Or.inl ⟨by rfl, ?_⟩) hHeld ?_
  rotate_left 1
  · (intro w hSw; (try dsimp only at hSw); go_simp; (try with_reducible rfl))
  simp only [List.setIfInBounds_toArray, List.set_cons_zero, List.set_cons_succ]
  refine takeD (i := 32) (d := 62) (v := .bool rf) rfl rfl (by kernel_rfl) (by kernel_rfl) (by kernel_rfl) (fun _ _ _ h => h) (Or.inl ⟨by rfl, fun W hSw => ?_⟩) hHeld ?_
  · have cst := HC4.out W (HM5.out.trans hSw)
    (try dsimp only at hSw)
    go_simp
  simp only [List.setIfInBounds_toArray, List.set_cons_zero, List.set_cons_succ]
  refine wpAnyH_ready (rs := [28]) (by kernel_rfl) (by simp) ?_
  refine AllReadyH.cons rfl (fun K hK => ?_) AllReadyH.nil
  go_simp
  go_wp2_with (go_at_call 24; refine (HF1.out _ (HM5.out.trans hHeld)).mono ?_; rintro e w' ⟨rfl, rfl⟩)
  refine hK.out _ _ ?_ (fun hHeld => ?_)
  · exact hHeld
  clear hK K
  refine takeD (i := 33) (d := 63) (v := .bool true) rfl rfl (by kernel_rfl) (by kernel_rfl) (by kernel_rfl) (fun _ _ _ h => h) (Or.inl ⟨by rfl, fun W hW => ?_⟩) hHeld ?_
  · (try dsimp only at hW)
    go_simp
    all_goals (try simp)
  simp only [List.setIfInBounds_toArray, List.set_cons_zero, List.set_cons_succ]
  refine takeD (i := 34) (d := 64) (v := ?_) rfl rfl (by kernel_rfl) (by kernel_rfl) (by kernel_rfl) (fun _ _ _ h => h) (Or.inl ⟨by rfl, ?_⟩) hHeld ?_
  rotate_left 1
  · (intro w hSw; (try dsimp only at hSw); go_simp; (try with_reducible rfl))
  simp only [List.setIfInBounds_toArray, List.set_cons_zero, List.set_cons_succ]
  refine takeD (i := 35) (d := 6) (v := ?_) rfl rfl (by kernel_rfl) (by kernel_rfl) (by kernel_rfl) (fun _ _ _ h => h) (Or.inl ⟨by rfl, ?_⟩) hHeld ?_
  rotate_left 1
  · (intro w hSw; (try dsimp only at hSw); go_simp; (try with_reducible rfl))
  simp only [List.setIfInBounds_toArray, List.set_cons_zero, List.set_cons_succ]
  refine wpAnyH_done (by kernel_rfl) ?_ _
  go_wp2_with fail
  go_ret
  exact ⟨rfl, HM5.out.trans hHeld⟩
end Go.Proofs.Ytkdadnlleepkfaa
