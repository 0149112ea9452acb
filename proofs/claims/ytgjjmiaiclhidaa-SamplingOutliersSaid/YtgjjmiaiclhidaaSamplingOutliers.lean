/- SamplingOutliers: the walk. -/
import Derived.Test.YtgjjmiaiclhidaaSamO
import Derived.Test.YtgjjmiaiclhidaaTkRow
import Derived.Test.YtgjjmiaiclhidaaAwakeM
import Derived.Test.YtgjjmiaiclhidaaBaseG
import Derived.Test.YtgjjmiaiclhidaaSamRR
import Derived.BigGuardPart
namespace Go.Proofs.Ytgjjmiaiclhidaa
open Go.RowKit

set_option maxRecDepth 100000 in
set_option maxHeartbeats 8000000 in
theorem samplingOutliers_walk (w : World) (v : Value) (L : List Int) (hv : Rd w v (i64s L)) (hb : ∀ i, -9223372036854775808 ≤ L.getD i 0 ∧ L.getD i 0 ≤ 9223372036854775807) (n0 : Int) (hn0 : I64 n0) (v2 : Value) (X : List Int) (hX : Rd w v2 (u8s X)) (hXb : Bytes X) :
    Calls Try.prog 18 #[v, .int .i64 n0, v2] w fun e w' => e = .returned (.bool true) ∧ Mods [] w w' := by
  have HXR := Lib.hid hX
  have HXB := Lib.hid hXb
  have HN0 := Lib.hid hn0
  obtain ⟨ad2, cap2, rfl, -, -, -⟩ := hX.u8
  clear hX hXb hn0
  have HL := Lib.hid (light_ok w v L hv)
  have HV := Lib.hid hv
  have HB := Lib.hid hb
  clear hv hb
  by_cases hl : L.length ≤ 600
  · skip
    have HLL := Lib.hid (decide_eq_true hl)
    by_cases ht : X.length ≤ 10
    · have e1 : ¬ (10 : Int) < (X.length : Int) := by omega
      go_enter Try.func18, Try.ntmps18
      go_wp2_with fail
      refine HL.out.mono ?_
      rw [HLL.out]
      rintro e w' ⟨rfl, rfl⟩
      go_wp2_with fail
      refine (roll_ok w v L HV.out (by omega) HB.out).mono ?_
      rintro e w1 ⟨rfl, D1, M1, z1⟩
      go_wp2_with fail
      refine (analogM_ok w1 w.heap.size v L 0 D1 1 (by omega)).mono ?_
      rintro e w2 ⟨S, P, n2, rfl, IS, VS, DS, OP, PL, SN, D2, M2⟩
      have HM2 := Lib.hid (show Mods [] w w2 from M1.comp M2 (fun q hq => by simp at hq; subst hq; exact .inr (Nat.le_refl _)))
      have hone := Lib.hid IS.conv.rd.one
      have HIS := Lib.hid IS
      have HVS := Lib.hid VS
      have HD2 := Lib.hid D2
      have hdl : w.heap.size < w2.heap.size := D2.lt
      have HNP := Lib.hid (show ∀ q, S.conv.pts.ownBlock = some q → q ≠ w.heap.size from fun q hq => by have h1 := (OP.own q hq).1; have := D1.lt; omega)
      clear D1 D2 M1 M2 DS OP PL SN IS VS HL HLL HV HB
      go_wp2_with (refine wpList_store_row (cs := S.cells) rfl 32 (.tmp 8) (.tmp 32) rfl (heap_alloc_new w2 _) (by rfl) (by rfl) (by rfl) (Sen.infoS _) (Sen.one _ hone.out) ?_; go_must (intro w4 R4 M4; have HB4 := Lib.hid (SenBox.mk R4); have HM4 := Lib.hid (HM2.out.trans (fresh M4)); have HIS4 := Lib.hid (HIS.out.mods0 (fresh M4)); have HD4 := Lib.hid (HD2.out.mods0 (fresh M4)); have hz4 := lt_of_block R4; clear M4 R4))
      obtain ⟨k, hk⟩ : ∃ k : Nat, S.samples = (k : Int) := ⟨S.samples.toNat, by have := valid_odd HVS.out; omega⟩
      have hodd : k = 1 ∨ k = 3 ∨ k = 5 := by have := valid_odd HVS.out; omega
      have HK := Lib.hid hk
      have y27 : w4.cell? ⟨w2.heap.size, 27, none⟩ = some (.int .i64 (k : Int)) := (HB4.out.c 27).trans (by rw [← HK.out]; rfl)
      have HDV := Lib.hid HD4.out.vlt
      clear hk HIS HD2 HM2
      go_loopw [9, 10, 11, 12, 13, 14] (fun lo hi l i _ _ wr => ∃ (j : Nat) (a b : Int) (K : List Tk) (n : Nat), j ≤ k ∧ i = .int .i64 j ∧ lo = .int .i64 a ∧ hi = .int .i64 b ∧ (-1000 ≤ a ∧ a ≤ 1000 ∧ -1000 ≤ b ∧ b ≤ 1000) ∧ OwnTk wr w4.heap.size l K ∧ K.length = j ∧ (∀ t ∈ K, t.raw < 256 ∧ t.miss = false) ∧ K.length ≤ inC S.conv.sgn a b (rawsK K) + wildC n0 k j ∧ IsDice wr w.heap.size v L n ∧ Mods [w.heap.size] w4 wr) (fun _ _ _ i _ _ _ => k - (intOf i).toNat)
      case atStart => exact ⟨0, 1000, -1000, [], n2, by omega, rfl, rfl, rfl, by omega, OwnTk.nil _ _, rfl, (fun t ht => by cases ht), by simp, HD4.out, Mods.refl⟩
      case round =>
        obtain ⟨j, a, b, K, n, hj, rfl, rfl, rfl, ⟨a1, a2, b1, b2⟩, O, hK, hKr, hin, D, M⟩ := hrel
        have HO := Lib.hid O
        have HM := Lib.hid M
        have HD := Lib.hid D
        have HKR := Lib.hid hKr
        have HIN := Lib.hid hin
        have HKL := Lib.hid hK
        have i0 : (0 : Int) ≤ (j : Int) := by omega
        obtain ⟨al, cl, rfl⟩ := HO.out.rd.len
        have y27r := M.cell y27 (by simp; omega)
        clear O M D hKr hin hK
        by_cases hlt : j < k
        · have i1 : (j : Int) < (k : Int) := by omega
          go_wp2_with fail
          refine (next_ok wr w.heap.size v L n HD.out 20 (by omega) (by omega)).mono ?_
          rintro e w5 ⟨r, n5, rfl, r0, r1, D5, M5⟩
          obtain ⟨rr, hrr⟩ : ∃ rr : Nat, 60 + r = (rr : Int) := ⟨(60 + r).toNat, by omega⟩
          have rr0 : rr < 80 := by omega
          have rr1 : 60 ≤ rr := by omega
          clear r0 r1
          have HM5 := Lib.hid (HM.out.trans M5)
          have y27s := M5.cell y27r (by simp; omega)
          have HO5 := Lib.hid (HO.out.mods M5 (fun q hq => by simp at hq; omega))
          have HD5 := Lib.hid D5
          clear D5 M5 HO HM HD y27r
          go_wp2_with fail
          have hwb : -9223372036854775808 ≤ wrap64 ((j : Int) + n0) ∧ wrap64 ((j : Int) + n0) ≤ 9223372036854775807 := by unfold wrap64; omega
          have HWC := Lib.hid (wildC_succ n0 k j)
          generalize wrap64 ((j : Int) + n0) = wv at hwb HWC ⊢
          refine (mod_ok wv k _ hwb (by omega) (by omega)).mono ?_
          rintro e w' ⟨rfl, rfl⟩
          obtain ⟨q, hq⟩ : ∃ q : Nat, wv % (k : Int) = (q : Int) := ⟨(wv % (k : Int)).toNat, by have := Int.emod_nonneg wv (show (k : Int) ≠ 0 by omega); omega⟩
          have hqk : q < k := by have := Int.emod_lt_of_pos wv (show (0 : Int) < (k : Int) by omega); omega
          rw [hq] at HWC ⊢
          clear hq hwb
          by_cases c1 : (q : Int) < (k : Int) / 2
          · rw [if_pos c1] at HWC
            by_cases c2 : (q : Int) < (X.length : Int)
            · have q0 : (0 : Int) ≤ (q : Int) := by omega
              obtain ⟨_, _, he, _, _, hxc⟩ := HXR.out.u8
              injection he with he1 _ he3
              subst he3
              obtain ⟨bx, ox, hbx, cx⟩ := hxc q (by omega)
              subst he1 hbx
              have hxb := HXB.out q
              have hbl := World.block_lt_of_cell? w _ cx
              simp only at hbl
              have cx5 := HM5.out.cell (HM4.out.cell cx (by simp)) (by simp; omega)
              obtain ⟨xr, hxr⟩ : ∃ xr : Nat, X.getD q 0 = (xr : Int) := ⟨(X.getD q 0).toNat, by omega⟩
              rw [hxr] at cx5 hxb
              clear hxc cx hxr
              go_wp2_with
              (at_builtin; refine wpList_pushT rfl (.tmp 72) (.tmp 75) rfl w4.heap.size (.slice al K.length cl) K (by rfl) (HO5.out.mods0 (Mods.refl.alloc _)) w5.heap.size ⟨xr, false⟩ _ _ (heap_alloc_new w5 _) (by rfl) (by have := HKL.out; omega) (by simp; exact Nat.le_succ_of_le HM5.out.size) ?_; go_must (intro v' w6 O6 M6; have HO6 := Lib.hid O6; have HM6 := Lib.hid ((HM5.out.alloc _).then_from M6 (Nat.le_refl _)); have HD6 := Lib.hid ((HD5.out.mods0 (Mods.refl.alloc _)).mods M6 (not_from (by omega)) (fun hl q hq => not_from (HDV.out hl q hq))); clear O6 M6))
              refine ⟨⟨j + 1, a, b, K ++ [⟨xr, false⟩], n5, by omega, by go_num, rfl, rfl, by omega, HO6.out, by rw [List.length_append, HKL.out]; rfl, fun t ht => ?_, by rw [HWC.out]; exact so_wild HIN.out, HD6.out, HM6.out⟩, by simp only [intOf]; omega⟩
              rcases List.mem_append.1 ht with h | h
              · exact HKR.out t h
              · simp at h; subst h; exact ⟨by simp only; omega, rfl⟩
            · skip
              go_wp2_with
              (at_builtin; refine wpList_pushT rfl (.tmp 72) (.tmp 75) rfl w4.heap.size (.slice al K.length cl) K (by rfl) (HO5.out.mods0 (Mods.refl.alloc _)) w5.heap.size ⟨rr, false⟩ _ _ (heap_alloc_new w5 _) (by rfl) (by have := HKL.out; omega) (by simp; exact Nat.le_succ_of_le HM5.out.size) ?_; go_must (intro v' w6 O6 M6; have HO6 := Lib.hid O6; have HM6 := Lib.hid ((HM5.out.alloc _).then_from M6 (Nat.le_refl _)); have HD6 := Lib.hid ((HD5.out.mods0 (Mods.refl.alloc _)).mods M6 (not_from (by omega)) (fun hl q hq => not_from (HDV.out hl q hq))); clear O6 M6))
              all_goals
                refine ⟨⟨j + 1, _, _, K ++ [⟨rr, false⟩], n5, by omega, by go_num, rfl, rfl, by omega, HO6.out, by rw [List.length_append, HKL.out]; rfl, fun t ht => ?_, by rw [HWC.out]; exact so_in HIN.out (by omega) (by omega) (by omega) (by omega) (by omega) (by omega), HD6.out, HM6.out⟩, by simp only [intOf]; omega⟩
                rcases List.mem_append.1 ht with h | h
                · exact HKR.out t h
                · simp at h; subst h; exact ⟨by simp only; omega, rfl⟩
          · rw [if_neg c1] at HWC
            go_wp2_with
            (at_builtin; refine wpList_pushT rfl (.tmp 72) (.tmp 75) rfl w4.heap.size (.slice al K.length cl) K (by rfl) (HO5.out.mods0 (Mods.refl.alloc _)) w5.heap.size ⟨rr, false⟩ _ _ (heap_alloc_new w5 _) (by rfl) (by have := HKL.out; omega) (by simp; exact Nat.le_succ_of_le HM5.out.size) ?_; go_must (intro v' w6 O6 M6; have HO6 := Lib.hid O6; have HM6 := Lib.hid ((HM5.out.alloc _).then_from M6 (Nat.le_refl _)); have HD6 := Lib.hid ((HD5.out.mods0 (Mods.refl.alloc _)).mods M6 (not_from (by omega)) (fun hl q hq => not_from (HDV.out hl q hq))); clear O6 M6))
            all_goals
              refine ⟨⟨j + 1, _, _, K ++ [⟨rr, false⟩], n5, by omega, by go_num, rfl, rfl, by omega, HO6.out, by rw [List.length_append, HKL.out]; rfl, fun t ht => ?_, by rw [HWC.out]; exact so_in HIN.out (by omega) (by omega) (by omega) (by omega) (by omega) (by omega), HD6.out, HM6.out⟩, by simp only [intOf]; omega⟩
              rcases List.mem_append.1 ht with h | h
              · exact HKR.out t h
              · simp at h; subst h; exact ⟨by simp only; omega, rfl⟩
        · have hjk : j = k := by omega
          subst hjk
          have hwl := wild_le n0 HN0.out hodd
          have HBT := Lib.hid (fun (m : Int) (h : IsMed S.conv.sgn (rawsK K) m) => med_between (c := wildC n0 j j) (fun x hx => by
            obtain ⟨t, ht, rfl⟩ := List.mem_map.1 hx
            have := (HKR.out t ht).1
            omega) h (by rw [show (rawsK K).length = K.length by simp [rawsK], HKL.out]; exact hwl) (by rw [show (rawsK K).length = K.length by simp [rawsK], HKL.out]; omega) (by rw [show (rawsK K).length = K.length by simp [rawsK]]; exact HIN.out))
          have HRA := Lib.hid (runF_all (K := K) (fun t ht => (HKR.out t ht).2) (k := j) (by omega) (by rw [HKL.out]; exact Nat.le_refl _))
          have HRA2 := Lib.hid (show runF S.samples K = (rawsK K, 0) by rw [HK.out]; exact HRA.out)
          have HFO := Lib.hid (runF_ok (P := P) HVS.out (L := K) (fun t ht => (HKR.out t ht).1) K.length)
          rw [List.take_length, HRA2.out] at HFO
          have HISr := Lib.hid (HIS4.out.mods HM.out (fun _ q hq => by simpa using HNP.out q hq))
          have HSBr := Lib.hid (HB4.out.mods HM.out (by simp; omega))
          have HXr := Lib.hid (HM4.out.comp HM.out (fun q hq => by simp at hq; exact .inr (by omega)))
          have hl5 : (rawsK K).length = j := by simp only [rawsK, List.length_map]; exact HKL.out
          have HL5 := Lib.hid hl5
          have hj5 : j ≤ 5 := by omega
          clear hl5 HIN hwl HD HM4 HIS4 HB4 HXR HXB
          go_wp2_with (refine wpList_load_sen rfl (.tmp 8) rfl HSBr.out (by rfl) ?_)
          refine (run14_ok wr S P _ K HISr.out HVS.out HO.out.rd (fun t ht => (HKR.out t ht).1) (by have := HKL.out; omega)).mono ?_
          intro e w5 h
          unfold RunRes at h
          rw [HRA2.out] at h
          obtain ⟨win, rfl, rd, own, M5⟩ := h
          simp only at rd
          obtain ⟨aw, cw, rfl⟩ := rd.len
          rw [u8s_length] at rd ⊢
          have HRD := Lib.hid rd
          have HM5 := Lib.hid M5
          clear rd own M5
          go_wp2_with (first
            | (refine wpList_store_row (cs := #[.slice aw (rawsK K).length cw, .int .i64 0]) rfl 90 (.tmp 15) (.tmp 81) rfl (heap_alloc_new w5 _) (by rfl) (by rfl) (by rfl) Try.infoFl (by simp [Value.oneCell']) ?_; go_must (intro w6 R6 M6; have HF6 := Lib.hid R6; have HM6 := Lib.hid (HM5.out.trans (fresh M6)); have HRD6 := Lib.hid (HRD.out.mods0 (fresh M6)); have HB6 := Lib.hid (HSBr.out.mods0 HM6.out); have HIS6 := Lib.hid (HISr.out.mods0 HM6.out); clear R6 M6))
            | (refine wpList_load_sen rfl (.tmp 8) rfl HB6.out (by rfl) ?_)
            | (refine wpList_load_row rfl _ (.tmp 15) rfl w5.heap.size (by rfl) _ _ _ _ HF6.out Try.underlying90 rfl Try.infoFl ?_))
          refine (samReading_ok w6 S P _ (rawsK K) 0 HIS6.out ⟨HRD6.out, HFO.out.2, by rw [HL5.out]; omega, by decide, by decide⟩).mono ?_
          rintro e w7 h7
          unfold ReadRes at h7
          rw [rdB_len HFO.out.1, decide_eq_true (by rw [HL5.out, HK.out]), if_pos rfl] at h7
          obtain ⟨m, rfl, hmed, M7⟩ := h7
          have hbm := bytes_mem HFO.out.2 m hmed.mem
          obtain ⟨p1, p2⟩ := HBT.out m hmed
          have NM := Lib.hid (refNumZ_ok S.conv.sgn m hbm)
          have y8 : w7.cell? ⟨w2.heap.size, 8, none⟩ = some (.bool S.conv.sgn) := M7.cell ((HB6.out.c 8).trans rfl) (by simp)
          have HX7 := Lib.hid (HXr.out.trans (HM6.out.trans M7))
          clear M7 hmed hbm
          generalize numZ S.conv.sgn m = x at *
          go_wp2_with fail
          refine (NM.out _).mono ?_
          rintro e w' ⟨rfl, rfl⟩
          have z1 : decide (a ≤ x) = true := decide_eq_true p1
          have z2 : decide (x ≤ b) = true := decide_eq_true p2
          go_wp2_with fail
          refine (awakeM_ok _).mono ?_
          rintro e w10 ⟨rfl, M10⟩
          go_wp2
          go_ret
          exact ⟨rfl, HX7.out.trans M10⟩
    · have e1 : (10 : Int) < (X.length : Int) := by omega
      go_enter Try.func18, Try.ntmps18
      go_wp2_with fail
      refine HL.out.mono ?_
      rw [HLL.out]
      rintro e w' ⟨rfl, rfl⟩
      go_wp2_with fail
      refine (awakeM_ok _).mono ?_
      rintro e w1 ⟨rfl, M1⟩
      go_wp2
      go_ret
      exact ⟨rfl, M1⟩
  · skip
    have HLL := Lib.hid (decide_eq_false hl)
    go_enter Try.func18, Try.ntmps18
    go_wp2_with fail
    refine HL.out.mono ?_
    rw [HLL.out]
    rintro e w' ⟨rfl, rfl⟩
    go_wp2_with fail
    refine (awakeM_ok _).mono ?_
    rintro e w1 ⟨rfl, M1⟩
    go_wp2
    go_ret
    exact ⟨rfl, M1⟩
end Go.Proofs.Ytgjjmiaiclhidaa
