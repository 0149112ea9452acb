/- The reference's Read and New: contracts. -/
import Derived.Test.YtjdimdebplggnaaRefErase
import Derived.Test.YtjdimdebplggnaaClone
namespace Go.Proofs.Ytjdimdebplggnaa
open Go.RowKit
set_option maxHeartbeats 1000000 in
theorem refRead_ok (w : World) (p : DevAt) (D : Dev) (h : IsDev w p D) (ok : D.Ok) (at_ n : Int) :
    Calls Try.prog 34 #[.pointer (some ⟨p.b, 0, none⟩), .int .i64 at_, .int .i64 n] w fun e w' => BytesErr w (D.read at_ n) e w' := by
  have h6 := h.c6
  by_cases hd : D.down = true
  · have E : D.read at_ n = ([], 10) := by rw [Dev.read, if_pos hd]
    rw [E]
    rw [hd] at h6
    clear hd E h
    go_enter Try.func34, Try.ntmps34
    go_wp2_with fail
    go_ret2
    exact ⟨_, rfl, World.ownsRow_nil _ _ _ _, Mods.refl⟩
  · have hd' : D.down = false := by simpa using hd
    rw [hd'] at h6
    by_cases hf : fits D at_ n = true
    · have E : D.read at_ n = ((D.data.drop at_.toNat).take n.toNat, 0) := by rw [Dev.read, if_neg hd, if_pos hf]
      rw [E]
      have hf2 := hf
      simp [fits] at hf2
      obtain ⟨k, rfl⟩ := Int.eq_ofNat_of_zero_le hf2.1
      obtain ⟨m, rfl⟩ := Int.eq_ofNat_of_zero_le hf2.2.1
      have hkm : k + m ≤ D.data.length := by omega
      have hlen := ok.len
      have H := Lib.hid h
      have HF := Lib.hid hf
      have HLR := Lib.hid (show ((D.data.drop k).take m).length = m by simp; omega)
      have HLD := Lib.hid (show (D.data.drop k).length = D.data.length - k by simp)
      simp only [Int.toNat_natCast]
      obtain ⟨i0, hi, hz0, hz1, hz2⟩ := info_parts Try.infoB
      clear hf2 E hd hd' h hf
      go_enter Try.func34, Try.ntmps34
      go_wp2_with fail
      refine (refFits_ok _ p D H.out ok _ _).mono ?_
      rw [HF.out]
      rintro e w' ⟨rfl, rfl⟩
      clear h6
      go_wp2_with fail
      go_loopw [8, 9] (fun d i wr => ∃ j : Nat, j ≤ m ∧ i = .int .i64 j ∧ wr.ownsRow w.heap.size 5 1 d j (u8s ((D.data.drop k).take j)) ∧ Mods [] w wr) (fun _ i _ => m - (intOf i).toNat)
      case atStart => exact ⟨0, by omega, rfl, World.ownsRow_nil _ _ _ _, Mods.refl⟩
      case round =>
        obtain ⟨j, hj, rfl, O, hm⟩ := hrel
        have z := hm.size
        by_cases hlt : j < m
        · have I := H.out.mods0 hm
          have h1 := I.c1
          have hl2 : k + j < D.data.length := by omega
          have hc := I.at hl2
          have hl3 : (k : Int) + (j : Int) < (D.data.length : Int) := by omega
          have hz : (0 : Int) ≤ (k : Int) + (j : Int) := by omega
          have hws : IntKind.i64.wrap ((k : Int) + (j : Int)) = (k : Int) + (j : Int) := IntWalk.i64_in _ (by omega)
          have htn : ((k : Int) + (j : Int)).toNat = k + j := by omega
          have HT := Lib.hid (show (D.data.drop k).take (j + 1) = (D.data.drop k).take j ++ [D.data.getD (k + j) 0] by
            rw [List.take_succ_eq_append_getElem (by rw [HLD.out]; omega)]
            simp [List.getD_eq_getElem?_getD, List.getElem?_eq_getElem hl2])
          generalize D.data.getD (k + j) 0 = y at hc HT
          clear I
          go_wp2_with (at_builtin; refine wpList_push rfl (.tmp 24) (.tmp 34) 26 rfl w.heap.size 5 i0 (.int .u8 0) 1 Try.underlying26 hi hz0 hz1 hz2 rfl _ _ _ rfl O _ _ rfl rfl (by omega) (by omega) (by omega) ?_)
          intro v' w5 hown' M5
          have O5 := Lib.hid (own_u8 hown')
          have hm5 := Lib.hid (hm.then_from M5 (Nat.le_refl _))
          clear O hm hown' M5 h1 hc htn hws
          go_wp2
          go_roundw
          case rel => exact ⟨j + 1, by omega, by go_num, by rw [HT.out]; exact O5.out, hm5.out⟩
          case measure => simp [intOf]; omega
        · obtain rfl : j = m := by omega
          have HO := Lib.hid O
          have HM := Lib.hid hm
          clear O hm
          go_wp2
          go_ret2
          exact ⟨_, rfl, by rw [HLR.out]; exact HO.out, HM.out⟩
    · have E : D.read at_ n = ([], 2) := by rw [Dev.read, if_neg hd, if_neg hf]
      rw [E]
      have hf' := Lib.hid (show fits D at_ n = false by simpa using hf)
      have H := Lib.hid h
      clear hf hd hd' E h
      go_enter Try.func34, Try.ntmps34
      go_wp2_with fail
      refine (refFits_ok _ p D H.out ok _ _).mono ?_
      rw [hf'.out]
      rintro e w' ⟨rfl, rfl⟩
      go_wp2_with fail
      go_ret2
      exact ⟨_, rfl, World.ownsRow_nil _ _ _ _, Mods.refl⟩
theorem refNew_bad_ok (s m : Int) (h : ¬ (1 ≤ s ∧ s ≤ 16 ∧ 64 ≤ m ∧ m ≤ 1024)) (w : World) :
    Calls Try.prog 29 #[.int .i64 s, .int .i64 m] w fun e w' => e = .returned (.tuple #[.pointer none, .int .i64 2]) ∧ w = w' := by
  go_enter Try.func29, Try.ntmps29
  go_wp2_with fail
  all_goals first | (exfalso; omega) | (go_ret2; exact ⟨rfl, rfl⟩)
end Go.Proofs.Ytjdimdebplggnaa
