/- The comparison of two slices of ints: contract. -/
import Derived.Test.YtjdimdebplggnaaDice
namespace Go.Proofs.Ytjdimdebplggnaa
open Go.RowKit
set_option maxHeartbeats 1000000 in
theorem sameInts_ok (w : World) (va vb : Value) (A B : List Int) (ha : Rd w va (i64s A)) (hb : Rd w vb (i64s B)) :
    Calls Try.prog 49 #[va, vb] w fun e w' => e = .returned (.bool (A == B)) ∧ ∃ n, w' = w.drewN n := by
  obtain ⟨ada, capa, rfl, hca1, hca2, hca⟩ := ha.i64
  obtain ⟨adb, capb, rfl, hcb1, hcb2, hcb⟩ := hb.i64
  unfold maxLen at hca2 hcb2
  clear ha hb
  by_cases hl : A.length = B.length
  · have hl2 : ((A.length : Int) != (B.length : Int)) = false := by simp [hl]
    have HL := Lib.hid hl
    go_enter Try.func49, Try.ntmps49
    go_wp2_with fail
    go_loopw [5] (fun i wr => ∃ k : Nat, k ≤ A.length ∧ i = .int .i64 k ∧ (∃ n, wr = w.drewN n) ∧ Hid (∀ j, j < k → A.getD j 0 = B.getD j 0)) (fun i _ => A.length - (intOf i).toNat)
    case atStart => exact ⟨0, Nat.zero_le _, rfl, ⟨0, rfl⟩, fun j hj => by omega⟩
    case round =>
      obtain ⟨k, hk, rfl, ⟨nd, rfl⟩, hs⟩ := hrel
      by_cases hlt : k < A.length
      · obtain ⟨ba, oa, rfl, h1⟩ := hca k hlt
        obtain ⟨bb, ob, rfl, h2⟩ := hcb k (by rw [← HL.out]; exact hlt)
        have hlt2 : k < B.length := by rw [← HL.out]; exact hlt
        obtain ⟨x, hx⟩ : ∃ x, x = A.getD k 0 := ⟨_, rfl⟩
        obtain ⟨y, hy⟩ : ∃ y, y = B.getD k 0 := ⟨_, rfl⟩
        rw [← hx] at h1
        rw [← hy] at h2
        have HX := Lib.hid hx
        have HY := Lib.hid hy
        clear hca hcb hl hx hy
        have i1 : (0 : Int) ≤ (k : Int) := by omega
        have i2 : (k : Int) < (A.length : Int) := by omega
        have i3 : (k : Int) < (B.length : Int) := by omega
        by_cases hxy : x = y
        · have e1 : (x != y) = false := by simp [hxy]
          have HXY := Lib.hid hxy
          clear hxy
          go_wp2_with fail
          go_quiet (fail)
          go_wp2
          go_roundw
          case rel =>
            refine ⟨k + 1, by omega, by go_num, ⟨nd + nq, rfl⟩, fun j hj => ?_⟩
            rcases Nat.lt_or_ge j k with h | h
            · exact hs.out j h
            · obtain rfl : j = k := by omega
              rw [← HX.out, ← HY.out]; exact HXY.out
          case measure => simp [intOf]; omega
        · have e1 : (x != y) = true := by simp [hxy]
          have hne : A ≠ B := by intro e; apply hxy; rw [HX.out, HY.out, e]
          have HN := Lib.hid hne
          clear hxy hne
          go_wp2_with fail
          go_quiet (fail)
          go_wp2
          go_ret
          exact ⟨ret_bool (by have := HN.out; simp [this]), nd + nq, by first | rfl | rw [World.drewN_drewN]⟩
      · have e : A = B := by
          refine List.ext_getElem HL.out fun j h1 h2 => ?_
          have h3 := hs.out j (by omega)
          rw [List.getD_eq_getElem?_getD, List.getD_eq_getElem?_getD, List.getElem?_eq_getElem h1, List.getElem?_eq_getElem h2] at h3
          exact h3
        have HE := Lib.hid e
        clear e hca hcb hl
        go_wp2
        go_ret
        exact ⟨ret_bool (by have := HE.out; simp [this]), nd, rfl⟩
  · have hl2 : ((A.length : Int) != (B.length : Int)) = true := by simp; omega
    have HN := Lib.hid (show A ≠ B by intro e; exact hl (by rw [e]))
    clear hl hca hcb
    go_enter Try.func49, Try.ntmps49
    go_wp2
    go_ret
    exact ⟨ret_bool (by have := HN.out; simp [this]), 0, rfl⟩

end Go.Proofs.Ytjdimdebplggnaa
