/- sensor.named and slices.IsSorted: contracts. -/
import Derived.Test.YtijjkonephjodaaRefTable
namespace Go.Proofs.Ytijjkonephjodaa
open Go.RowKit

theorem nameB_bad {s : ByteArray} {k : Nat} (hk : k < s.size) (h : charB s[k] = false) : nameB s = false := by
  cases ht : nameB s with
  | false => rfl
  | true =>
    simp only [nameB, Bool.and_eq_true, List.all_eq_true] at ht
    have := ht.2 s[k] (by have : s[k] = s.data[k]'hk := rfl; rw [this]; simp)
    rw [this] at h
    cases h
theorem nameB_good {s : ByteArray} (h : ∀ k (hk : k < s.size), charB s[k] = true) : nameB s = decide (1 ≤ s.size ∧ s.size ≤ 16) := by
  have : s.data.toList.all charB = true := by
    rw [List.all_eq_true]
    intro c hc
    obtain ⟨i, hi, rfl⟩ := List.getElem_of_mem hc
    have e : s.data.toList[i] = s[i]'(by simpa using hi) := by simp; rfl
    rw [e]; exact h i _
  rw [nameB, this, Bool.and_true]
set_option maxRecDepth 100000 in
set_option maxHeartbeats 1000000 in
theorem named_ok (s : ByteArray) (hs : s.size ≤ 1000000) (w : World) :
    Calls Try.prog 75 #[.string s] w fun e w' => e = .returned (.bool (nameB s)) ∧ w = w' := by
  go_enter Try.func75, Try.ntmps75
  go_wp2_with fail
  go_loopw [6] (fun i wr => ∃ k : Nat, k ≤ s.size ∧ i = .int .i64 k ∧ wr = w ∧ Hid (∀ j (hj : j < s.size), j < k → charB s[j] = true)) (fun i _ => s.size - (intOf i).toNat)
  case atStart => exact ⟨0, Nat.zero_le _, rfl, rfl, fun j _ hj => by omega⟩
  case round =>
    obtain ⟨k, hk, rfl, hwr, hs2⟩ := hrel
    subst hwr
    by_cases hlt : k < s.size
    · have HX := Lib.hid (fun h => nameB_bad hlt h)
      obtain ⟨c, hc⟩ : ∃ c, c = s[k] := ⟨_, rfl⟩
      rw [← hc] at HX
      have HC := Lib.hid hc
      by_cases h1 : (c.toNat : Int) < 32
      · have e1 : decide ((s[k].toNat : Int) < 32) = true := by rw [← hc]; simpa using h1
        have HF := Lib.hid (HX.out (by simp [charB]; omega))
        clear h1 hc
        go_wp2
        go_ret
        exact ⟨ret_bool (by rw [HF.out]), rfl⟩
      · have e1 : decide ((s[k].toNat : Int) < 32) = false := by rw [← hc]; simpa using h1
        by_cases h2 : 126 < (c.toNat : Int)
        · have e2 : decide (126 < (s[k].toNat : Int)) = true := by rw [← hc]; simpa using h2
          have HF := Lib.hid (HX.out (by simp [charB]; omega))
          clear h1 h2 hc
          go_wp2
          go_ret
          exact ⟨ret_bool (by rw [HF.out]), rfl⟩
        · have e2 : decide (126 < (s[k].toNat : Int)) = false := by rw [← hc]; simpa using h2
          have HG := Lib.hid (show charB s[k] = true by rw [← hc]; simp [charB]; omega)
          clear h1 h2 hc
          go_wp2
          go_roundw
          case rel => exact ⟨k + 1, by omega, by go_num, by first | rfl | trivial, fun j hj hj2 => by
            rcases Nat.lt_or_ge j k with h | h
            · exact hs2.out j hj h
            · obtain rfl : j = k := by omega
              exact HG.out⟩
          case measure => simp [intOf]; omega
    · have HG := Lib.hid (nameB_good fun j hj => hs2.out j hj (by omega))
      go_wp2
      all_goals
        go_ret
        exact ⟨ret_bool (by rw [HG.out, Bool.eq_iff_iff]; simp; omega), rfl⟩

theorem sortedB_drop {L : List Int} {k : Nat} (hk : k + 1 < L.length) : sortedB (L.drop k) = (decide (L.getD k 0 ≤ L.getD (k + 1) 0) && sortedB (L.drop (k + 1))) := by
  rw [List.drop_eq_getElem_cons (by omega), List.drop_eq_getElem_cons (show k + 1 < L.length from hk), sortedB]
  simp [List.getD_eq_getElem?_getD, List.getElem?_eq_getElem hk, List.getElem?_eq_getElem (show k < L.length by omega)]
theorem sortedB_no {L : List Int} : ∀ k, sortedB (L.drop k) = false → sortedB L = false
  | 0, h => by simpa using h
  | k + 1, h => by
    refine sortedB_no k ?_
    rcases Nat.lt_or_ge (k + 1) L.length with hl | hl
    · rw [sortedB_drop hl, h, Bool.and_false]
    · rw [List.drop_eq_nil_of_le hl] at h; cases h
theorem sortedB_end {L : List Int} : sortedB (L.drop (L.length - 1)) = true := by
  rcases Nat.eq_zero_or_pos L.length with h | h
  · rw [List.drop_eq_nil_of_le (by omega)]; rfl
  · rw [List.drop_eq_getElem_cons (by omega), List.drop_eq_nil_of_le (by omega)]; rfl
theorem isNaN_ok (a : Int) (w : World) :
    Calls Try.prog 135 #[.int .i64 a] w fun e w' => e = .returned (.bool false) ∧ w = w' := by
  go_enter Try.func135, Try.ntmps135
  go_wp2
  go_ret
  exact ⟨ret_bool (by simp), rfl⟩
theorem less_ok (a b : Int) (w : World) :
    Calls Try.prog 129 #[.int .i64 a, .int .i64 b] w fun e w' => e = .returned (.bool (decide (a < b))) ∧ w = w' := by
  go_enter Try.func129, Try.ntmps129
  go_wp2_with fail
  refine (isNaN_ok a _).mono ?_
  rintro e w' ⟨rfl, rfl⟩
  go_wp2
  go_ret
  exact ⟨rfl, rfl⟩
set_option maxRecDepth 100000 in
set_option maxHeartbeats 1000000 in
theorem sorted_ok (w : World) (v : Value) (L : List Int) (hv : Rd w v (i64s L)) (hl : L.length ≤ 1000000) :
    Calls Try.prog 116 #[v] w fun e w' => e = .returned (.bool (sortedB L)) ∧ ∃ n, w' = w.drewN n := by
  obtain ⟨ad, cap, rfl, hc1, hc2, hcs⟩ := hv.i64
  unfold maxLen at hc2
  clear hv
  have HS := Lib.hid (sortedB_end (L := L))
  have HD := Lib.hid (fun k (hk : k + 1 < L.length) => sortedB_drop (L := L) hk)
  have HN := Lib.hid (fun k => sortedB_no (L := L) k)
  go_enter Try.func116, Try.ntmps116
  go_wp2_with fail
  go_loopw [3] (fun i wr => ∃ k : Int, k < L.length ∧ -1 ≤ k ∧ i = .int .i64 k ∧ (∃ n, wr = w.drewN n) ∧ Hid (sortedB (L.drop k.toNat) = true)) (fun i _ => (intOf i).toNat)
  case atStart => exact ⟨(L.length : Int) - 1, by omega, by omega, rfl, ⟨0, rfl⟩, by rw [show ((L.length : Int) - 1).toNat = L.length - 1 by omega]; exact HS.out⟩
  case round =>
    obtain ⟨k, hk, hk0, rfl, ⟨nd, rfl⟩, hs⟩ := hrel
    by_cases hlt : 0 < k
    · obtain ⟨j, rfl⟩ : ∃ j : Nat, k = (j : Int) + 1 := ⟨(k - 1).toNat, by omega⟩
      obtain ⟨ba, oa, rfl, x1⟩ := hcs (j + 1) (by omega)
      obtain ⟨_, _, he, x0⟩ := hcs j (by omega)
      injection he with he
      injection he with he1 he2
      subst he1 he2
      have HJ := Lib.hid (HD.out j (by omega))
      have HM := Lib.hid (HN.out j)
      have HK := Lib.hid (show sortedB (L.drop (j + 1)) = true from hs.out)
      clear hcs hs
      obtain ⟨x, hx⟩ : ∃ x, x = L.getD j 0 := ⟨_, rfl⟩
      obtain ⟨y, hy⟩ : ∃ y, y = L.getD (j + 1) 0 := ⟨_, rfl⟩
      rw [← hx] at x0 HJ
      rw [← hy] at x1 HJ
      clear hx hy
      have i1 : (0 : Int) ≤ (j : Int) := by omega
      have i2 : (j : Int) < (L.length : Int) := by omega
      have i3 : (j : Int) + 1 < (L.length : Int) := by omega
      have i4 : (0 : Int) ≤ (j : Int) + 1 := by omega
      have i5 : ((j : Int) + 1).toNat = j + 1 := by omega
      have i6 : IntKind.i64.wrap ((j : Int) + 1 - 1) = (j : Int) := by rw [show (j : Int) + 1 - 1 = j by omega]; exact IntWalk.i64_in _ (by omega)
      by_cases hxy : y < x
      · have HF := Lib.hid (HM.out (by rw [HJ.out, decide_eq_false (by omega), Bool.false_and]))
        go_wp2_with fail
        go_quiet ((go_at_call 129; exact quiet_add_left (less_ok _ _ _)))
        clear i6
        go_wp2
        go_ret
        exact ⟨ret_bool (by rw [HF.out]), nd + nq, by first | rfl | rw [World.drewN_drewN]⟩
      · have HF := Lib.hid (show sortedB (L.drop j) = true by rw [HJ.out, decide_eq_true (by omega), HK.out]; rfl)
        go_wp2_with fail
        go_quiet ((go_at_call 129; exact quiet_add_left (less_ok _ _ _)))
        clear i6
        go_wp2
        exact ⟨⟨(j : Int), by omega, by omega, rfl, ⟨nd + nq, by first | rfl | rw [World.drewN_drewN]⟩, HF.out⟩, by simp only [intOf]; omega⟩
    · have HF := Lib.hid (show sortedB L = true by have h0 : k.toNat = 0 := by omega
                                                   have := hs.out; rw [h0] at this; simpa using this)
      go_wp2
      go_ret
      exact ⟨ret_bool (by rw [HF.out]), _, rfl⟩
end Go.Proofs.Ytijjkonephjodaa
