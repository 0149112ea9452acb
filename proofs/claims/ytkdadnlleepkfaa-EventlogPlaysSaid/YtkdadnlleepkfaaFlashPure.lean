/- The device as plain data: what a whole Program does. No program in sight. -/
import Derived.Test.YtkdadnlleepkfaaFlashErase
import Derived.Test.YtkdadnlleepkfaaFlashMake
import Derived.Test.YtkdadnlleepkfaaBytes
namespace Go.Proofs.Ytkdadnlleepkfaa
open Go.RowKit
set_option maxRecDepth 100000
theorem ext_getD {a b : List Int} (hl : a.length = b.length) (h : ∀ j, j < a.length → a.getD j 0 = b.getD j 0) : a = b := by
  refine List.ext_getElem hl fun j h1 h2 => ?_
  have h3 := h j h1
  rw [List.getD_eq_getElem?_getD, List.getD_eq_getElem?_getD, List.getElem?_eq_getElem h1, List.getElem?_eq_getElem h2] at h3
  exact h3
/-- l laid over data from place n on, by and. -/
def andAt (data : List Int) (n : Nat) (l : List Int) : List Int := data.mapIdx fun j y => if n ≤ j ∧ j < n + l.length then bits .and .u8 y (l.getD (j - n) 0) else y
theorem andAt_len (d : List Int) (n : Nat) (l : List Int) : (andAt d n l).length = d.length := by simp [andAt]
theorem andAt_getD (d : List Int) (n : Nat) (l : List Int) (j : Nat) (hj : j < d.length) : (andAt d n l).getD j 0 = if n ≤ j ∧ j < n + l.length then bits .and .u8 (d.getD j 0) (l.getD (j - n) 0) else d.getD j 0 := by
  simp [andAt, List.getD_eq_getElem?_getD, List.getElem?_mapIdx, List.getElem?_eq_getElem hj]
theorem andAt_nil (d : List Int) (n : Nat) : andAt d n [] = d := by
  refine List.ext_getElem (andAt_len _ _ _) fun j h1 h2 => ?_
  simp only [andAt, List.getElem_mapIdx]
  rw [if_neg (by simp)]
theorem andAt_cons (d : List Int) (n : Nat) (x : Int) (l : List Int) : andAt (d.set n (bits .and .u8 (d.getD n 0) x)) (n + 1) l = andAt d n (x :: l) := by
  refine List.ext_getElem (by simp [andAt_len]) fun j h1 h2 => ?_
  simp only [andAt_len, List.length_set] at h1
  simp only [andAt, List.getElem_mapIdx, List.getElem_set]
  by_cases e : n = j
  · subst e
    rw [if_neg (by omega), if_pos rfl, if_pos (by simp)]
    simp [List.getD_eq_getElem?_getD, List.getElem?_eq_getElem h1]
  · rw [if_neg e]
    by_cases h : n + 1 ≤ j ∧ j < n + 1 + l.length
    · rw [if_pos h, if_pos (by simp; omega)]
      obtain ⟨m, hm⟩ : ∃ m, j - n = m + 1 := ⟨j - n - 1, by omega⟩
      rw [hm, show j - (n + 1) = m from by omega]
      simp [List.getD_eq_getElem?_getD]
    · rw [if_neg h, if_neg (by simp; omega)]
/-- What a Program leaves that goes through. -/
def Dev.ran (D : Dev) (n : Nat) (l : List Int) : Dev := { D with data := andAt D.data n l, steps := D.steps + l.length, left := if 0 < D.left then D.left - l.length else D.left }
theorem Dev.ran_nil (D : Dev) (n : Nat) : D.ran n [] = D := by simp [Dev.ran, andAt_nil]
theorem Dev.step_up {D : Dev} (hd : D.down = false) (h : D.left ≤ 0 ∨ 1 < D.left) : D.step = { D with steps := D.steps + 1, left := if 0 < D.left then D.left - 1 else D.left } := by
  unfold Dev.step
  split
  · rename_i h1
    have h2 : (D.left - 1 == 0) = false := by simp; omega
    rw [h2, hd]
  · rfl
theorem run_up (l : List Int) : ∀ (D : Dev) (n : Nat), D.down = false → (D.left ≤ 0 ∨ l.length < D.left) → D.run n l = (0, D.ran n l) := by
  induction l with
  | nil => intro D n _ _; rw [Dev.ran_nil]; rfl
  | cons x r ih =>
    intro D n hd hl
    simp only [List.length_cons] at hl
    have hs := Dev.step_up hd (by omega)
    have hdn : D.step.down = false := by rw [hs]; exact hd
    rw [Dev.run, if_neg (by rw [hdn]; simp), ih _ _ (by simp only [Dev.put]; exact hdn) ?_]
    · simp only [Dev.ran, Dev.put, hs, andAt_cons, Prod.mk.injEq, true_and, and_true, Dev.mk.injEq, List.length_cons]
      refine ⟨by omega, ?_⟩
      by_cases h : 0 < D.left
      · rw [if_pos h, if_pos (by omega), if_pos h]; omega
      · rw [if_neg h, if_neg h, if_neg h]
    · simp only [Dev.put, hs]
      by_cases h : 0 < D.left
      · rw [if_pos h]; omega
      · rw [if_neg h]; omega
/-- What a Program leaves at whose m-th byte the power fails. -/
def Dev.tornAt (D : Dev) (n : Nat) (l : List Int) (m : Nat) : Dev :=
  { D with data := (andAt D.data n (l.take (m - 1))).set (n + m - 1) (bits .and .u8 (D.data.getD (n + m - 1) 0) (bits .or .u8 (l.getD (m - 1) 0) D.torn)), steps := D.steps + m, left := 0, down := true }
theorem run_torn (l : List Int) : ∀ (D : Dev) (n m : Nat), D.down = false → D.left = m → 1 ≤ m → m ≤ l.length → D.run n l = (10, D.tornAt n l m) := by
  induction l with
  | nil => intro D n m _ _ h1 h2; simp at h2; omega
  | cons x r ih =>
    intro D n m hd hl h1 h2
    simp only [List.length_cons] at h2
    by_cases hm : m = 1
    · subst hm
      have hs : D.step = { D with steps := D.steps + 1, left := 0, down := true } := by
        rw [Dev.step, if_pos (by omega), hl]; rfl
      rw [Dev.run, hs, if_pos rfl]
      simp [Dev.put, Dev.tornAt, andAt_nil]
    · have hs := Dev.step_up hd (by omega)
      rw [if_pos (by omega)] at hs
      have hdn : D.step.down = false := by rw [hs]; exact hd
      rw [Dev.run, if_neg (by rw [hdn]; simp), ih _ _ (m - 1) (by simp only [Dev.put]; exact hdn) (by simp only [Dev.put, hs]; omega) (by omega) (by omega)]
      obtain ⟨q, rfl⟩ : ∃ q, m = q + 2 := ⟨m - 2, by omega⟩
      clear ih
      simp only [Dev.tornAt, Dev.put, hs, Prod.mk.injEq, true_and, and_true, Dev.mk.injEq]
      refine ⟨?_, by omega⟩
      rw [show q + 2 - 1 = q + 1 from rfl, show q + 1 - 1 = q from rfl, List.take_succ_cons, andAt_cons, show n + 1 + (q + 1) - 1 = n + (q + 1) from by omega, show n + (q + 2) - 1 = n + (q + 1) from by omega]
      congr 2
      rw [getD_set, if_neg (by omega)]
theorem and_ff {x : Int} (h0 : 0 ≤ x) (h1 : x ≤ 255) : bits .and .u8 255 x = x := by
  have h : ∀ n : Fin 256, bits .and .u8 255 (n.val : Int) = (n.val : Int) := by decide +kernel
  have := h ⟨x.toNat, by omega⟩
  simpa [Int.toNat_of_nonneg h0] using this
theorem fresh_prog (bs : List Int) (hl : bs.length = 128) (hb : Bytes bs) : (Dev.fresh 2 64).program 0 bs = (0, { Dev.fresh 2 64 with data := bs, steps := 128 }) := by
  have hf : fits (Dev.fresh 2 64) 0 bs.length = true := by simp [fits, Dev.fresh, hl]
  rw [Dev.program, if_neg (by simp [Dev.fresh]), if_pos hf, run_up _ _ _ rfl (.inl (by simp [Dev.fresh]))]
  simp only [Dev.ran, Prod.mk.injEq, true_and, Dev.mk.injEq, hl]
  refine ⟨?_, by simp [Dev.fresh], by simp [Dev.fresh]⟩
  refine ext_getD (by rw [andAt_len, hl]; simp [Dev.fresh]) fun j h1 => ?_
  rw [andAt_len] at h1
  rw [andAt_getD _ _ _ _ h1]
  simp only [Dev.fresh, List.length_replicate] at h1
  rw [if_pos (by omega), show j - Int.toNat 0 = j from rfl]
  have h5 : (Dev.fresh 2 64).data.getD j 0 = 255 := by simp only [Dev.fresh, getD_replicate]; rw [if_pos h1]
  rw [h5]
  exact and_ff (hb j).1 (hb j).2
theorem or_ff {x : Int} (h0 : 0 ≤ x) (h1 : x ≤ 255) : bits .or .u8 x 255 = 255 := by
  have h : ∀ n : Fin 256, bits .or .u8 (n.val : Int) 255 = 255 := by decide +kernel
  have := h ⟨x.toNat, by omega⟩
  simpa [Int.toNat_of_nonneg h0] using this
def Dev.restore (D : Dev) : Dev := { D with down := false, left := 0 }
end Go.Proofs.Ytkdadnlleepkfaa
