/- FlashSteps: the walk. -/
import Derived.Test.YtjdimdebplggnaaFlashErases
namespace Go.Proofs.Ytjdimdebplggnaa
open Go.RowKit
theorem new364 (w : World) : Calls Try.prog 22 #[.int .i64 3, .int .i64 64] w fun e w' => NewDev w (Dev.fresh 3 64) e w' := new_ok 3 64 (by omega) (by omega) (by omega) (by omega) w
theorem prog_up {D : Dev} (hd : D.down = false) (hl : D.left ≤ 0) {n : Nat} {l : List Int} (hf : n + l.length ≤ D.data.length) : D.program n l = (0, D.ran n l) := by
  have hf' : fits D n l.length = true := by simp [fits]; omega
  rw [Dev.program, if_neg (by rw [hd]; simp), if_pos hf']
  exact run_up l D n hd (.inl hl)
theorem erase_up {D : Dev} (hd : D.down = false) (hl : D.left ≤ 0) {s : Nat} (hs : s < D.wear.length) : D.erase s = (0, { D with steps := D.steps + 1, wear := D.wear.set s (D.wear.getD s 0 + 1), data := orRange D.data (s * D.size) D.size 255 }) := by
  rw [Dev.erase, if_neg (by rw [hd]; simp), if_pos (by omega)]
  have e : (D.worn s).step = { D.worn s with steps := D.steps + 1 } := by
    rw [Dev.step, if_neg (by show ¬ 0 < D.left; omega)]; rfl
  simp only [Dev.erased, Int.toNat_natCast, e]
  rw [if_neg (by show ¬ D.down = true; rw [hd]; simp), if_neg (by show ¬ D.down = true; rw [hd]; simp)]
  rfl
theorem sum_set (l : List Int) : ∀ (i : Nat), i < l.length → (l.set i (l.getD i 0 + 1)).sum = l.sum + 1 := by
  induction l with
  | nil => intro i h; simp at h
  | cons x r ih =>
    intro i h
    match i with
    | 0 => simp; omega
    | i + 1 =>
      have := ih i (by simpa using h)
      simp only [List.set_cons_succ, List.sum_cons, List.getD_cons_succ]
      omega
theorem sum_take {l : List Int} {B : Int} (h : ∀ i, 0 ≤ l.getD i 0 ∧ l.getD i 0 ≤ B) (j : Nat) : 0 ≤ (l.take j).sum ∧ (l.take j).sum ≤ B * j := by
  have hB : 0 ≤ B := by have := h 0; omega
  induction j with
  | zero => simp
  | succ j ih =>
    rcases Nat.lt_or_ge j l.length with hj | hj
    · have e : (l.take (j + 1)).sum = (l.take j).sum + l.getD j 0 := by
        rw [List.take_succ_eq_append_getElem hj, List.sum_append, List.getD_eq_getElem?_getD, List.getElem?_eq_getElem hj]
        simp
      have := h j
      rw [e, Int.natCast_succ, Int.mul_add]
      omega
    · have e : l.take (j + 1) = l.take j := by rw [List.take_of_length_le hj, List.take_of_length_le (by omega)]
      rw [e, Int.natCast_succ, Int.mul_add]
      omega
/-- What FlashSteps keeps. -/
structure StepsInv (k : Nat) (D : Dev) (steps wear : Int) : Prop where
  ok : D.Ok
  up : D.down = false
  len : D.data.length = 192
  wl : D.wear.length = 3
  st : D.steps = steps
  s0 : 0 ≤ steps
  s1 : steps ≤ 90 * k
  w0 : 0 ≤ wear
  w1 : wear ≤ k
  sum : D.wear.sum = wear
  wi : ∀ i, D.wear.getD i 0 ≤ k
theorem StepsInv.start : StepsInv 0 (Dev.fresh 3 64) 0 0 :=
  ⟨Dev.fresh_ok (by omega) (by omega) (by omega), rfl, by simp only [Dev.fresh, List.length_replicate], by simp only [Dev.fresh, List.length_replicate], rfl, by omega, by omega, by omega, by omega, rfl, by intro i; simp only [Dev.fresh, getD_replicate]; split <;> omega⟩
theorem StepsInv.arm {k : Nat} {D : Dev} {s w : Int} (h : StepsInv k D s w) {a : Int} (ha : a ≤ 1000) : StepsInv k (D.arm a 0) s w := by
  have e := Dev.arm_up h.up a 0
  have ok := arm_Ok h.ok a 0 (by omega) (by omega) (by omega)
  rw [e] at ok ⊢
  exact ⟨ok, h.up, h.len, h.wl, h.st, h.s0, h.s1, h.w0, h.w1, h.sum, h.wi⟩
theorem StepsInv.erase {k : Nat} {D : Dev} {s w : Int} (h : StepsInv k D s w) (hl : D.left ≤ 0) {i : Nat} (hi : i < 3) : (D.erase i).1 = 0 ∧ StepsInv (k + 1) (D.erase i).2 (s + 1) (w + 1) := by
  have e := erase_up h.up hl (s := i) (by rw [h.wl]; exact hi)
  have ok := erase_Ok h.ok (i : Int)
  rw [e] at ok ⊢
  refine ⟨rfl, ok, h.up, by simp only [orRange_len]; exact h.len, by simp only [List.length_set]; exact h.wl, by simp only [h.st], by have := h.s0; omega, by have := h.s1; omega, by have := h.w0; omega, by have := h.w1; omega, ?_, ?_⟩
  · simp only [sum_set _ _ (show i < D.wear.length by rw [h.wl]; exact hi), h.sum]
  · intro j
    simp only [getD_set]
    split
    · have := h.wi i; omega
    · have := h.wi j; omega
theorem StepsInv.prog {k : Nat} {D : Dev} {s w : Int} (h : StepsInv k D s w) (hl : D.left ≤ 0) {n : Nat} (hn : n < 90) : (D.program n (List.replicate n 0)).1 = 0 ∧ StepsInv (k + 1) (D.program n (List.replicate n 0)).2 (s + n) w := by
  have e := prog_up (n := n) (l := List.replicate n 0) h.up hl (by rw [h.len, List.length_replicate]; omega)
  have ok := program_Ok h.ok (n : Int) (List.replicate n 0)
  rw [e] at ok ⊢
  refine ⟨rfl, ok, h.up, by simp only [Dev.ran, andAt_len]; exact h.len, h.wl, by simp only [Dev.ran, List.length_replicate, h.st], by have := h.s0; omega, by have := h.s1; omega, h.w0, by have := h.w1; omega, h.sum, ?_⟩
  intro j; have := h.wi j; show D.wear.getD j 0 ≤ _; omega

set_option maxRecDepth 100000 in
set_option maxHeartbeats 2000000 in
theorem flashSteps_walk (w : World) (v : Value) (L : List Int) (hv : Rd w v (i64s L)) (hb : ∀ i, I64 (L.getD i 0)) :
    Calls Try.prog 7 #[v] w fun e w' => e = .returned (.bool true) ∧ Mods [] w w' := by
  obtain ⟨ad, cap, rfl, hc1, hc2, HV⟩ := hv.i64
  clear hv
  by_cases hl : L.length ≤ 60
  · have hd : decide ((60 : Int) < (L.length : Int)) = false := by simp; omega
    obtain ⟨i0, hi, hz0, hz1, hz2⟩ := info_parts Try.infoB
    have hmk : ∀ (w : World) (n : Nat) (_ : n < 90), (Instr.makeSlice 26 (.int .i64 (n : Int)) (.int .i64 (n : Int))).run Try.prog w = .ok (.slice (some ⟨w.heap.size, 0, none⟩) n n) (w.alloc (.cells (byteRow n) 5)) := fun w n hn => by
      have h := run_make (P := Try.prog) w 26 5 i0 (.int .u8 0) Try.underlying26 hi hz0 .i64 .i64 n n (by omega) (Int.le_refl _) (by rw [hz2]; omega) (by omega)
      rw [hz1] at h
      simpa [byteRow, Value.cells] using h
    have HMK := Lib.hid hmk
    have HV := Lib.hid HV
    have HB := Lib.hid hb
    clear hi hz0 hz1 hz2 hmk hb
    go_enter Try.func7, Try.ntmps7
    go_wp2_with fail
    refine (new364 w).mono ?_
    rintro e w1 ⟨p, rfl, I1, M1, F1⟩
    have HF := Lib.hid F1
    have HLT := Lib.hid I1.lt
    clear F1
    go_wp2_with fail
    go_loopw [5, 6, 7] (fun st we i wr => ∃ (k : Nat) (steps wear : Int) (D : Dev), k ≤ L.length ∧ i = .int .i64 k ∧ st = .int .i64 steps ∧ we = .int .i64 wear ∧ IsDev wr p D ∧ StepsInv k D steps wear ∧ Mods [] w wr ∧ w1.heap.size ≤ wr.heap.size) (fun _ _ i _ => L.length - (intOf i).toNat)
    case atStart => exact ⟨0, 0, 0, _, by omega, rfl, rfl, rfl, I1, StepsInv.start, M1, Nat.le_refl _⟩
    case round =>
      obtain ⟨k, steps, wear, D, hk, rfl, rfl, rfl, I, inv, hm, hz⟩ := hrel
      clear I1 M1
      have q0 := inv.s0
      have q1 := inv.s1
      have q2 := inv.w0
      have q3 := inv.w1
      by_cases hlt : k < L.length
      · obtain ⟨bv, ov, rfl, hc⟩ := HV.out k hlt
        have hcw := hm.cell hc (by simp)
        have hbk := HB.out k
        have hbv : bv < w.heap.size := World.block_lt_of_cell? w _ hc
        clear hc
        generalize L.getD k 0 = x at hcw hbk
        go_wp2_with fail
        refine (mod_ok x 90 wr hbk (by omega) (by omega)).mono ?_
        rintro e w2' ⟨rfl, rfl⟩
        have a0 := Int.emod_nonneg x (show (90 : Int) ≠ 0 by omega)
        have a1 := Int.emod_lt_of_pos x (show (0 : Int) < 90 by omega)
        obtain ⟨n, hn⟩ := Int.eq_ofNat_of_zero_le a0
        rw [hn] at a1 ⊢
        clear a0 hn
        go_wp2_with fail
        refine (arm_ok wr p D I 5 0).mono ?_
        rintro e w3 ⟨rfl, I3, M3⟩
        have inv3 := inv.arm (a := 5) (by omega)
        have hcw3 := M3.cell hcw (by have := HF.out p.b (by simp [DevAt.foot]); simp; omega)
        have hm3 : Mods [] w w3 := hm.comp M3 (by intro j hj; simp at hj; subst hj; exact .inr (HF.out _ (by simp [DevAt.foot])))
        have z3 := M3.size
        clear I hcw M3 hm
        go_wp2_with fail
        refine (mod_ok x 3 w3 hbk (by omega) (by omega)).mono ?_
        rintro e w2' ⟨rfl, rfl⟩
        have b0 := Int.emod_nonneg x (show (3 : Int) ≠ 0 by omega)
        have b1 := Int.emod_lt_of_pos x (show (0 : Int) < 3 by omega)
        generalize x % 3 = y at b0 b1 ⊢
        go_wp2_with fail
        refine (arm_ok w3 p _ I3 (-y) 0).mono ?_
        rintro e w4 ⟨rfl, I4, M4⟩
        have inv4 := inv3.arm (a := -y) (by omega)
        have hl4 : ((D.arm 5 0).arm (-y) 0).left ≤ 0 := by rw [Dev.arm_up inv3.up]; simp only; omega
        generalize (D.arm 5 0).arm (-y) 0 = D4 at I4 inv4 hl4
        have hm4 : Mods [] w w4 := hm3.comp M4 (by intro j hj; simp at hj; subst hj; exact .inr (HF.out _ (by simp [DevAt.foot])))
        have z4 := M4.size
        clear hcw3 I3 inv inv3 hm3 M4
        by_cases hn4 : n % 5 = 4
        · have t1 : ((n : Int) % 5 == 4) = true := by simp; omega
          have HE := Lib.hid (inv4.erase hl4 (show n % 3 < 3 from Nat.mod_lt _ (by omega)))
          go_wp2_with fail
          refine (erase_ok w4 p D4 I4 inv4.ok ((n % 3 : Nat) : Int) (by rw [inv4.st]; omega) (fun i => by have := inv4.wi i; omega)).mono ?_
          rintro e w5 ⟨rfl, I5, M5⟩
          rw [HE.out.1]
          have hm5 := Lib.hid (hm4.comp M5 (fun j hj => .inr (HF.out j hj)))
          have z5 := M5.size
          have I5 := Lib.hid I5
          clear I4 inv4 hm4 M5
          go_wp2
          go_roundw
          case rel => exact ⟨k + 1, steps + 1, wear + 1, _, by omega, by go_num, rfl, rfl, I5.out, HE.out.2, hm5.out, by omega⟩
          case measure => simp [intOf]; omega
        · have t1 : ((n : Int) % 5 == 4) = false := by simp; omega
          have HE := Lib.hid (inv4.prog hl4 (show n < 90 by omega))
          have hmk := fun w => HMK.out w n (by omega)
          go_wp2_with fail
          have I5 := I4.mods0 (Mods.refl.alloc (.cells (byteRow n) 5))
          have R5 := byteRow_at w4 n (by unfold maxLen; omega)
          have hm5 := hm4.alloc (.cells (byteRow n) 5)
          have z5 : w4.heap.size < (w4.alloc (.cells (byteRow n) 5)).heap.size := by simp
          have hlt4 := I4.lt
          generalize w4.alloc (.cells (byteRow n) 5) = w5 at I5 R5 hm5 z5 ⊢
          have HR := Lib.hid (show Rd w5 (.slice (some ⟨w4.heap.size, 0, none⟩) n n) (u8s (List.replicate n 0)) by have := R5.rd; simpa [u8s] using this)
          refine (program_ok w5 p D4 I5 inv4.ok (n : Int) _ (List.replicate n 0) HR.out (bytes_zero n) (fun _ j hj => by simp only [Value.ownBlock, Option.some.injEq] at hj; subst hj; have h1 := hlt4 p.b (by simp [DevAt.foot]); have h2 := hlt4 p.g (by simp [DevAt.foot]); simp; omega) (by rw [inv4.st]; omega)).mono ?_
          rintro e w6 ⟨rfl, I6, M6⟩
          rw [HE.out.1]
          have hm6 := Lib.hid (hm5.comp M6 (by intro j hj; simp at hj; rcases hj with rfl | rfl <;> exact .inr (HF.out _ (by simp [DevAt.foot]))))
          have z6 := M6.size
          have I6 := Lib.hid I6
          clear I4 inv4 hm4 I5 R5 hm5 M6 hmk
          go_wp2
          go_roundw
          case rel => exact ⟨k + 1, steps + n, wear, _, by omega, by go_num, rfl, rfl, I6.out, HE.out.2, hm6.out, by omega⟩
          case measure => simp [intOf]; omega
      · clear HV
        go_wp2_with fail
        refine (wear_ok wr p D I inv.ok).mono ?_
        rintro e w5 ⟨v5, rfl, O5, M5⟩
        have I5 := I.mods0 M5
        have hm5 := hm.trans M5
        obtain ⟨a5, c5, rfl, hca, hcb, HC⟩ := (Rd.own O5).i64
        rw [inv.wl] at hca HC ⊢
        have HC := Lib.hid HC
        have HS := Lib.hid inv.sum
        have HWL := Lib.hid inv.wl
        have HWI := Lib.hid inv.wi
        have HOK := Lib.hid inv.ok
        have HST := Lib.hid inv.st
        have HWR := Lib.hid inv.ok.wr
        clear O5 M5 I hm inv
        unfold maxLen at hcb
        go_wp2_with fail
        go_loopw [9, 11] (fun s i wx => ∃ (k : Nat), k ≤ 3 ∧ i = .int .i64 k ∧ s = .int .i64 (D.wear.take k).sum ∧ wx = w5) (fun _ i _ => 3 - (intOf i).toNat)
        case atStart => exact ⟨0, by omega, rfl, rfl, rfl⟩
        case round =>
          obtain ⟨j, hj, rfl, rfl, hwx⟩ := hrel
          subst hwx
          by_cases hlt3 : j < 3
          · obtain ⟨bc, oc, hbc, hc9⟩ := HC.out j hlt3
            subst hbc
            have e1 : (D.wear.take (j + 1)).sum = (D.wear.take j).sum + D.wear.getD j 0 := by
              rw [List.take_succ_eq_append_getElem (by rw [HWL.out]; exact hlt3), List.sum_append, List.getD_eq_getElem?_getD, List.getElem?_eq_getElem (by rw [HWL.out]; exact hlt3)]
              simp
            have E1 := Lib.hid e1
            have s0 : 0 ≤ (D.wear.take j).sum ∧ (D.wear.take j).sum ≤ (k : Int) * j := sum_take (fun i => ⟨HWR.out i, HWI.out i⟩) j
            have s00 : (k : Int) * j ≤ 60 * 3 := by rw [← Int.natCast_mul]; have := Nat.mul_le_mul (show k ≤ 60 by omega) (show j ≤ 3 by omega); omega
            generalize (k : Int) * (j : Int) = kj at s0 s00
            have s1 := HWI.out j
            have s2 := HWR.out j
            generalize D.wear.getD j 0 = y at hc9 s1 s2 E1
            generalize (D.wear.take j).sum = z at s0 E1 ⊢
            obtain ⟨s3, s4⟩ := s0
            clear e1
            have I5 := Lib.hid I5
            have hm5 := Lib.hid hm5
            go_wp2
            go_roundw
            case rel => exact ⟨j + 1, by omega, by go_num, by rw [E1.out], by first | rfl | trivial⟩
            case measure => simp [intOf]; omega
          · obtain rfl : j = 3 := by omega
            have e3 : (D.wear.take 3).sum = wear := by rw [List.take_of_length_le (by rw [HWL.out]; omega)]; exact HS.out
            rw [e3]
            clear e3
            go_wp2_with fail
            refine (steps_ok wr p D I5).mono ?_
            rintro e w10 ⟨rfl, rfl⟩
            rw [HST.out]
            go_wp2_with fail
            refine (awake_ok wr).mono ?_
            rintro e w11 ⟨rfl, hmm⟩
            go_wp2
            go_ret
            exact ⟨rfl, hm5.trans hmm⟩
  · have hd : decide ((60 : Int) < (L.length : Int)) = true := by simp; omega
    clear hl HV
    unfold maxLen at hc2
    go_enter Try.func7, Try.ntmps7
    go_wp2_with fail
    refine (awake_ok w).mono ?_
    rintro e w' ⟨rfl, hm⟩
    go_wp2
    go_ret
    exact ⟨rfl, hm⟩
end Go.Proofs.Ytjdimdebplggnaa
