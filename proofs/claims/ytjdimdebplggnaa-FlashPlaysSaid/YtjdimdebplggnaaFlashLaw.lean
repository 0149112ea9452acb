/- The laws' own helpers: contracts. -/
import Derived.Test.YtjdimdebplggnaaFlashPure
import Derived.Test.YtjdimdebplggnaaSameInts
namespace Go.Proofs.Ytjdimdebplggnaa
open Go.RowKit

theorem new264 (w : World) : Calls Try.prog 22 #[.int .i64 2, .int .i64 64] w fun e w' => NewDev w (Dev.fresh 2 64) e w' := new_ok 2 64 (by omega) (by omega) (by omega) (by omega) w

/-- A device programmed with bytes bs, and the slice of these bytes. -/
def MadeDev (w : World) (e : Ending) (w' : World) : Prop := ∃ (p : DevAt) (gb : Nat) (bs : List Int), e = .returned (.tuple #[.pointer (some ⟨p.b, 0, none⟩), .slice (some ⟨gb, 0, none⟩) 128 128, .bool true]) ∧
  bs.length = 128 ∧ Bytes bs ∧ IsDev w' p { Dev.fresh 2 64 with data := bs, steps := 128 } ∧ RowAt w' gb 5 128 (u8s bs) ∧ Mods [] w w' ∧ (∀ k ∈ p.foot, w.heap.size ≤ k) ∧ w.heap.size ≤ gb ∧ gb ∉ p.foot

/-- n zero bytes. -/
def byteRow (n : Nat) : Array Value := madeCells #[.int .u8 0] n
theorem byteRow_at (w : World) (n : Nat) (hn : n ≤ maxLen := by unfold maxLen; omega) : RowAt (w.alloc (.cells (byteRow n) 5)) w.heap.size 5 n (u8s (List.replicate n 0)) := by
  have h : (byteRow n).toList = u8s (List.replicate n 0) := by rw [byteRow, madeCells_one, u8s, List.map_replicate]
  refine ⟨byteRow n, heap_new _ _, size_madeCells _ _, by simp [u8s], hn, ?_⟩
  rw [h]
  simp [u8s]
theorem bytes_zero (n : Nat) : Bytes (List.replicate n 0) := by intro i; rw [getD_replicate]; split <;> omega
theorem bytes_set {l : List Int} (h : Bytes l) (i : Nat) {x : Int} (h0 : 0 ≤ x) (h1 : x ≤ 255) : Bytes (l.set i x) := by
  intro j; rw [getD_set]; split; exact ⟨h0, h1⟩; exact h j

set_option maxRecDepth 100000 in
set_option maxHeartbeats 1000000 in
theorem made_ok (w : World) (v : Value) (L : List Int) (hv : Rd w v (i64s L)) (hl : L.length ≤ 1000000) (hb : ∀ i, I64 (L.getD i 0)) :
    Calls Try.prog 13 #[v] w fun e w' => MadeDev w e w' := by
  obtain ⟨i0, hi, hz0, hz1, hz2⟩ := info_parts Try.infoB
  have hmk : ∀ w : World, (Instr.makeSlice 26 (.int .i64 128) (.int .i64 128)).run Try.prog w = .ok (.slice (some ⟨w.heap.size, 0, none⟩) 128 128) (w.alloc (.cells (byteRow 128) 5)) := fun w => by
    have h := run_make (P := Try.prog) w 26 5 i0 (.int .u8 0) Try.underlying26 hi hz0 .i64 .i64 128 128 (by omega) (Int.le_refl _) (by rw [hz2]; omega) (by omega)
    rw [hz1] at h
    exact h
  clear hi hz0 hz1 hz2
  have HV := Lib.hid hv
  have HB := Lib.hid hb
  have HVB := Lib.hid (show L ≠ [] → ∀ k, v.ownBlock = some k → k < w.heap.size from fun hl => hv.block_lt (fun e => hl (List.eq_nil_of_length_eq_zero (by rw [← i64s_length, e]; rfl))))
  clear hv hb
  go_enter Try.func13, Try.ntmps13
  go_wp2_with fail
  refine (new264 w).mono ?_
  rintro e w1 ⟨p, rfl, I1, M1, F1⟩
  have lt1 := I1.lt
  have HF1 := Lib.hid F1
  have HL1 := Lib.hid lt1
  clear F1 lt1
  go_wp2_with fail
  refine (roll_ok w1 _ L (HV.out.mods0 M1) hl HB.out).mono ?_
  rintro e w2 ⟨rfl, J2, M2, Z2⟩
  have I2 := I1.mods0 M2
  have N2 := M1.trans M2
  clear I1
  go_wp2_with fail
  have I3 := I2.mods0 (Mods.refl.alloc (.cells (byteRow 128) 5))
  have J3 := J2.mods0 (Mods.refl.alloc (.cells (byteRow 128) 5))
  have N3 := N2.alloc (.cells (byteRow 128) 5)
  have R3 : RowAt (w2.alloc (.cells (byteRow 128) 5)) w2.heap.size 5 128 (u8s (List.replicate 128 0)) := byteRow_at w2 128
  generalize hW : w2.alloc (.cells (byteRow 128) 5) = w3 at I3 J3 N3 R3 ⊢
  have z1 := M1.size
  go_loopw [9] (fun i wr => ∃ (k n : Nat) (bs : List Int), k ≤ 128 ∧ i = .int .i64 k ∧ bs.length = 128 ∧ Bytes bs ∧ IsDev wr p (Dev.fresh 2 64) ∧ IsDice wr w1.heap.size v L n ∧ RowAt wr w2.heap.size 5 128 (u8s bs) ∧ Mods [] w wr) (fun i _ => 128 - (intOf i).toNat)
  case atStart => exact ⟨0, 0, _, by omega, rfl, by simp, bytes_zero _, I3, J3, R3, N3⟩
  case round =>
    obtain ⟨k, n, bs, hk, rfl, hbl, hby, I, J, R, hm⟩ := hrel
    clear I3 J3 N3 R3 hW w3
    have HBL := Lib.hid hbl
    clear hbl
    by_cases hlt : k < 128
    · go_wp2_with fail
      refine (byte_ok wr _ v L n J).mono ?_
      rintro e w4 ⟨r, n', rfl, h1, h2, J4, M4⟩
      have I4 := I.mods M4 (fun j hj => by have := HL1.out j hj; simp; omega)
      have R4 := R.mods M4 (by simp; omega)
      have hfz := R4.froz
      have hc := R4.cell (i := k) (by rw [u8s_length, HBL.out]; exact hlt)
      obtain ⟨y, hy⟩ : ∃ y, y = (u8s bs).getD k undef := ⟨_, rfl⟩
      rw [← hy] at hc
      clear hy
      have hm4 : Mods [] w w4 := hm.comp M4 (by intro j hj; simp at hj; subst hj; exact .inr (by omega))
      have MS : Mods [w2.heap.size] w4 (w4.setCell ⟨w2.heap.size, k, none⟩ (.int .u8 r)) := Mods.refl.setCell (.inl (by simp)) _
      have I5 := Lib.hid (I4.mods MS (fun j hj => by have := HL1.out j hj; simp; omega))
      have J5 := Lib.hid (J4.mods MS (by simp; omega) (fun hL j hj => by have := HVB.out hL j hj; simp; omega))
      have R5 := Lib.hid (show RowAt (w4.setCell ⟨w2.heap.size, k, none⟩ (.int .u8 r)) w2.heap.size 5 128 (u8s (bs.set k r)) by have := R4.set (i := k) (.int .u8 r); simpa [u8s, List.map_set] using this)
      have hm5 := Lib.hid (hm4.comp MS (by intro j hj; simp at hj; subst hj; exact .inr (by omega)))
      clear I J R hm J4 I4 R4 hm4 MS
      go_wp2
      go_roundw
      case rel => exact ⟨k + 1, n', bs.set k r, by omega, by go_num, by rw [List.length_set]; exact HBL.out, bytes_set hby k h1 h2, I5.out, J5.out, R5.out, hm5.out⟩
      case measure => simp [intOf]; omega
    · have e : k = 128 := by omega
      subst e
      have HP := Lib.hid (fresh_prog bs HBL.out hby)
      have HI := Lib.hid I
      have hg : ∀ j ∈ p.foot, w2.heap.size ≠ j := fun j hj => by have := HL1.out j hj; omega
      have HG := Lib.hid hg
      clear hg I
      go_wp2_with fail
      have HR : Hid (Rd wr (.slice (some ⟨w2.heap.size, 0, none⟩) 128 128) (u8s bs)) := by have := R.rd; rwa [u8s_length, HBL.out] at this
      refine (program_ok wr p _ HI.out (Dev.fresh_ok (by omega) (by omega) (by omega)) 0 (.slice (some ⟨w2.heap.size, 0, none⟩) 128 128) bs HR.out hby (fun _ j hj => by simp only [Value.ownBlock, Option.some.injEq] at hj; subst hj; intro hj; exact HG.out _ (by simp [DevAt.foot] at hj ⊢; rcases hj with h | h <;> simp [h]) rfl) (by simp [Dev.fresh])).mono ?_
      rintro e w5 ⟨rfl, I5, M5⟩
      rw [HP.out] at I5 ⊢
      have R5 := Lib.hid (R.mods M5 (fun hj => HG.out _ (by simp [DevAt.foot] at hj ⊢; rcases hj with h | h <;> simp [h]) rfl))
      have I6 := Lib.hid I5
      have hm6 := Lib.hid (hm.comp M5 (fun j hj => .inr (HF1.out j (by simp [DevAt.foot] at hj ⊢; rcases hj with h | h <;> simp [h]))))
      clear R hm I5 M5
      go_wp2
      go_ret3
      exact ⟨p, w2.heap.size, bs, rfl, HBL.out, hby, I6.out, R5.out, hm6.out, HF1.out, by omega, fun hj => HG.out _ hj rfl⟩

theorem run_Ok (l : List Int) : ∀ (D : Dev) (n : Nat), D.Ok → (D.run n l).2.Ok := by
  induction l with
  | nil => intro D n h; exact h
  | cons x r ih =>
    intro D n h
    rw [Dev.run]
    split
    · exact h.step.put _ (bits_byte _ _ _).1 (bits_byte _ _ _).2
    · exact ih _ _ (h.step.put _ (bits_byte _ _ _).1 (bits_byte _ _ _).2)
theorem program_Ok {D : Dev} (h : D.Ok) (at_ : Int) (l : List Int) : (D.program at_ l).2.Ok := by
  rw [Dev.program]
  split
  · exact h
  · split
    · exact run_Ok _ _ _ h
    · exact h
theorem arm_Ok {D : Dev} (h : D.Ok) (s t : Int) (hs : s ≤ 1000000000) (h0 : 0 ≤ t) (h1 : t ≤ 255) : (D.arm s t).Ok := by
  rw [Dev.arm]
  split
  · exact h
  · exact ⟨h.len, h.wl, h.mul, h.s0, h.s1, h.byt, ⟨h0, h1⟩, h.st, by simp only; omega, h.wr⟩
def Dev.restore (D : Dev) : Dev := { D with down := false, left := 0 }
theorem restore_Ok {D : Dev} (h : D.Ok) : D.restore.Ok := ⟨h.len, h.wl, h.mul, h.s0, h.s1, h.byt, h.tn, h.st, by simp [Dev.restore], h.wr⟩
theorem erase_Ok {D : Dev} (h : D.Ok) (s : Int) : (D.erase s).2.Ok := by
  rw [Dev.erase]
  split
  · exact h
  · split
    · exact h.erased _
    · exact h
/-- A slice of bytes written out. -/
theorem rd_lit {w : World} {b : Nat} {T : TypeId} (l : List Int) (h : w.heap[b]? = some (.cells (u8s l).toArray T (0, 0))) (hl : l.length ≤ maxLen) : Rd w (.slice (some ⟨b, 0, none⟩) l.length l.length) (u8s l) := by
  have := RowAt.rd (w := w) (g := b) (cap := l.length) (T := T) (l := u8s l) ⟨_, h, by simp [u8s], by simp [u8s], hl, by simp⟩
  simpa [u8s] using this
theorem awake_facts : ((((Dev.fresh 2 64).arm 3 255).program 0 [1, 2, 3, 4]).1 = 10) ∧ ((((Dev.fresh 2 64).arm 3 255).program 0 [1, 2, 3, 4]).2.restore.read 0 4 = ([1, 2, 255, 255], 0)) ∧ ((((Dev.fresh 2 64).arm 3 255).program 0 [1, 2, 3, 4]).2.restore.steps = 3) ∧ ((Dev.fresh 2 64).arm 3 255).steps = 0 := by decide +kernel

set_option maxRecDepth 100000 in
set_option maxHeartbeats 1000000 in
theorem awake_ok (w : World) : Calls Try.prog 12 #[] w fun e w' => e = .returned (.bool true) ∧ Mods [] w w' := by
  obtain ⟨f1, f2, f3, f4⟩ := awake_facts
  have ok0 := Dev.fresh_ok (s := 2) (m := 64) (by omega) (by omega) (by omega)
  have ok1 := arm_Ok ok0 3 255 (by omega) (by omega) (by omega)
  have ok2 := restore_Ok (program_Ok ok1 0 [1, 2, 3, 4])
  generalize hD1 : (Dev.fresh 2 64).arm 3 255 = D1 at f1 f2 f3 f4 ok1 ok2
  generalize hD2 : (D1.program 0 [1, 2, 3, 4]).2 = D2 at f2 f3 ok2
  have F1 := Lib.hid f1
  have F2 := Lib.hid f2
  have F3 := Lib.hid f3
  have F4 := Lib.hid f4
  have H1 := Lib.hid hD1
  have H2 := Lib.hid hD2
  clear f1 f2 f3 f4 hD1 hD2
  go_enter Try.func12, Try.ntmps12
  go_wp2_with fail
  refine (new264 w).mono ?_
  rintro e w1 ⟨p, rfl, I1, M1, G1⟩
  have HG := Lib.hid G1
  have HL := Lib.hid I1.lt
  clear G1
  go_wp2_with fail
  refine (arm_ok w1 p _ I1 3 255).mono ?_
  rintro e w2 ⟨rfl, I2, M2⟩
  rw [H1.out] at I2
  have HN : Hid (∀ j ∈ p.foot, w.heap.size ≤ j) := HG.out
  have N2 : Mods [] w w2 := M1.comp M2 (by intro k hk; simp at hk; subst hk; exact .inr (HG.out _ (by simp [DevAt.foot])))
  have z2 := M2.size
  have z1 := M1.size
  go_wp2_with fail
  have I3 := I2.mods0 (Mods.refl.alloc (.cells #[.int .u8 1, .int .u8 2, .int .u8 3, .int .u8 4] 5))
  have N3 := N2.alloc (.cells #[.int .u8 1, .int .u8 2, .int .u8 3, .int .u8 4] 5)
  have HR : Hid (Rd (w2.alloc (.cells #[.int .u8 1, .int .u8 2, .int .u8 3, .int .u8 4] 5)) (.slice (some ⟨w2.heap.size, 0, none⟩) 4 4) (u8s [1, 2, 3, 4])) := rd_lit [1, 2, 3, 4] (heap_new _ _) (by decide)
  have z3 : w2.heap.size < (w2.alloc (.cells #[.int .u8 1, .int .u8 2, .int .u8 3, .int .u8 4] 5)).heap.size := by simp
  generalize w2.alloc (.cells #[.int .u8 1, .int .u8 2, .int .u8 3, .int .u8 4] 5) = w3 at I3 N3 HR z3 ⊢
  refine (program_ok w3 p D1 I3 ok1 0 _ [1, 2, 3, 4] HR.out (by intro i; match i with | 0 | 1 | 2 | 3 => simp | n + 4 => simp) (fun _ j hj => by simp only [Value.ownBlock, Option.some.injEq] at hj; subst hj; have h1 := HL.out p.b (by simp [DevAt.foot]); have h2 := HL.out p.g (by simp [DevAt.foot]); simp; omega) (by rw [F4.out]; omega)).mono ?_
  rintro e w4 ⟨rfl, I4, M4⟩
  rw [H2.out] at I4
  rw [F1.out]
  have N4 : Mods [] w w4 := N3.comp M4 (by intro k hk; simp at hk; rcases hk with rfl | rfl <;> exact .inr (HG.out _ (by simp [DevAt.foot])))
  clear I1 I2 I3 M1 M2 M4 N2 N3
  go_wp2_with fail
  refine (restore_ok w4 p D2 I4).mono ?_
  rintro e w5 ⟨rfl, I5, M5⟩
  have N5 : Mods [] w w5 := N4.comp M5 (by intro k hk; simp at hk; subst hk; exact .inr (HG.out _ (by simp [DevAt.foot])))
  clear I4 M5 N4
  go_wp2_with fail
  refine (read_ok w5 p D2.restore I5 ok2 0 4).mono ?_
  rw [F2.out]
  rintro e w6 ⟨v, rfl, O6, M6⟩
  have I6 := I5.mods0 M6
  have R6 := Lib.hid (Rd.own O6)
  have N6 := N5.trans M6
  clear O6 M6 I5 N5
  go_wp2_with fail
  have R7 : Hid (Rd (w6.alloc (.cells #[.int .u8 1, .int .u8 2, .int .u8 255, .int .u8 255] 5)) v (u8s [1, 2, 255, 255])) := R6.out.mods0 (Mods.refl.alloc _)
  have Q7 : Hid (Rd (w6.alloc (.cells #[.int .u8 1, .int .u8 2, .int .u8 255, .int .u8 255] 5)) (.slice (some ⟨w6.heap.size, 0, none⟩) 4 4) (u8s [1, 2, 255, 255])) := rd_lit [1, 2, 255, 255] (heap_new _ _) (by decide)
  have I7 := I6.mods0 (Mods.refl.alloc (.cells #[.int .u8 1, .int .u8 2, .int .u8 255, .int .u8 255] 5))
  have N7 := N6.alloc (.cells #[.int .u8 1, .int .u8 2, .int .u8 255, .int .u8 255] 5)
  generalize w6.alloc (.cells #[.int .u8 1, .int .u8 2, .int .u8 255, .int .u8 255] 5) = w7 at R7 Q7 I7 N7 ⊢
  refine (same_ok w7 v _ _ _ R7.out Q7.out).mono ?_
  rintro e w8 ⟨rfl, nd, rfl⟩
  have hs : (([1, 2, 255, 255] : List Int) == [1, 2, 255, 255]) = true := by decide
  rw [hs]
  have I8 := I7.drewN nd
  have N8 := N7.drewN nd
  generalize w7.drewN nd = w8 at I8 N8 ⊢
  clear I6 N6 I7 N7 hs
  go_wp2_with fail
  refine (steps_ok w8 p D2.restore I8).mono ?_
  rintro e w9 ⟨rfl, rfl⟩
  rw [F3.out]
  go_wp2
  go_ret
  exact ⟨rfl, N8⟩
end Go.Proofs.Ytjdimdebplggnaa
