/- The reference's New: contract. -/
import Derived.Test.YtjdimdebplggnaaRefA
import Derived.Test.YtjdimdebplggnaaClone
namespace Go.Proofs.Ytjdimdebplggnaa
open Go.RowKit
set_option maxHeartbeats 1000000 in
theorem refNew_ok (s m : Nat) (hs1 : 1 ≤ s) (hs : s ≤ 16) (hm1 : 64 ≤ m) (hm : m ≤ 1024) (w : World) :
    Calls Try.prog 29 #[.int .i64 s, .int .i64 m] w fun e w' => NewDev w (Dev.fresh s m) e w' := by
  obtain ⟨i0, hi, hz0, hz1, hz2⟩ := info_parts Try.infoI
  have hmk : ∀ w : World, (Instr.makeSlice 22 (.int .i64 (s : Int)) (.int .i64 (s : Int))).run Try.prog w = .ok (.slice (some ⟨w.heap.size, 0, none⟩) s s) (w.alloc (.cells (zeroRow s) 3)) := fun w => by
    have h := run_make (P := Try.prog) w 22 3 i0 (.int .i64 0) Try.underlying22 hi hz0 .i64 .i64 s s (by omega) (Int.le_refl _) (by rw [hz2]; omega) (by omega)
    rw [hz1] at h
    simpa [zeroRow, Value.cells] using h
  have hn1 : 1 ≤ s * m := Nat.mul_pos hs1 (by omega)
  have hn2 : s * m ≤ 16384 := Nat.mul_le_mul hs hm
  have hmul : IntKind.i64.wrap ((s : Int) * (m : Int)) = ((s * m : Nat) : Int) := by rw [← Int.natCast_mul]; exact IntWalk.i64_in _ (by omega)
  clear hi hz0 hz1 hz2
  obtain ⟨j0, hj, hy0, hy1, hy2⟩ := info_parts Try.infoB
  go_enter Try.func29, Try.ntmps29
  go_wp2_with fail
  clear hmk
  have r0 : ((w.alloc (.cells (zeroRow s) 3)).alloc (.cells #[.int .i64 m, .slice none 0 0, .slice (some ⟨w.heap.size, 0, none⟩) s s, .int .i64 0, .int .i64 0, .int .u8 0, .bool false] 75)).heap[w.heap.size]? = some (.cells (zeroRow s) 3 (0, 0)) := heap_alloc (heap_new _ _)
  have r1 : ((w.alloc (.cells (zeroRow s) 3)).alloc (.cells #[.int .i64 m, .slice none 0 0, .slice (some ⟨w.heap.size, 0, none⟩) s s, .int .i64 0, .int .i64 0, .int .u8 0, .bool false] 75)).heap[w.heap.size + 1]? = some (.cells #[.int .i64 m, .slice none 0 0, .slice (some ⟨w.heap.size, 0, none⟩) s s, .int .i64 0, .int .i64 0, .int .u8 0, .bool false] 75 (0, 0)) := by
    have := heap_new (w.alloc (.cells (zeroRow s) 3)) (.cells #[.int .i64 m, .slice none 0 0, .slice (some ⟨w.heap.size, 0, none⟩) s s, .int .i64 0, .int .i64 0, .int .u8 0, .bool false] 75)
    rw [World.size_alloc] at this
    exact this
  have r2 : Mods [] w ((w.alloc (.cells (zeroRow s) 3)).alloc (.cells #[.int .i64 m, .slice none 0 0, .slice (some ⟨w.heap.size, 0, none⟩) s s, .int .i64 0, .int .i64 0, .int .u8 0, .bool false] 75)) := (Mods.refl.alloc _).alloc _
  have r3 : w.heap.size + 2 ≤ ((w.alloc (.cells (zeroRow s) 3)).alloc (.cells #[.int .i64 m, .slice none 0 0, .slice (some ⟨w.heap.size, 0, none⟩) s s, .int .i64 0, .int .i64 0, .int .u8 0, .bool false] 75)).heap.size := by simp
  generalize (w.alloc (.cells (zeroRow s) 3)).alloc (.cells #[.int .i64 m, .slice none 0 0, .slice (some ⟨w.heap.size, 0, none⟩) s s, .int .i64 0, .int .i64 0, .int .u8 0, .bool false] 75) = w1 at r0 r1 r2 r3 ⊢
  go_loopw [7] (fun i wr => ∃ (k : Nat) (dv : Value), k ≤ s * m ∧ i = .int .i64 k ∧ Hid (wr.heap[w.heap.size]? = some (.cells (zeroRow s) 3 (0, 0))) ∧ Hid (wr.heap[w.heap.size + 1]? = some (.cells #[.int .i64 m, dv, .slice (some ⟨w.heap.size, 0, none⟩) s s, .int .i64 0, .int .i64 0, .int .u8 0, .bool false] 75 (0, 0))) ∧ wr.ownsRow (w.heap.size + 2) 5 1 dv k (u8s (List.replicate k 255)) ∧ Mods [] w wr ∧ w.heap.size + 2 ≤ wr.heap.size) (fun i _ => s * m - (intOf i).toNat)
  case atStart => exact ⟨0, _, by omega, rfl, r0, r1, World.ownsRow_nil _ _ _ _, r2, r3⟩
  case round =>
    obtain ⟨k, dv, hk, rfl, q0, q1, O, hmm, hz⟩ := hrel
    clear r0 r1 r2 r3
    by_cases hlt : k < s * m
    · have c1 := cell1 q1.out
      obtain ⟨ad, cap, hdv⟩ : ∃ ad cap, dv = .slice ad k cap := by
        have := (Rd.own O).len
        rw [u8s_length, List.length_replicate] at this
        exact this
      subst hdv
      go_wp2_with (at_builtin; refine wpList_push rfl (.tmp 38) (.tmp 39) 26 rfl (w.heap.size + 2) 5 j0 (.int .u8 0) 1 Try.underlying26 hj hy0 hy1 hy2 rfl _ _ _ rfl O _ _ rfl rfl (by omega) (by omega) (by omega) ?_)
      intro v' w5 hown' M5
      have O5 := own_u8 hown'
      have q05 := M5.heap q0.out (fun h => by have := mem_from h; omega)
      have q15 := M5.heap q1.out (fun h => by have := mem_from h; omega)
      have hm5 := hmm.then_from M5 (by omega)
      have z5 := M5.size
      obtain ⟨g, cap', _, rfl, _⟩ := owns_form O5 (by omega)
      have c5 := cell1 q15
      have f5 := froz_blk q15 1
      have MS : Mods [w.heap.size + 1] w5 (w5.setCell ⟨w.heap.size + 1, 1, none⟩ (.slice (some ⟨g, 0, none⟩) (k + 1) cap')) := Mods.refl.setCell (.inl (by simp)) _
      have Q0 := Lib.hid (MS.heap q05 (by simp))
      have Q1 := Lib.hid (show (w5.setCell ⟨w.heap.size + 1, 1, none⟩ (.slice (some ⟨g, 0, none⟩) (k + 1) cap')).heap[w.heap.size + 1]? = some (.cells #[.int .i64 m, .slice (some ⟨g, 0, none⟩) (k + 1) cap', .slice (some ⟨w.heap.size, 0, none⟩) s s, .int .i64 0, .int .i64 0, .int .u8 0, .bool false] 75 (0, 0)) from heap_setCell q15)
      have HO := Lib.hid (MS.owns O5 (fun j hj => by have := (O5.lt j hj).1; simp; omega))
      have HM := Lib.hid (hm5.comp MS (fun j hj => .inr (by simp at hj; omega)))
      have z6 : w.heap.size + 2 ≤ (w5.setCell ⟨w.heap.size + 1, 1, none⟩ (.slice (some ⟨g, 0, none⟩) (k + 1) cap')).heap.size := by have := MS.size; omega
      have Z6 := Lib.hid z6
      have HRP := Lib.hid (show List.replicate (k + 1) (255 : Int) = List.replicate k 255 ++ [255] by rw [List.replicate_succ'])
      clear O hmm hown' M5 c1 O5 q05 q15 hm5 MS z6 q0 q1
      go_wp2
      go_roundw
      case rel => exact ⟨k + 1, _, by omega, by go_num, Q0.out, Q1.out, by rw [HRP.out]; exact HO.out, HM.out, Z6.out⟩
      case measure => simp [intOf]; omega
    · obtain rfl : k = s * m := by omega
      obtain ⟨g, cap', _, rfl, _⟩ := owns_form O (by omega)
      have HE := Lib.hid (show NewDev w (Dev.fresh s m) (.returned (.tuple #[.pointer (some ⟨w.heap.size + 1, 0, none⟩), .int .i64 0])) wr from by
        have b1 := (O.lt g (by simp [Value.ownBlock])).1
        refine ⟨⟨w.heap.size + 1, g, w.heap.size, cap', s⟩, rfl, ⟨⟨75, ?_⟩, ?_, ?_, ?_, ?_, ?_⟩, hmm, ?_⟩
        · rw [q1.out]
          simp [Dev.fresh]
        · exact RowAt.of_owns O
        · refine ⟨zeroRow s, q0.out, zeroRow_size s, by simp [Dev.fresh, i64s], by simp only [maxLen]; omega, ?_⟩
          rw [zeroRow_list]
          simp [Dev.fresh, i64s]
        · show w.heap.size + 1 ≠ g; omega
        · show w.heap.size + 1 ≠ w.heap.size; omega
        · show g ≠ w.heap.size; omega
        · intro k hk
          simp only [DevAt.foot, List.mem_cons, List.not_mem_nil, or_false] at hk
          rcases hk with rfl | rfl | rfl <;> omega)
      clear O hmm q0 q1 hz
      go_wp2
      go_ret2
      exact HE.out
end Go.Proofs.Ytjdimdebplggnaa
