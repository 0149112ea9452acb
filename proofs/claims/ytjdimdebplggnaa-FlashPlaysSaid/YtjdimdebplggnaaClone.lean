/- Clone of a device: contract. -/
import Derived.Test.YtjdimdebplggnaaFlashMake
import Derived.Test.YtjdimdebplggnaaFlashErase
import Derived.Deep.RegionWith
namespace Go.Proofs.Ytjdimdebplggnaa
open Go.RowKit
/-- A copy of the device D is handed back; nothing that was there has turned. -/
def CloneDev (w : World) (D : Dev) (e : Ending) (w' : World) : Prop := ∃ p, e = .returned (.pointer (some ⟨p.b, 0, none⟩)) ∧ IsDev w' p D ∧ Mods [] w w' ∧ ∀ k ∈ p.foot, w.heap.size ≤ k
theorem cell1 {w : World} {b : Nat} {a0 a1 a2 a3 a4 a5 a6 : Value} {T : TypeId} {fr : Nat × Nat} (h : w.heap[b]? = some (.cells #[a0, a1, a2, a3, a4, a5, a6] T fr)) : w.cell? ⟨b, 1, none⟩ = some a1 := cell_blk h 1
theorem cell2 {w : World} {b : Nat} {a0 a1 a2 a3 a4 a5 a6 : Value} {T : TypeId} {fr : Nat × Nat} (h : w.heap[b]? = some (.cells #[a0, a1, a2, a3, a4, a5, a6] T fr)) : w.cell? ⟨b, 2, none⟩ = some a2 := cell_blk h 2
theorem cloned {w w1 w2 w3 : World} {D : Dev} {gb cb gi ci : Nat} {x y : Value} {T : TypeId} (n3 : w3.heap[w.heap.size]? = some (.cells #[.int .i64 D.size, x, y, .int .i64 D.steps, .int .i64 D.left, .int .u8 D.torn, .bool D.down] T (0, 0)))
    (M1 : Mods [] w w1) (z1 : w1.heap.size = w.heap.size + 1) (M2 : Mods [] w1.drew w2) (M3 : Mods [] w2 w3)
    (O2 : w2.ownsRow w1.drew.heap.size 5 1 (.slice (some ⟨gb, 0, none⟩) (u8s D.data).length cb) (u8s D.data).length (u8s D.data))
    (O3 : w3.ownsRow w2.heap.size 3 1 (.slice (some ⟨gi, 0, none⟩) (i64s D.wear).length ci) (i64s D.wear).length (i64s D.wear)) :
    CloneDev w D (.returned (.pointer (some ⟨w.heap.size, 0, none⟩))) ((w3.setCell ⟨w.heap.size, 1, none⟩ (.slice (some ⟨gb, 0, none⟩) (u8s D.data).length cb)).setCell ⟨w.heap.size, 2, none⟩ (.slice (some ⟨gi, 0, none⟩) (i64s D.wear).length ci)) := by
  have b1 : w1.heap.size ≤ gb := (O2.lt gb (by simp [Value.ownBlock])).1
  have b2 := (RowAt.of_owns O2).lt
  have b3 : w2.heap.size ≤ gi := (O3.lt gi (by simp [Value.ownBlock])).1
  have R2 := ((RowAt.of_owns O2).mods M3 (by simp)).setOther (a := ⟨w.heap.size, 1, none⟩) (.slice (some ⟨gb, 0, none⟩) (u8s D.data).length cb) (by show gb ≠ w.heap.size; omega)
  have R2 := R2.setOther (a := ⟨w.heap.size, 2, none⟩) (.slice (some ⟨gi, 0, none⟩) (i64s D.wear).length ci) (by show gb ≠ w.heap.size; omega)
  have R3 := (RowAt.of_owns O3).setOther (a := ⟨w.heap.size, 1, none⟩) (.slice (some ⟨gb, 0, none⟩) (u8s D.data).length cb) (by show gi ≠ w.heap.size; omega)
  have R3 := R3.setOther (a := ⟨w.heap.size, 2, none⟩) (.slice (some ⟨gi, 0, none⟩) (i64s D.wear).length ci) (by show gi ≠ w.heap.size; omega)
  refine ⟨⟨w.heap.size, gb, gi, cb, ci⟩, rfl, ⟨⟨T, ?_⟩, R2, R3, ?_, ?_, ?_⟩, ?_, ?_⟩
  · rw [heap_setCell (heap_setCell n3), u8s_length, i64s_length]
    rfl
  · show w.heap.size ≠ gb; omega
  · show w.heap.size ≠ gi; omega
  · show gb ≠ gi; omega
  · exact ((((M1.drew.trans M2).trans M3)).setCell (.inr (Nat.le_refl _)) _).setCell (.inr (Nat.le_refl _)) _
  · intro k hk
    simp only [DevAt.foot, List.mem_cons, List.not_mem_nil, or_false] at hk
    rcases hk with rfl | rfl | rfl <;> omega
set_option maxHeartbeats 1000000 in
theorem clone_ok (w : World) (p : DevAt) (D : Dev) (h : IsDev w p D) (ok : D.Ok) (hd : 0 < D.data.length) (hw : 0 < D.wear.length) :
    Calls Try.prog 38 #[.pointer (some ⟨p.b, 0, none⟩)] w fun e w' => CloneDev w D e w' := by
  have h0 := h.c0
  have h1 := h.c1
  have h2 := h.c2
  have h3 := h.c3
  have h4 := h.c4
  have h5 := h.c5
  have h6 := h.c6
  have HRD := Lib.hid h.dat.rd
  have HRW := Lib.hid h.wer.rd
  rw [u8s_length] at HRD
  rw [i64s_length] at HRW
  have hl := ok.len
  have hwl := ok.wl
  have HI := Lib.hid h
  have hlt := Lib.hid h.lt
  obtain ⟨T, hb⟩ := h.hd
  clear h ok
  go_enter Try.func38, Try.ntmps38
  go_wp2_with fail
  have n0 := heap_new w (.cells #[.int .i64 D.size, .slice (some ⟨p.g, 0, none⟩) D.data.length p.cb, .slice (some ⟨p.gw, 0, none⟩) D.wear.length p.cw, .int .i64 D.steps, .int .i64 D.left, .int .u8 D.torn, .bool D.down] 69)
  have M1 := (Mods.refl (S := []) (w := w)).alloc (.cells #[.int .i64 D.size, .slice (some ⟨p.g, 0, none⟩) D.data.length p.cb, .slice (some ⟨p.gw, 0, none⟩) D.wear.length p.cw, .int .i64 D.steps, .int .i64 D.left, .int .u8 D.torn, .bool D.down] 69)
  have z1 : (w.alloc (.cells #[.int .i64 D.size, .slice (some ⟨p.g, 0, none⟩) D.data.length p.cb, .slice (some ⟨p.gw, 0, none⟩) D.wear.length p.cw, .int .i64 D.steps, .int .i64 D.left, .int .u8 D.torn, .bool D.down] 69)).heap.size = w.heap.size + 1 := World.size_alloc ..
  generalize w.alloc (.cells #[.int .i64 D.size, .slice (some ⟨p.g, 0, none⟩) D.data.length p.cb, .slice (some ⟨p.gw, 0, none⟩) D.wear.length p.cw, .int .i64 D.steps, .int .i64 D.left, .int .u8 D.torn, .bool D.down] 69) = w1 at n0 M1 z1 ⊢
  have k1 := M1.cell h1 (by simp)
  have k2 := M1.cell h2 (by simp)
  have HN := Lib.hid n0
  have HM := Lib.hid M1
  have HZ := Lib.hid z1
  clear h0 h1 h2 h3 h4 h5 h6 hb n0 M1 z1
  go_region_with (first | (go_at_call 46; refine (cloneI_ok w2 _ (i64s D.wear) HRW2.out (one_i64s _) (by rw [i64s_length]; omega)).mono ?_; rintro e w3 ⟨v3, rfl, O3, M3⟩; obtain ⟨gi, ci, _, rfl, _⟩ := owns_form O3 (by rw [i64s_length]; exact hw); have n3 := Lib.hid (M3.heap n2 (by simp)); have q1 := cell1 n3.out; have q2 := cell2 n3.out; have q3 := froz_blk n3.out 1; have q4 := froz_blk n3.out 2) | (go_at_call 44; refine (cloneB_ok w1.drew _ (u8s D.data) (HRD.out.mods0 HM.out.drew) (one_u8s _) (by rw [u8s_length]; omega)).mono ?_; rintro e w2 ⟨v2, rfl, O2, M2⟩; obtain ⟨gb, cb, _, rfl, _⟩ := owns_form O2 (by rw [u8s_length]; exact hd); have HRW2 := Lib.hid ((HRW.out.mods0 HM.out.drew).mods0 M2); have j2 := M2.cell (w := w1.drew) k2 (by simp); have n2 := M2.heap (w := w1.drew) HN.out (by simp)))
  all_goals
    have HE := Lib.hid (cloned n3.out HM.out HZ.out M2 M3 O2 O3)
    clear O2 O3 M2 M3 n2 n3 HRW2 j2 q1 q2 q3 q4 k1 k2
    go_wp2
    go_ret
    exact HE.out
end Go.Proofs.Ytjdimdebplggnaa
