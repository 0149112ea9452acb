/- The dice's small makers: contracts. -/
import Derived.Test.YtijjkonephjodaaRefValid
namespace Go.Proofs.Ytijjkonephjodaa
open Go.RowKit

def leastI (sgn : Bool) : Int := if sgn then -128 else 0
theorem least_ok (sgn : Bool) (w : World) :
    Calls Try.prog 78 #[.bool sgn] w fun e w' => e = .returned (.int .i64 (leastI sgn)) ∧ w = w' := by
  cases sgn
  all_goals
    go_enter Try.func78, Try.ntmps78
    go_wp2
    go_ret
    exact ⟨rfl, rfl⟩
def rawI (x : Int) : Nat := ((x + 256) % 256).toNat
theorem rawI_lt (x : Int) : rawI x < 256 := by unfold rawI; omega
theorem num_raw {sgn : Bool} {x : Int} (h1 : leastI sgn ≤ x) (h2 : x ≤ leastI sgn + 255) : numI sgn (rawI x) = x := by
  unfold leastI at h1 h2
  unfold numI rawI
  cases sgn
  · simp at h1 h2 ⊢; omega
  · simp at h1 h2 ⊢
    split <;> omega
theorem raw_ok (x : Int) (h1 : -256 ≤ x) (h2 : x ≤ 1000) (w : World) :
    Calls Try.prog 79 #[.int .i64 x] w fun e w' => e = .returned (.int .u8 (rawI x)) ∧ w = w' := by
  have HR := Lib.hid (show x % 256 = (rawI x : Int) by unfold rawI; omega)
  go_enter Try.func79, Try.ntmps79
  go_wp2
  go_ret
  refine ⟨ret_int ?_, rfl⟩
  rw [← HR.out]
/-- An entity of the dice. -/
def MadeEnt (w : World) (b : Nat) (v : Value) (L : List Int) (e : Ending) (w' : World) : Prop :=
  ∃ (x y n : Nat), e = .returned (.agg #[.int .u8 x, .int .u8 y]) ∧ x < 256 ∧ y < 256 ∧ IsDice w' b v L n ∧ Mods [b] w w'
theorem entity_ok (w : World) (b : Nat) (v : Value) (L : List Int) (n : Nat) (h : IsDice w b v L n) :
    Calls Try.prog 28 #[.pointer (some ⟨b, 0, none⟩)] w fun e w' => MadeEnt w b v L e w' := by
  have H := Lib.hid h
  have hb := h.lt
  clear h
  go_enter Try.func28, Try.ntmps28
  go_wp2_with fail
  have M1 := (Mods.refl (S := [b]) (w := w)).alloc (.cells #[.int .u8 0, .int .u8 0] 23)
  have G1 := heap_alloc_new w (.cells #[.int .u8 0, .int .u8 0] 23)
  have D1 := H.out.mods0 ((Mods.refl (S := []) (w := w)).alloc (.cells #[.int .u8 0, .int .u8 0] 23))
  generalize w.alloc (.cells #[.int .u8 0, .int .u8 0] 23) = w1 at M1 G1 D1 ⊢
  have hg : w.heap.size ≠ b := by omega
  have hgl : w.heap.size ≤ w.heap.size := Nat.le_refl _
  generalize hgg : w.heap.size = g at G1 hg hgl ⊢
  have HG := Lib.hid hgg
  clear hgg
  refine (next_ok w1 b v L n D1 4 (by omega) (by omega)).mono ?_
  rintro e w2 ⟨r, n2, rfl, r1, r2, D2, M2⟩
  have G2 := M2.heap G1 (by simp [hg])
  have MM := M1.trans M2
  clear M1 M2 D1 G1
  go_wp2_with fail
  refine (next_ok w2 b v L n2 D2 2 (by omega) (by omega)).mono ?_
  rintro e w3 ⟨q, n3, rfl, q1, q2, D3, M3⟩
  have G3 := M3.heap G2 (by simp [hg])
  have MM := Lib.hid (MM.trans M3)
  have DD := Lib.hid D3
  clear M3 D2 G2 D3
  have c0 : w3.cell? ⟨g, 0, none⟩ = some (.int .u8 0) := cell_blk G3 0
  have c1 : w3.cell? ⟨g, 1, none⟩ = some (.int .u8 0) := cell_blk G3 1
  have ff := fun i => froz_blk G3 i
  go_wp2_with fail
  have G4 := heap_setCell (i := 1) (v := .int .u8 q) (heap_setCell (i := 0) (v := .int .u8 (1 + r)) G3)
  have MM := (MM.out.setCell (p := ⟨g, 0, none⟩) (.inr (by have := HG.out; simp; omega)) (.int .u8 (1 + r))).setCell (p := ⟨g, 1, none⟩) (.inr (by have := HG.out; simp; omega)) (.int .u8 q)
  have DD : IsDice ((w3.setCell ⟨g, 0, none⟩ (.int .u8 (1 + r))).setCell ⟨g, 1, none⟩ (.int .u8 q)) b v L n3 :=
    DD.out.mods (S := [g]) ((Mods.refl.setCell (.inl (by simp)) _).setCell (.inl (by simp)) _) (by simp; omega) fun hl k hk hk2 => by
      have := H.out.rd.block_lt (fun e => hl (List.eq_nil_of_length_eq_zero (by rw [← i64s_length, e]; rfl))) k hk
      have := HG.out
      simp at hk2
      omega
  obtain ⟨x, hx⟩ := Int.eq_ofNat_of_zero_le (show 0 ≤ 1 + r by omega)
  obtain ⟨y, rfl⟩ := Int.eq_ofNat_of_zero_le q1
  rw [hx] at G4 MM DD ⊢
  refine bodyPost_ret (results_cell_row rfl _ _ g _ _ _ _ rfl G4 Try.underlying23 rfl (by kernel_rfl)) rfl ?_
  exact ⟨x, y, n3, rfl, by omega, by omega, DD, MM⟩
end Go.Proofs.Ytijjkonephjodaa
