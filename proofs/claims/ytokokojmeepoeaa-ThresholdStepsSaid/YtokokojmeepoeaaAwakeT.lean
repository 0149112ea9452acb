/- The sanity check of the statements about thresholds: contract. -/
import Derived.Test.YtokokojmeepoeaaStep
import Derived.Test.YtokokojmeepoeaaBld
namespace Go.Proofs.Ytokokojmeepoeaa
open Go.RowKit

/-- The sensor of the example. -/
def exS : Sen := ⟨0, 0, 0, ⟨#[116]⟩, 0, 0, false, ⟨1, false, 1, 0, 0, 0, .slice none 0 0⟩, 24, 0, 0, 0, 80, 90, 0, 0, 2, 0, 0, 0, false, 1⟩
theorem exS_is (w : World) : IsSen w exS [] where
  conv := ⟨RdPts.nil w, ⟨by simp, fun i => by simp [default], fun i => by simp [default, I64]⟩, by constructor <;> decide, by constructor <;> decide, by constructor <;> decide, by constructor <;> decide, by constructor <;> decide⟩
  number := by decide
  type := by decide
  unit := by decide
  name := by decide
  eid := by decide
  einst := by decide
  mask := by decide
  raw := fun i => by
    rcases Nat.lt_or_ge i 6 with h | h
    · match i, h with
      | 0, _ | 1, _ | 2, _ | 3, _ | 4, _ | 5, _ => decide
    · unfold Sen.raw; rw [List.getD_eq_getElem?_getD, List.getElem?_eq_none (by simpa using h)]; decide
  hl := by decide
  hu := by decide
  states := by decide
  asrt := by decide
  deas := by decide
  samples := by constructor <;> decide
theorem exS_one : exS.cells.all (·.oneCell') = true := by simp [exS, Sen.cells, Value.oneCell']
set_option maxRecDepth 100000 in
set_option maxHeartbeats 1000000 in
theorem example_ok (w : World) :
    Calls Try.prog 61 #[] w fun e w' => e = .returned (.agg exS.cells) ∧ Mods [] w w' := by
  go_enter Try.func61, Try.ntmps61
  go_wp2_with (refine wpList_store_row (cs := exS.cells) rfl 32 (.tmp 0) (.tmp 4) rfl (heap_alloc_new w _) (by rfl) (by rfl) rfl exS.infoS exS_one ?_; intro w2 R2 M2)
  refine bodyPost_ret (results_cell_row rfl _ _ w.heap.size _ _ _ _ rfl R2 Try.underlying32 rfl exS.infoS) rfl ?_
  exact ⟨rfl, (Mods.refl.alloc _).comp M2 fun k hk => by simp at hk; subst hk; exact .inr (Nat.le_refl _)⟩
def rawT : List Nat := [85, 95, 89, 88, 87]
def wantT : List Nat := [8, 24, 24, 24, 8]
def wasT : List Nat := [0, 8, 24, 24, 24, 8]
theorem runT {k : Nat} (hk : k < 5) : (stepN exS [] (wasT.getD k 0) (rawT.getD k 0)).1 = wantT.getD k 0 ∧ (stepN exS [] (wasT.getD k 0) (rawT.getD k 0)).2.2 = 0 ∧ wantT.getD k 0 = wasT.getD (k + 1) 0 ∧ wasT.getD k 0 < 256 ∧ rawT.getD k 0 < 256 := by
  match k, hk with
  | 0, _ | 1, _ | 2, _ | 3, _ | 4, _ => exact ⟨by decide +kernel, by decide +kernel, by decide, by decide, by decide⟩
set_option maxRecDepth 100000 in
set_option maxHeartbeats 1000000 in
theorem awakeT_ok (w : World) :
    Calls Try.prog 32 #[] w fun e w' => e = .returned (.bool true) ∧ Mods [] w w' := by
  go_enter Try.func32, Try.ntmps32
  go_wp2_with fail
  have A1 := heap_alloc2_old w (.cells #[.int .u8 85, .int .u8 95, .int .u8 89, .int .u8 88, .int .u8 87] 97) (.cells #[.int .u8 8, .int .u8 24, .int .u8 24, .int .u8 24, .int .u8 8] 97)
  have A2 := heap_alloc2_new w (.cells #[.int .u8 85, .int .u8 95, .int .u8 89, .int .u8 88, .int .u8 87] 97) (.cells #[.int .u8 8, .int .u8 24, .int .u8 24, .int .u8 24, .int .u8 8] 97)
  have AM := ((Mods.refl (S := []) (w := w)).alloc (.cells #[.int .u8 85, .int .u8 95, .int .u8 89, .int .u8 88, .int .u8 87] 97)).alloc (.cells #[.int .u8 8, .int .u8 24, .int .u8 24, .int .u8 24, .int .u8 8] 97)
  generalize (w.alloc (.cells #[.int .u8 85, .int .u8 95, .int .u8 89, .int .u8 88, .int .u8 87] 97)).alloc (.cells #[.int .u8 8, .int .u8 24, .int .u8 24, .int .u8 24, .int .u8 8] 97) = w1 at A1 A2 AM ⊢
  generalize w.heap.size = g at A1 A2 ⊢
  go_loopw [1, 4] (fun s i wr => ∃ k : Nat, k ≤ 5 ∧ i = .int .i64 k ∧ s = .int .u8 (wasT.getD k 0) ∧ Mods [] w wr ∧ wr.heap[g]? = some (.cells #[.int .u8 85, .int .u8 95, .int .u8 89, .int .u8 88, .int .u8 87] 97 (0, 0)) ∧ wr.heap[g + 1]? = some (.cells #[.int .u8 8, .int .u8 24, .int .u8 24, .int .u8 24, .int .u8 8] 97 (0, 0))) (fun _ i _ => 5 - (intOf i).toNat)
  case atStart => exact ⟨0, by omega, rfl, rfl, AM, A1, A2⟩
  case round =>
    obtain ⟨k, hk, rfl, rfl, M, R1, R2⟩ := hrel
    clear AM A1 A2
    by_cases hlt : k < 5
    · have ⟨t1, t2, t3, t4, t5⟩ := runT hlt
      have c1 : wr.cell? ⟨g, k, none⟩ = some (.int .u8 (rawT.getD k 0)) := by
        rw [cell_blk R1]
        match k, hlt with
        | 0, _ | 1, _ | 2, _ | 3, _ | 4, _ => rfl
      have c2 : wr.cell? ⟨g + 1, k, none⟩ = some (.int .u8 (wantT.getD k 0)) := by
        rw [cell_blk R2]
        match k, hlt with
        | 0, _ | 1, _ | 2, _ | 3, _ | 4, _ => rfl
      have HST := Lib.hid (fun W => step_ok W exS [] (exS_is W) (wasT.getD k 0) (rawT.getD k 0) t4 t5)
      generalize stepN exS [] (wasT.getD k 0) (rawT.getD k 0) = o at t1 t2 HST
      rw [t3] at t1 c2
      obtain ⟨nx, hnx⟩ : ∃ nx, nx = wasT.getD (k + 1) 0 := ⟨_, rfl⟩
      rw [← hnx] at t1 c2
      have HW := Lib.hid hnx.symm
      clear hnx
      generalize wasT.getD k 0 = st at t4 HST ⊢
      generalize rawT.getD k 0 = r at c1 t5 HST
      obtain ⟨o1, o2, o3⟩ := o
      simp only at t1 t2
      subst t1 t2
      clear t3 hk
      have i1 : (0 : Int) ≤ (k : Int) := by omega
      have i2 : (k : Int) < 5 := by omega
      have HM := Lib.hid M
      have H1 := Lib.hid R1
      have H2 := Lib.hid R2
      clear M R1 R2
      go_wp2_with fail
      go_region_held3 (fun w' => w'.cell? ⟨g, k, none⟩ = some (.int .u8 r))
        (first | go_keep | exact Mx.cell (by assumption) (by simp) | exact My.cell (by assumption) (by simp))
        (first
          | (go_at_call 61; refine (example_ok _).mono ?_; rintro e wx ⟨rfl, Mx⟩)
          | (go_at_call 34; refine (HST.out _).mono ?_; rintro e wy ⟨vv, rfl, _, My⟩))
      have MM := ((Mods.refl (S := []) (w := wr)).drew).trans (Mx.trans My)
      have c3 := MM.cell c2 (by simp)
      have HF := Lib.hid (HM.out.trans MM)
      have G1 := Lib.hid (MM.heap H1.out (by simp))
      have G2 := Lib.hid (MM.heap H2.out (by simp))
      rename_i hOwn hHeld
      clear MM Mx My hHeld hOwn c1 c2
      go_wp2
      exact ⟨⟨k + 1, by omega, by go_num, by rw [HW.out], HF.out, G1.out, G2.out⟩, by simp only [intOf]; omega⟩
    · go_wp2
      go_ret
      exact ⟨rfl, M⟩
end Go.Proofs.Ytokokojmeepoeaa
