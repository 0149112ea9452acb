/- Joined texts. The sanity check of the statements about sensor records, and light: contracts. | A slice literal of three sensors: where each lies. | A slice literal of four sensors: where each lies. -/
import Derived.Test.YtgjjmiaiclhidaaBaseI
import Derived.Test.YtgjjmiaiclhidaaBaseE
import Derived.Test.YtgjjmiaiclhidaaBaseG
import Derived.Great.BuildSlice
namespace Go.Proofs.Ytgjjmiaiclhidaa
open Go.RowKit

/-- The sensor of the example. -/
def exK : Sen := ⟨2, 37, 0, ⟨#[80]⟩, 0, 0, true, ⟨0, false, 0, 0, 0, 0, .slice none 0 0⟩, 0, 0, 0, 0, 0, 0, 0, 0, 0, 1, 1, 1, false, 1⟩
theorem exK_is (w : World) : IsSen w exK [] where
  conv := ⟨RdPts.nil w, ⟨by simp, fun i => by simp [default], fun i => by simp [default, I64]⟩, by constructor <;> decide, by constructor <;> decide, by constructor <;> decide, by constructor <;> decide, by constructor <;> decide⟩
  number := by decide
  type := by decide
  unit := by decide
  name := by decide
  eid := by decide
  einst := by decide
  mask := by decide
  raw := fun i => by
    rcases Nat.lt_or_ge i 6 with h | h
    · match i, h with
      | 0, _ | 1, _ | 2, _ | 3, _ | 4, _ | 5, _ => decide
    · unfold Sen.raw; rw [List.getD_eq_getElem?_getD, List.getElem?_eq_none (by simpa using h)]; decide
  hl := by decide
  hu := by decide
  states := by decide
  asrt := by decide
  deas := by decide
  samples := by constructor <;> decide
theorem exK_one : exK.cells.all (·.oneCell') = true := by simp [exK, Sen.cells, Value.oneCell']
theorem exK_valid : validB exK [] = true := by decide +kernel
theorem exK_bytes : seal8 (bodyD exK) = [1, 2, 37, 0, 0, 0, 5, 1, 80, 1, 0, 1, 0, 1, 0, 127] := by decide +kernel
set_option maxRecDepth 100000 in
set_option maxHeartbeats 1000000 in
theorem awakeS_ok (w : World) :
    Calls Try.prog 22 #[] w fun e w' => e = .returned (.bool true) ∧ Mods [] w w' := by
  have HV := Lib.hid exK_valid
  go_enter Try.func22, Try.ntmps22
  go_wp2_with (first
    | (refine wpList_load_sen rfl (.tmp 1) rfl HB.out (by rfl) ?_)
    | (refine wpList_store_row (cs := exK.cells) rfl 32 (.tmp 1) (.tmp 4) rfl (heap_alloc_new w _) (by rfl) (by rfl) rfl exK.infoS exK_one ?_; intro w2 R2 M2; have HB := Lib.hid (show SenBox w2 w.heap.size exK from ⟨R2⟩); have HM : Hid (Mods [] w w2) := Lib.hid ((Mods.refl.alloc _).comp M2 fun k hk => by simp at hk; subst hk; exact .inr (Nat.le_refl _)); clear M2 R2))
  refine (encodeD_ok w2 exK [] (exK_is _) rfl HV.out).mono ?_
  rw [exK_bytes]
  rintro e w3 ⟨v, rfl, O, M3⟩
  have HB3 := Lib.hid (HB.out.mods0 M3)
  have HM3 := Lib.hid (HM.out.trans M3)
  have HR := Lib.hid (Rd.own O)
  clear O M3
  go_wp2_with fail
  have MA := (Mods.refl (S := []) (w := w3)).alloc (.cells #[.int .u8 1, .int .u8 2, .int .u8 37, .int .u8 0, .int .u8 0, .int .u8 0, .int .u8 5, .int .u8 1, .int .u8 80, .int .u8 1, .int .u8 0, .int .u8 1, .int .u8 0, .int .u8 1, .int .u8 0, .int .u8 127] 5)
  have HLIT : Rd (w3.alloc (.cells #[.int .u8 1, .int .u8 2, .int .u8 37, .int .u8 0, .int .u8 0, .int .u8 0, .int .u8 5, .int .u8 1, .int .u8 80, .int .u8 1, .int .u8 0, .int .u8 1, .int .u8 0, .int .u8 1, .int .u8 0, .int .u8 127] 5)) (.slice (some ⟨w3.heap.size, 0, none⟩) 16 16) (u8s [1, 2, 37, 0, 0, 0, 5, 1, 80, 1, 0, 1, 0, 1, 0, 127]) := Rd.own (base := w3.heap.size) (World.ownsRow_lit w3 #[.int .u8 1, .int .u8 2, .int .u8 37, .int .u8 0, .int .u8 0, .int .u8 0, .int .u8 5, .int .u8 1, .int .u8 80, .int .u8 1, .int .u8 0, .int .u8 1, .int .u8 0, .int .u8 1, .int .u8 0, .int .u8 127] 16 (Nat.le_refl _) (by decide) rfl)
  refine (same_ok _ _ _ _ _ (HR.out.mods0 MA) HLIT).mono ?_
  rintro e w4 ⟨rfl, n4, rfl⟩
  have MB := MA.drewN n4
  have HB4 := Lib.hid (HB3.out.mods0 MB)
  have HM4 := Lib.hid (HM3.out.trans MB)
  generalize (w3.alloc (.cells #[.int .u8 1, .int .u8 2, .int .u8 37, .int .u8 0, .int .u8 0, .int .u8 0, .int .u8 5, .int .u8 1, .int .u8 80, .int .u8 1, .int .u8 0, .int .u8 1, .int .u8 0, .int .u8 1, .int .u8 0, .int .u8 127] 5)).drewN n4 = w4 at HB4 HM4 ⊢
  clear MA MB HLIT HR
  rw [show (([1, 2, 37, 0, 0, 0, 5, 1, 80, 1, 0, 1, 0, 1, 0, 127] : List Int) == [1, 2, 37, 0, 0, 0, 5, 1, 80, 1, 0, 1, 0, 1, 0, 127]) = true by decide]
  go_wp2_with (refine wpList_load_senG (by rfl) (.tmp 1) rfl HB4.out (by rfl) ?_)
  refine (valid_ok w4 exK [] (exK_is _)).mono ?_
  rw [HV.out]
  rintro e w5 ⟨rfl, M5⟩
  go_wp2
  go_ret
  exact ⟨rfl, HM4.out.trans M5⟩
end Go.Proofs.Ytgjjmiaiclhidaa

namespace Go.Proofs.Ytgjjmiaiclhidaa
open Go.RowKit

theorem fold_zip (off : Nat) : ∀ (l : List Value) (k : Nat) (c : Array Value), (l.zipIdx k).foldl (fun cs x => cs.setIfInBounds (off + x.2) x.1) c = setAll c (off + k) l
  | [], _, _ => rfl
  | v :: l, k, c => by
    rw [List.zipIdx_cons, List.foldl_cons, fold_zip off l (k + 1)]
    rfl
theorem fold_set (off : Nat) (vs c : Array Value) : vs.zipIdx.foldl (fun cs x => cs.setIfInBounds (off + x.2) x.1) c = setAll c off vs.toList := by
  rw [← Array.foldl_toList, Array.toList_zipIdx, fold_zip]; rfl
theorem fill_three {k : Nat} {c0 c1 c2 Z : Array Value} (h0 : c0.size = k) (h1 : c1.size = k) (h2 : c2.size = k) (hZ : Z.size = 3 * k) :
    Instr.fill (fun i => some (i * k, k)) Z [(0, .agg c0), (1, .agg c1), (2, .agg c2)] = some (setAll (setAll (setAll Z (0 * k) c0.toList) (1 * k) c1.toList) (2 * k) c2.toList) := by
  have f : ∀ (off : Nat) (vs c : Array Value), vs.zipIdx.foldl (fun cs (x : Value × Nat) => match x with | (v, j) => cs.setIfInBounds (off + j) v) c = setAll c off vs.toList := fun off vs c => fold_set off vs c
  simp only [Instr.fill, Value.cells, f]
  split
  · rename_i hc
    rw [Bool.or_eq_true] at hc
    rcases hc with hc | hc
    · exact absurd h0 (of_decide_eq_true hc)
    · have hc := of_decide_eq_true hc; omega
  · split
    · rename_i hc
      rw [Bool.or_eq_true] at hc
      rcases hc with hc | hc
      · exact absurd h1 (of_decide_eq_true hc)
      · have hc := of_decide_eq_true hc; rw [size_setAll] at hc; omega
    · split
      · rename_i hc
        rw [Bool.or_eq_true] at hc
        rcases hc with hc | hc
        · exact absurd h2 (of_decide_eq_true hc)
        · have hc := of_decide_eq_true hc; rw [size_setAll, size_setAll] at hc; omega
      · rfl
/-- The cells of three sensors in a row. -/
def threeC (Z : Array Value) (S0 S1 S2 : Sen) : Array Value := setAll (setAll (setAll Z (0 * 28) S0.cells.toList) (1 * 28) S1.cells.toList) (2 * 28) S2.cells.toList
theorem three_get {Z : Array Value} (hZ : Z.size = 84) (S0 S1 S2 : Sen) (j : Nat) (hj : j < 28) :
    (threeC Z S0 S1 S2)[0 * 28 + j]? = S0.cells[j]? ∧ (threeC Z S0 S1 S2)[1 * 28 + j]? = S1.cells[j]? ∧ (threeC Z S0 S1 S2)[2 * 28 + j]? = S2.cells[j]? := by
  have l0 : S0.cells.toList.length = 28 := rfl
  have l1 : S1.cells.toList.length = 28 := rfl
  have l2 : S2.cells.toList.length = 28 := rfl
  have g : ∀ (S : Sen), S.cells.toList[j]? = S.cells[j]? := fun S => by simp
  unfold threeC
  refine ⟨?_, ?_, ?_⟩
  · rw [get_setAll _ _ _ _ (by simp [size_setAll]; omega), if_neg (by omega), get_setAll _ _ _ _ (by simp [size_setAll]; omega), if_neg (by omega), get_setAll _ _ _ _ (by omega), if_pos (by omega), show 0 * 28 + j - 0 * 28 = j by omega, g]
  · rw [get_setAll _ _ _ _ (by simp [size_setAll]; omega), if_neg (by omega), get_setAll _ _ _ _ (by simp [size_setAll]; omega), if_pos (by omega), show 1 * 28 + j - 1 * 28 = j by omega, g]
  · rw [get_setAll _ _ _ _ (by simp [size_setAll]; omega), if_pos (by omega), show 2 * 28 + j - 2 * 28 = j by omega, g]
theorem Try.infoSen : (Try.prog.info? 32).map (fun i => (i.zero, i.size)) = some (some zS.val, 28) := by kernel_rfl
/-- A slice literal of three sensors. -/
theorem wp_three {o : Oper} {a : Act} {w : World} {K : Act → World → Prop} {Q : Exit → Act → World → Prop} (x0 x1 x2 : Operand) (ho : o.op = .buildSlice 43 3 #[(0, x0), (1, x1), (2, x2)]) (d : Nat) (hd : o.dst = some d)
    (S0 S1 S2 : Sen) (h0 : a.eval x0 = .agg S0.cells) (h1 : a.eval x1 = .agg S1.cells) (h2 : a.eval x2 = .agg S2.cells)
    (h : ∀ cells : Array Value, (∀ j, j < 28 → cells[0 * 28 + j]? = S0.cells[j]? ∧ cells[1 * 28 + j]? = S1.cells[j]? ∧ cells[2 * 28 + j]? = S2.cells[j]?) →
      K { a with tmps := a.tmps.setIfInBounds d (.slice (some ⟨w.heap.size, 0, none⟩) 3 3) } (w.alloc (.cells cells 32))) : o.wp Try.prog a w K Q := by
  have hi := Try.infoSen
  cases hie : Try.prog.info? 32 with
  | none => rw [hie] at hi; cases hi
  | some ie =>
    rw [hie] at hi
    simp only [Option.map_some, Option.some.injEq, Prod.mk.injEq] at hi
    obtain ⟨hz, hs⟩ := hi
    have hZ : ((Array.range (3 * ie.size)).map (zS.val.cells[· % zS.val.cells.size]!)).size = 84 := by simp [hs]
    refine wp_buildSlice 43 32 3 _ ho (threeC _ S0 S1 S2) ie _ Try.underlying43 hie hz (by rw [hs]; decide) (by rw [hs]; decide) ?_ (by unfold Act.put; rw [hd]; exact h _ (fun j hj => three_get hZ S0 S1 S2 j hj))
    rw [Array.toList_map]
    simp only [List.map_cons, List.map_nil, h0, h1, h2]
    rw [hs] at hZ ⊢
    exact fill_three rfl rfl rfl hZ
end Go.Proofs.Ytgjjmiaiclhidaa

namespace Go.Proofs.Ytgjjmiaiclhidaa
open Go.RowKit

theorem fill_four {k : Nat} {c0 c1 c2 c3 Z : Array Value} (h0 : c0.size = k) (h1 : c1.size = k) (h2 : c2.size = k) (h3 : c3.size = k) (hZ : Z.size = 4 * k) :
    Instr.fill (fun i => some (i * k, k)) Z [(0, .agg c0), (1, .agg c1), (2, .agg c2), (3, .agg c3)] = some (setAll (setAll (setAll (setAll Z (0 * k) c0.toList) (1 * k) c1.toList) (2 * k) c2.toList) (3 * k) c3.toList) := by
  have f : ∀ (off : Nat) (vs c : Array Value), vs.zipIdx.foldl (fun cs (x : Value × Nat) => match x with | (v, j) => cs.setIfInBounds (off + j) v) c = setAll c off vs.toList := fun off vs c => fold_set off vs c
  simp only [Instr.fill, Value.cells, f]
  split
  · rename_i hc
    rw [Bool.or_eq_true] at hc
    rcases hc with hc | hc
    · exact absurd h0 (of_decide_eq_true hc)
    · have hc := of_decide_eq_true hc; omega
  · split
    · rename_i hc
      rw [Bool.or_eq_true] at hc
      rcases hc with hc | hc
      · exact absurd h1 (of_decide_eq_true hc)
      · have hc := of_decide_eq_true hc; rw [size_setAll] at hc; omega
    · split
      · rename_i hc
        rw [Bool.or_eq_true] at hc
        rcases hc with hc | hc
        · exact absurd h2 (of_decide_eq_true hc)
        · have hc := of_decide_eq_true hc; rw [size_setAll, size_setAll] at hc; omega
      · split
        · rename_i hc
          rw [Bool.or_eq_true] at hc
          rcases hc with hc | hc
          · exact absurd h3 (of_decide_eq_true hc)
          · have hc := of_decide_eq_true hc; rw [size_setAll, size_setAll, size_setAll] at hc; omega
        · rfl
/-- The cells of four sensors in a row. -/
def fourC (Z : Array Value) (S0 S1 S2 S3 : Sen) : Array Value := setAll (setAll (setAll (setAll Z (0 * 28) S0.cells.toList) (1 * 28) S1.cells.toList) (2 * 28) S2.cells.toList) (3 * 28) S3.cells.toList
theorem four_get {Z : Array Value} (hZ : Z.size = 112) (S0 S1 S2 S3 : Sen) (j : Nat) (hj : j < 28) :
    (fourC Z S0 S1 S2 S3)[0 * 28 + j]? = S0.cells[j]? ∧ (fourC Z S0 S1 S2 S3)[1 * 28 + j]? = S1.cells[j]? ∧ (fourC Z S0 S1 S2 S3)[2 * 28 + j]? = S2.cells[j]? ∧ (fourC Z S0 S1 S2 S3)[3 * 28 + j]? = S3.cells[j]? := by
  have l0 : S0.cells.toList.length = 28 := rfl
  have l1 : S1.cells.toList.length = 28 := rfl
  have l2 : S2.cells.toList.length = 28 := rfl
  have l3 : S3.cells.toList.length = 28 := rfl
  have g : ∀ (S : Sen), S.cells.toList[j]? = S.cells[j]? := fun S => by simp
  unfold fourC
  refine ⟨?_, ?_, ?_, ?_⟩
  · rw [get_setAll _ _ _ _ (by simp [size_setAll]; omega), if_neg (by omega), get_setAll _ _ _ _ (by simp [size_setAll]; omega), if_neg (by omega), get_setAll _ _ _ _ (by simp [size_setAll]; omega), if_neg (by omega), get_setAll _ _ _ _ (by omega), if_pos (by omega), show 0 * 28 + j - 0 * 28 = j by omega, g]
  · rw [get_setAll _ _ _ _ (by simp [size_setAll]; omega), if_neg (by omega), get_setAll _ _ _ _ (by simp [size_setAll]; omega), if_neg (by omega), get_setAll _ _ _ _ (by simp [size_setAll]; omega), if_pos (by omega), show 1 * 28 + j - 1 * 28 = j by omega, g]
  · rw [get_setAll _ _ _ _ (by simp [size_setAll]; omega), if_neg (by omega), get_setAll _ _ _ _ (by simp [size_setAll]; omega), if_pos (by omega), show 2 * 28 + j - 2 * 28 = j by omega, g]
  · rw [get_setAll _ _ _ _ (by simp [size_setAll]; omega), if_pos (by omega), show 3 * 28 + j - 3 * 28 = j by omega, g]
/-- A slice literal of four sensors. -/
theorem wp_four {o : Oper} {a : Act} {w : World} {K : Act → World → Prop} {Q : Exit → Act → World → Prop} (x0 x1 x2 x3 : Operand) (ho : o.op = .buildSlice 43 4 #[(0, x0), (1, x1), (2, x2), (3, x3)]) (d : Nat) (hd : o.dst = some d)
    (S0 S1 S2 S3 : Sen) (h0 : a.eval x0 = .agg S0.cells) (h1 : a.eval x1 = .agg S1.cells) (h2 : a.eval x2 = .agg S2.cells) (h3 : a.eval x3 = .agg S3.cells)
    (h : ∀ cells : Array Value, (∀ j, j < 28 → cells[0 * 28 + j]? = S0.cells[j]? ∧ cells[1 * 28 + j]? = S1.cells[j]? ∧ cells[2 * 28 + j]? = S2.cells[j]? ∧ cells[3 * 28 + j]? = S3.cells[j]?) →
      K { a with tmps := a.tmps.setIfInBounds d (.slice (some ⟨w.heap.size, 0, none⟩) 4 4) } (w.alloc (.cells cells 32))) : o.wp Try.prog a w K Q := by
  have hi := Try.infoSen
  cases hie : Try.prog.info? 32 with
  | none => rw [hie] at hi; cases hi
  | some ie =>
    rw [hie] at hi
    simp only [Option.map_some, Option.some.injEq, Prod.mk.injEq] at hi
    obtain ⟨hz, hs⟩ := hi
    have hZ : ((Array.range (4 * ie.size)).map (zS.val.cells[· % zS.val.cells.size]!)).size = 112 := by simp [hs]
    refine wp_buildSlice 43 32 4 _ ho (fourC _ S0 S1 S2 S3) ie _ Try.underlying43 hie hz (by rw [hs]; decide) (by rw [hs]; decide) ?_ (by unfold Act.put; rw [hd]; exact h _ (fun j hj => four_get hZ S0 S1 S2 S3 j hj))
    rw [Array.toList_map]
    simp only [List.map_cons, List.map_nil, h0, h1, h2, h3]
    rw [hs] at hZ ⊢
    exact fill_four rfl rfl rfl rfl hZ
end Go.Proofs.Ytgjjmiaiclhidaa
