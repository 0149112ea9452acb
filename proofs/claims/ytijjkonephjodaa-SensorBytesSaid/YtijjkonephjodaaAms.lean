/- Joined texts. The sanity check of the statements about sensor records, and light: contracts. | The dice's Bytes: contract. | A slice literal of three sensors: where each lies. | The reference's Same of sensor records that are equal: contract. -/
import Derived.Test.YtijjkonephjodaaApb
import Derived.Test.YtijjkonephjodaaBld
import Derived.Test.YtijjkonephjodaaDice
import Derived.Test.YtijjkonephjodaaReady
import Derived.Great.BuildSlice
import Derived.Test.YtijjkonephjodaaBkx
import Derived.Test.YtijjkonephjodaaSenBack
import Derived.Test.YtijjkonephjodaaKinds
import Derived.Test.YtijjkonephjodaaDisc
import Derived.BigGuardPart
namespace Go.Proofs.Ytijjkonephjodaa
open Go.RowKit

/-- The sensor of the example. -/
def exK : Sen := ⟨2, 37, 0, ⟨#[80]⟩, 0, 0, true, ⟨0, false, 0, 0, 0, 0, .slice none 0 0⟩, 0, 0, 0, 0, 0, 0, 0, 0, 0, 1, 1, 1, false, 1⟩
theorem exK_is (w : World) : IsSen w exK [] where
  conv := ⟨RdPts.nil w, ⟨by simp, fun i => by simp [default], fun i => by simp [default, I64]⟩, by constructor <;> decide, by constructor <;> decide, by constructor <;> decide, by constructor <;> decide, by constructor <;> decide⟩
  number := by decide
  type := by decide
  unit := by decide
  name := by decide
  eid := by decide
  einst := by decide
  mask := by decide
  raw := fun i => by
    rcases Nat.lt_or_ge i 6 with h | h
    · match i, h with
      | 0, _ | 1, _ | 2, _ | 3, _ | 4, _ | 5, _ => decide
    · unfold Sen.raw; rw [List.getD_eq_getElem?_getD, List.getElem?_eq_none (by simpa using h)]; decide
  hl := by decide
  hu := by decide
  states := by decide
  asrt := by decide
  deas := by decide
  samples := by constructor <;> decide
theorem exK_one : exK.cells.all (·.oneCell') = true := by simp [exK, Sen.cells, Value.oneCell']
theorem exK_valid : validB exK [] = true := by decide +kernel
theorem exK_bytes : seal8 (bodyD exK) = [1, 2, 37, 0, 0, 0, 5, 1, 80, 1, 0, 1, 0, 1, 0, 127] := by decide +kernel
set_option maxRecDepth 100000 in
set_option maxHeartbeats 1000000 in
theorem awakeS_ok (w : World) :
    Calls Try.prog 11 #[] w fun e w' => e = .returned (.bool true) ∧ Mods [] w w' := by
  have HV := Lib.hid exK_valid
  go_enter Try.func11, Try.ntmps11
  go_wp2_with (first
    | (refine wpList_load_sen rfl (.tmp 1) rfl HB.out (by rfl) ?_)
    | (refine wpList_store_row (cs := exK.cells) rfl 32 (.tmp 1) (.tmp 4) rfl (heap_alloc_new w _) (by rfl) (by rfl) rfl exK.infoS exK_one ?_; intro w2 R2 M2; have HB := Lib.hid (show SenBox w2 w.heap.size exK from ⟨R2⟩); have HM : Hid (Mods [] w w2) := Lib.hid ((Mods.refl.alloc _).comp M2 fun k hk => by simp at hk; subst hk; exact .inr (Nat.le_refl _)); clear M2 R2))
  refine (encodeD_ok w2 exK [] (exK_is _) rfl HV.out).mono ?_
  rw [exK_bytes]
  rintro e w3 ⟨v, rfl, O, M3⟩
  have HB3 := Lib.hid (HB.out.mods0 M3)
  have HM3 := Lib.hid (HM.out.trans M3)
  have HR := Lib.hid (Rd.own O)
  clear O M3
  go_wp2_with fail
  have MA := (Mods.refl (S := []) (w := w3)).alloc (.cells #[.int .u8 1, .int .u8 2, .int .u8 37, .int .u8 0, .int .u8 0, .int .u8 0, .int .u8 5, .int .u8 1, .int .u8 80, .int .u8 1, .int .u8 0, .int .u8 1, .int .u8 0, .int .u8 1, .int .u8 0, .int .u8 127] 5)
  have HLIT : Rd (w3.alloc (.cells #[.int .u8 1, .int .u8 2, .int .u8 37, .int .u8 0, .int .u8 0, .int .u8 0, .int .u8 5, .int .u8 1, .int .u8 80, .int .u8 1, .int .u8 0, .int .u8 1, .int .u8 0, .int .u8 1, .int .u8 0, .int .u8 127] 5)) (.slice (some ⟨w3.heap.size, 0, none⟩) 16 16) (u8s [1, 2, 37, 0, 0, 0, 5, 1, 80, 1, 0, 1, 0, 1, 0, 127]) := Rd.own (base := w3.heap.size) (World.ownsRow_lit w3 #[.int .u8 1, .int .u8 2, .int .u8 37, .int .u8 0, .int .u8 0, .int .u8 0, .int .u8 5, .int .u8 1, .int .u8 80, .int .u8 1, .int .u8 0, .int .u8 1, .int .u8 0, .int .u8 1, .int .u8 0, .int .u8 127] 16 (Nat.le_refl _) (by decide) rfl)
  refine (same_ok _ _ _ _ _ (HR.out.mods0 MA) HLIT).mono ?_
  rintro e w4 ⟨rfl, n4, rfl⟩
  have MB := MA.drewN n4
  have HB4 := Lib.hid (HB3.out.mods0 MB)
  have HM4 := Lib.hid (HM3.out.trans MB)
  generalize (w3.alloc (.cells #[.int .u8 1, .int .u8 2, .int .u8 37, .int .u8 0, .int .u8 0, .int .u8 0, .int .u8 5, .int .u8 1, .int .u8 80, .int .u8 1, .int .u8 0, .int .u8 1, .int .u8 0, .int .u8 1, .int .u8 0, .int .u8 127] 5)).drewN n4 = w4 at HB4 HM4 ⊢
  clear MA MB HLIT HR
  rw [show (([1, 2, 37, 0, 0, 0, 5, 1, 80, 1, 0, 1, 0, 1, 0, 127] : List Int) == [1, 2, 37, 0, 0, 0, 5, 1, 80, 1, 0, 1, 0, 1, 0, 127]) = true by decide]
  go_wp2_with (refine wpList_load_senG (by rfl) (.tmp 1) rfl HB4.out (by rfl) ?_)
  refine (valid_ok w4 exK [] (exK_is _)).mono ?_
  rw [HV.out]
  rintro e w5 ⟨rfl, M5⟩
  go_wp2
  go_ret
  exact ⟨rfl, HM4.out.trans M5⟩
end Go.Proofs.Ytijjkonephjodaa

namespace Go.Proofs.Ytijjkonephjodaa
open Go.RowKit

/-- Bytes of the dice, at most n of them. -/
def MadeB (w : World) (b : Nat) (v : Value) (L : List Int) (N : Int) (e : Ending) (w' : World) : Prop :=
  ∃ (u : Value) (A : List Int) (n : Nat), e = .returned u ∧ OwnB w' w.heap.size u A ∧ Bytes A ∧ (A.length : Int) ≤ N ∧ IsDice w' b v L n ∧ Mods [b] w w'
set_option maxRecDepth 100000 in
set_option maxHeartbeats 2000000 in
theorem bytesM_ok (w : World) (b : Nat) (v : Value) (L : List Int) (n : Nat) (h : IsDice w b v L n) (N : Int) (hN : 0 ≤ N ∧ N ≤ 1000) :
    Calls Try.prog 21 #[.pointer (some ⟨b, 0, none⟩), .int .i64 N] w fun e w' => MadeB w b v L N e w' := by
  have hbl := h.lt
  have H := Lib.hid h
  have hv := Lib.hid h.vlt
  obtain ⟨hN0, hN1⟩ := hN
  clear h
  go_enter Try.func21, Try.ntmps21
  go_wp2_with fail
  refine (next_ok w b v L n H.out (N + 1) (by omega) (by omega)).mono ?_
  rintro e w2 ⟨r, n2, rfl, r0, r1, D2, M2⟩
  have HD := Lib.hid D2
  have HM := Lib.hid M2
  have hw2 := M2.size
  clear D2 M2
  obtain ⟨R, rfl⟩ := Int.eq_ofNat_of_zero_le r0
  go_wp2_with fail
  go_loopw [5, 6] (fun l i wr => ∃ (k : Nat) (A : List Int) (n' : Nat), k + A.length = R ∧ i = .int .i64 k ∧ Bytes A ∧ OwnB wr w2.heap.size l A ∧ IsDice wr b v L n' ∧ Mods [b] w2 wr) (fun _ i _ => (intOf i).toNat)
  case atStart => exact ⟨R, [], n2, by simp, rfl, fun i => by simp, OwnB.nil _ _, HD.out, Mods.refl⟩
  case round =>
    obtain ⟨k, A, n3, hk, rfl, hb, O, D, M⟩ := hrel
    have HB := Lib.hid hb
    have HO := Lib.hid O
    have HD3 := Lib.hid D
    have HM3 := Lib.hid M
    have hwr := M.size
    clear hb O D M
    by_cases h0 : 0 < k
    · have i1 : (0 : Int) < (k : Int) := by omega
      go_wp2_with fail
      refine (byte_ok wr b v L n3 HD3.out).mono ?_
      rintro e w4 ⟨x, n4, rfl, x0, x1, D4, M4⟩
      have HD4 := Lib.hid D4
      have hw4 := M4.size
      have HO4 := Lib.hid (HO.out.mods M4 (fun q hq => by have := (HO.out.lt q hq).1; simp; omega))
      have HM4 := Lib.hid (HM3.out.trans M4)
      clear D4 M4
      go_wp2_with (at_builtin; refine wpList_appB (by rfl) (.tmp 15) (.tmp 18) rfl (by rfl) (HO4.out.mods0 (Mods.refl.alloc _)) (by rfl) (OwnB.lit w4 (Nat.le_refl _) [x] (by unfold maxLen; simp)).rd (by simp; omega) (by simp; omega) ?_; intro vB wB OB MB; have HOB := Lib.hid OB; have HDB := Lib.hid ((HD4.out.mods0 (Mods.refl.alloc _)).mods MB (fun hm => by have := HO4.out.back hm; omega) (fun hl q hq hm => by have h1 := HO4.out.back hm; have h2 := hv.out hl q hq; omega)); have HMB := Lib.hid ((HM4.out.alloc (.cells (u8s [x]).toArray 5)).comp MB (fun q hq => .inr (HO4.out.back hq))); clear OB MB)
      refine ⟨⟨k - 1, A ++ [x], n4, by simp; omega, by go_num, ?_, HOB.out, HDB.out, HMB.out⟩, by simp only [intOf]; omega⟩
      intro i
      have := HB.out
      rcases Nat.lt_trichotomy i A.length with hi | hi | hi
      · have h5 := this i
        rw [List.getD_eq_getElem?_getD, List.getElem?_append_left hi, ← List.getD_eq_getElem?_getD]
        exact h5
      · rw [List.getD_eq_getElem?_getD, hi, List.getElem?_append_right (Nat.le_refl _)]
        simp
        omega
      · rw [List.getD_eq_getElem?_getD, List.getElem?_eq_none (by simp; omega)]
        simp
    · have i1 : ¬ (0 : Int) < (k : Int) := by omega
      go_wp2_with fail
      go_ret
      exact ⟨_, A, n3, rfl, HO.out.down (by omega), HB.out, by omega, HD3.out, HM.out.trans HM3.out⟩
end Go.Proofs.Ytijjkonephjodaa

namespace Go.Proofs.Ytijjkonephjodaa
open Go.RowKit

theorem fold_zip (off : Nat) : ∀ (l : List Value) (k : Nat) (c : Array Value), (l.zipIdx k).foldl (fun cs x => cs.setIfInBounds (off + x.2) x.1) c = setAll c (off + k) l
  | [], _, _ => rfl
  | v :: l, k, c => by
    rw [List.zipIdx_cons, List.foldl_cons, fold_zip off l (k + 1)]
    rfl
theorem fold_set (off : Nat) (vs c : Array Value) : vs.zipIdx.foldl (fun cs x => cs.setIfInBounds (off + x.2) x.1) c = setAll c off vs.toList := by
  rw [← Array.foldl_toList, Array.toList_zipIdx, fold_zip]; rfl
theorem fill_three {k : Nat} {c0 c1 c2 Z : Array Value} (h0 : c0.size = k) (h1 : c1.size = k) (h2 : c2.size = k) (hZ : Z.size = 3 * k) :
    Instr.fill (fun i => some (i * k, k)) Z [(0, .agg c0), (1, .agg c1), (2, .agg c2)] = some (setAll (setAll (setAll Z (0 * k) c0.toList) (1 * k) c1.toList) (2 * k) c2.toList) := by
  have f : ∀ (off : Nat) (vs c : Array Value), vs.zipIdx.foldl (fun cs (x : Value × Nat) => match x with | (v, j) => cs.setIfInBounds (off + j) v) c = setAll c off vs.toList := fun off vs c => fold_set off vs c
  simp only [Instr.fill, Value.cells, f]
  split
  · rename_i hc
    rw [Bool.or_eq_true] at hc
    rcases hc with hc | hc
    · exact absurd h0 (of_decide_eq_true hc)
    · have hc := of_decide_eq_true hc; omega
  · split
    · rename_i hc
      rw [Bool.or_eq_true] at hc
      rcases hc with hc | hc
      · exact absurd h1 (of_decide_eq_true hc)
      · have hc := of_decide_eq_true hc; rw [size_setAll] at hc; omega
    · split
      · rename_i hc
        rw [Bool.or_eq_true] at hc
        rcases hc with hc | hc
        · exact absurd h2 (of_decide_eq_true hc)
        · have hc := of_decide_eq_true hc; rw [size_setAll, size_setAll] at hc; omega
      · rfl
/-- The cells of three sensors in a row. -/
def threeC (Z : Array Value) (S0 S1 S2 : Sen) : Array Value := setAll (setAll (setAll Z (0 * 28) S0.cells.toList) (1 * 28) S1.cells.toList) (2 * 28) S2.cells.toList
theorem three_get {Z : Array Value} (hZ : Z.size = 84) (S0 S1 S2 : Sen) (j : Nat) (hj : j < 28) :
    (threeC Z S0 S1 S2)[0 * 28 + j]? = S0.cells[j]? ∧ (threeC Z S0 S1 S2)[1 * 28 + j]? = S1.cells[j]? ∧ (threeC Z S0 S1 S2)[2 * 28 + j]? = S2.cells[j]? := by
  have l0 : S0.cells.toList.length = 28 := rfl
  have l1 : S1.cells.toList.length = 28 := rfl
  have l2 : S2.cells.toList.length = 28 := rfl
  have g : ∀ (S : Sen), S.cells.toList[j]? = S.cells[j]? := fun S => by simp
  unfold threeC
  refine ⟨?_, ?_, ?_⟩
  · rw [get_setAll _ _ _ _ (by simp [size_setAll]; omega), if_neg (by omega), get_setAll _ _ _ _ (by simp [size_setAll]; omega), if_neg (by omega), get_setAll _ _ _ _ (by omega), if_pos (by omega), show 0 * 28 + j - 0 * 28 = j by omega, g]
  · rw [get_setAll _ _ _ _ (by simp [size_setAll]; omega), if_neg (by omega), get_setAll _ _ _ _ (by simp [size_setAll]; omega), if_pos (by omega), show 1 * 28 + j - 1 * 28 = j by omega, g]
  · rw [get_setAll _ _ _ _ (by simp [size_setAll]; omega), if_pos (by omega), show 2 * 28 + j - 2 * 28 = j by omega, g]
theorem Try.infoSen : (Try.prog.info? 32).map (fun i => (i.zero, i.size)) = some (some zS.val, 28) := by kernel_rfl
/-- A slice literal of three sensors. -/
theorem wp_three {o : Oper} {a : Act} {w : World} {K : Act → World → Prop} {Q : Exit → Act → World → Prop} (x0 x1 x2 : Operand) (ho : o.op = .buildSlice 43 3 #[(0, x0), (1, x1), (2, x2)]) (d : Nat) (hd : o.dst = some d)
    (S0 S1 S2 : Sen) (h0 : a.eval x0 = .agg S0.cells) (h1 : a.eval x1 = .agg S1.cells) (h2 : a.eval x2 = .agg S2.cells)
    (h : ∀ cells : Array Value, (∀ j, j < 28 → cells[0 * 28 + j]? = S0.cells[j]? ∧ cells[1 * 28 + j]? = S1.cells[j]? ∧ cells[2 * 28 + j]? = S2.cells[j]?) →
      K { a with tmps := a.tmps.setIfInBounds d (.slice (some ⟨w.heap.size, 0, none⟩) 3 3) } (w.alloc (.cells cells 32))) : o.wp Try.prog a w K Q := by
  have hi := Try.infoSen
  cases hie : Try.prog.info? 32 with
  | none => rw [hie] at hi; cases hi
  | some ie =>
    rw [hie] at hi
    simp only [Option.map_some, Option.some.injEq, Prod.mk.injEq] at hi
    obtain ⟨hz, hs⟩ := hi
    have hZ : ((Array.range (3 * ie.size)).map (zS.val.cells[· % zS.val.cells.size]!)).size = 84 := by simp [hs]
    refine wp_buildSlice 43 32 3 _ ho (threeC _ S0 S1 S2) ie _ Try.underlying43 hie hz (by rw [hs]; decide) (by rw [hs]; decide) ?_ (by unfold Act.put; rw [hd]; exact h _ (fun j hj => three_get hZ S0 S1 S2 j hj))
    rw [Array.toList_map]
    simp only [List.map_cons, List.map_nil, h0, h1, h2]
    rw [hs] at hZ ⊢
    exact fill_three rfl rfl rfl hZ
end Go.Proofs.Ytijjkonephjodaa

namespace Go.Proofs.Ytijjkonephjodaa
open Go.RowKit

theorem sent_eq (x y x' y' : Int) (w : World) :
    (binOp .eql 23 (.agg #[.int .u8 x, .int .u8 y]) (.agg #[.int .u8 x', .int .u8 y'])).run Try.prog w = .ok (.bool (x == x' && y == y')) w := by
  simp [go_sem, part]
  by_cases h : x = x' <;> by_cases h2 : y = y' <;> simp [h, h2]
set_option maxRecDepth 100000 in
set_option maxHeartbeats 4000000 in
theorem refSame10_ok (w : World) (S : Sen) (P : List Pt) (pa pb : Value) (ha : IsConv w (S.conv.with pa) P) (hb : IsConv w (S.conv.with pb) P) :
    Calls Try.prog 25 #[.agg (S.with pa).cells, .agg (S.with pb).cells] w fun e w' => e = .returned (.bool true) ∧ Mods [] w w' := by
  have HC := Lib.hid (fun W (M : Mods [] w W) => same04_ok W _ _ P P (ha.mods0 M) (hb.mods0 M))
  rw [show sameC (S.conv.with pa) P (S.conv.with pb) P = true from sameC_refl ⟨rfl, rfl, rfl, rfl, rfl, rfl⟩] at HC
  have HM0 := Lib.hid (((Mods.refl (S := []) (w := w)).alloc (.cells (S.with pa).cells 32)).alloc (.cells (S.with pb).cells 32))
  have a0 : (S.with pa).cells[0]? = some (.int .u8 S.number) := rfl
  have a1 : (S.with pa).cells[1]? = some (.int .u8 S.type) := rfl
  have a2 : (S.with pa).cells[2]? = some (.int .u8 S.unit) := rfl
  have a3 : (S.with pa).cells[3]? = some (.string S.name) := rfl
  have a4 : (S.with pa).cells[4]? = some (.int .u8 S.eid) := rfl
  have a5 : (S.with pa).cells[5]? = some (.int .u8 S.einst) := rfl
  have a6 : (S.with pa).cells[6]? = some (.bool S.disc) := rfl
  have a7 : (S.with pa).cells[7]? = some (.int .i64 S.conv.form) := rfl
  have a8 : (S.with pa).cells[8]? = some (.bool S.conv.sgn) := rfl
  have a9 : (S.with pa).cells[9]? = some (.int .i64 S.conv.m) := rfl
  have a10 : (S.with pa).cells[10]? = some (.int .i64 S.conv.b) := rfl
  have a11 : (S.with pa).cells[11]? = some (.int .i64 S.conv.k1) := rfl
  have a12 : (S.with pa).cells[12]? = some (.int .i64 S.conv.k2) := rfl
  have a13 : (S.with pa).cells[13]? = some (pa) := rfl
  have a14 : (S.with pa).cells[14]? = some (.int .u8 S.mask) := rfl
  have a15 : (S.with pa).cells[15]? = some (.int .u8 S.r0) := rfl
  have a16 : (S.with pa).cells[16]? = some (.int .u8 S.r1) := rfl
  have a17 : (S.with pa).cells[17]? = some (.int .u8 S.r2) := rfl
  have a18 : (S.with pa).cells[18]? = some (.int .u8 S.r3) := rfl
  have a19 : (S.with pa).cells[19]? = some (.int .u8 S.r4) := rfl
  have a20 : (S.with pa).cells[20]? = some (.int .u8 S.r5) := rfl
  have a21 : (S.with pa).cells[21]? = some (.int .u8 S.hl) := rfl
  have a22 : (S.with pa).cells[22]? = some (.int .u8 S.hu) := rfl
  have a23 : (S.with pa).cells[23]? = some (.int .u16 S.states) := rfl
  have a24 : (S.with pa).cells[24]? = some (.int .u16 S.asrt) := rfl
  have a25 : (S.with pa).cells[25]? = some (.int .u16 S.deas) := rfl
  have a26 : (S.with pa).cells[26]? = some (.bool S.host) := rfl
  have a27 : (S.with pa).cells[27]? = some (.int .i64 S.samples) := rfl
  have b0 : (S.with pb).cells[0]? = some (.int .u8 S.number) := rfl
  have b1 : (S.with pb).cells[1]? = some (.int .u8 S.type) := rfl
  have b2 : (S.with pb).cells[2]? = some (.int .u8 S.unit) := rfl
  have b3 : (S.with pb).cells[3]? = some (.string S.name) := rfl
  have b4 : (S.with pb).cells[4]? = some (.int .u8 S.eid) := rfl
  have b5 : (S.with pb).cells[5]? = some (.int .u8 S.einst) := rfl
  have b6 : (S.with pb).cells[6]? = some (.bool S.disc) := rfl
  have b7 : (S.with pb).cells[7]? = some (.int .i64 S.conv.form) := rfl
  have b8 : (S.with pb).cells[8]? = some (.bool S.conv.sgn) := rfl
  have b9 : (S.with pb).cells[9]? = some (.int .i64 S.conv.m) := rfl
  have b10 : (S.with pb).cells[10]? = some (.int .i64 S.conv.b) := rfl
  have b11 : (S.with pb).cells[11]? = some (.int .i64 S.conv.k1) := rfl
  have b12 : (S.with pb).cells[12]? = some (.int .i64 S.conv.k2) := rfl
  have b13 : (S.with pb).cells[13]? = some (pb) := rfl
  have b14 : (S.with pb).cells[14]? = some (.int .u8 S.mask) := rfl
  have b15 : (S.with pb).cells[15]? = some (.int .u8 S.r0) := rfl
  have b16 : (S.with pb).cells[16]? = some (.int .u8 S.r1) := rfl
  have b17 : (S.with pb).cells[17]? = some (.int .u8 S.r2) := rfl
  have b18 : (S.with pb).cells[18]? = some (.int .u8 S.r3) := rfl
  have b19 : (S.with pb).cells[19]? = some (.int .u8 S.r4) := rfl
  have b20 : (S.with pb).cells[20]? = some (.int .u8 S.r5) := rfl
  have b21 : (S.with pb).cells[21]? = some (.int .u8 S.hl) := rfl
  have b22 : (S.with pb).cells[22]? = some (.int .u8 S.hu) := rfl
  have b23 : (S.with pb).cells[23]? = some (.int .u16 S.states) := rfl
  have b24 : (S.with pb).cells[24]? = some (.int .u16 S.asrt) := rfl
  have b25 : (S.with pb).cells[25]? = some (.int .u16 S.deas) := rfl
  have b26 : (S.with pb).cells[26]? = some (.bool S.host) := rfl
  have b27 : (S.with pb).cells[27]? = some (.int .i64 S.samples) := rfl
  have hle := fun W => lims_eq (S.mask : Int) (S.r0 : Int) (S.r1 : Int) (S.r2 : Int) (S.r3 : Int) (S.r4 : Int) (S.r5 : Int) (S.mask : Int) (S.r0 : Int) (S.r1 : Int) (S.r2 : Int) (S.r3 : Int) (S.r4 : Int) (S.r5 : Int) W
  have hlz : (((S.mask : Int) == S.mask) && (((S.r0 : Int) == S.r0) && ((S.r1 : Int) == S.r1) && ((S.r2 : Int) == S.r2) && ((S.r3 : Int) == S.r3) && ((S.r4 : Int) == S.r4) && ((S.r5 : Int) == S.r5))) = true := by simp
  rw [hlz] at hle
  clear hlz ha hb
  have hen := fun W => sent_eq (S.eid : Int) (S.einst : Int) (S.eid : Int) (S.einst : Int) W
  have hez : ((S.eid : Int) == S.eid && (S.einst : Int) == S.einst) = true := by simp
  rw [hez] at hen
  clear hez
  have hbd : (S.disc == S.disc) = true := by cases S.disc <;> rfl
  have hbh : (S.host == S.host) = true := by cases S.host <;> rfl
  go_enter Try.func25, Try.ntmps25
  go_wp2_with fail
  refine (HC.out _ HM0.out).mono ?_
  rintro e w1 ⟨rfl, M1⟩
  have HM1 := Lib.hid (HM0.out.trans M1)
  have BA : Hid (SenBox w1 w.heap.size (S.with pa)) := Lib.hid ((SenBox.mk (heap_alloc (o' := .cells (S.with pb).cells 32) (heap_alloc_new w (.cells (S.with pa).cells 32)))).mods0 M1)
  have BB : Hid (SenBox w1 (w.heap.size + 1) (S.with pb)) := Lib.hid (by
    have h := heap_alloc_new (w.alloc (.cells (S.with pa).cells 32)) (.cells (S.with pb).cells 32)
    rw [World.size_alloc] at h
    exact (SenBox.mk h).mods0 M1)
  clear M1
  have p14 : w1.cell? ⟨w.heap.size, 14, none⟩ = some (.int .u8 S.mask) := (BA.out.c 14).trans rfl
  have q14 : w1.cell? ⟨w.heap.size + 1, 14, none⟩ = some (.int .u8 S.mask) := (BB.out.c 14).trans rfl
  have p15 : w1.cell? ⟨w.heap.size, 15, none⟩ = some (.int .u8 S.r0) := (BA.out.c 15).trans rfl
  have q15 : w1.cell? ⟨w.heap.size + 1, 15, none⟩ = some (.int .u8 S.r0) := (BB.out.c 15).trans rfl
  have p16 : w1.cell? ⟨w.heap.size, 16, none⟩ = some (.int .u8 S.r1) := (BA.out.c 16).trans rfl
  have q16 : w1.cell? ⟨w.heap.size + 1, 16, none⟩ = some (.int .u8 S.r1) := (BB.out.c 16).trans rfl
  have p17 : w1.cell? ⟨w.heap.size, 17, none⟩ = some (.int .u8 S.r2) := (BA.out.c 17).trans rfl
  have q17 : w1.cell? ⟨w.heap.size + 1, 17, none⟩ = some (.int .u8 S.r2) := (BB.out.c 17).trans rfl
  have p18 : w1.cell? ⟨w.heap.size, 18, none⟩ = some (.int .u8 S.r3) := (BA.out.c 18).trans rfl
  have q18 : w1.cell? ⟨w.heap.size + 1, 18, none⟩ = some (.int .u8 S.r3) := (BB.out.c 18).trans rfl
  have p19 : w1.cell? ⟨w.heap.size, 19, none⟩ = some (.int .u8 S.r4) := (BA.out.c 19).trans rfl
  have q19 : w1.cell? ⟨w.heap.size + 1, 19, none⟩ = some (.int .u8 S.r4) := (BB.out.c 19).trans rfl
  have p20 : w1.cell? ⟨w.heap.size, 20, none⟩ = some (.int .u8 S.r5) := (BA.out.c 20).trans rfl
  have q20 : w1.cell? ⟨w.heap.size + 1, 20, none⟩ = some (.int .u8 S.r5) := (BB.out.c 20).trans rfl
  have p21 : w1.cell? ⟨w.heap.size, 21, none⟩ = some (.int .u8 S.hl) := (BA.out.c 21).trans rfl
  have q21 : w1.cell? ⟨w.heap.size + 1, 21, none⟩ = some (.int .u8 S.hl) := (BB.out.c 21).trans rfl
  have p22 : w1.cell? ⟨w.heap.size, 22, none⟩ = some (.int .u8 S.hu) := (BA.out.c 22).trans rfl
  have q22 : w1.cell? ⟨w.heap.size + 1, 22, none⟩ = some (.int .u8 S.hu) := (BB.out.c 22).trans rfl
  have p23 : w1.cell? ⟨w.heap.size, 23, none⟩ = some (.int .u16 S.states) := (BA.out.c 23).trans rfl
  have q23 : w1.cell? ⟨w.heap.size + 1, 23, none⟩ = some (.int .u16 S.states) := (BB.out.c 23).trans rfl
  have p24 : w1.cell? ⟨w.heap.size, 24, none⟩ = some (.int .u16 S.asrt) := (BA.out.c 24).trans rfl
  have q24 : w1.cell? ⟨w.heap.size + 1, 24, none⟩ = some (.int .u16 S.asrt) := (BB.out.c 24).trans rfl
  have p25 : w1.cell? ⟨w.heap.size, 25, none⟩ = some (.int .u16 S.deas) := (BA.out.c 25).trans rfl
  have q25 : w1.cell? ⟨w.heap.size + 1, 25, none⟩ = some (.int .u16 S.deas) := (BB.out.c 25).trans rfl
  have p26 : w1.cell? ⟨w.heap.size, 26, none⟩ = some (.bool S.host) := (BA.out.c 26).trans rfl
  have q26 : w1.cell? ⟨w.heap.size + 1, 26, none⟩ = some (.bool S.host) := (BB.out.c 26).trans rfl
  have p27 : w1.cell? ⟨w.heap.size, 27, none⟩ = some (.int .i64 S.samples) := (BA.out.c 27).trans rfl
  have q27 : w1.cell? ⟨w.heap.size + 1, 27, none⟩ = some (.int .i64 S.samples) := (BB.out.c 27).trans rfl
  go_wp2_with fail
  go_ret
  exact ⟨rfl, HM1.out⟩
end Go.Proofs.Ytijjkonephjodaa
