/- Joined texts. sampling.Reading: contract. | The reference's Reading of a filter: contract. | Entities and associations as plain data: parents, what is around, what is wrong with a list. No program stands here. | What is within an entity, sorted; presence and health: plain laws. No program stands here. | Slices of structs of any kind: how one reads, one of the call's own, append. No function of the program stands here. | Entities, associations and conditions in memory: kinds of elements, comparison. | entity.Parent, slices.Index and Contains of entities: contracts. | entity.Parent, the reference's Parent, slices.Index and Contains of entities: contracts. -/
import Derived.Test.YtijjkonephjodaaGreatDoorJoAG
import Derived.Test.YtijjkonephjodaaGreatDoorJoAH
import Derived.Test.YtijjkonephjodaaGreatDoorJoAA
import Derived.BigGuardPart
import Derived.Test.YtijjkonephjodaaGreatDoorJoAE
namespace Go.Proofs.YtijjkonephjodaaGreatDoor
open Go.RowKit

def rdB (S : Sen) (P : List Pt) (W : List Int) (n : Int) : Bool := fltB S P W n && decide ((W.length : Int) = S.samples)
theorem rdB_eq (S : Sen) (P : List Pt) (W : List Int) (n : Int) : rdB S P W n = (fltB S P W n && decide ((W.length : Int) = S.samples)) := rfl
def ReadRes (w : World) (b sgn : Bool) (W : List Int) (e : Ending) (w' : World) : Prop :=
  if b = true then ∃ m, e = .returned (.tuple #[.int .u8 m, .bool true]) ∧ IsMed sgn W m ∧ Mods [] w w' else e = .returned (.tuple #[.int .u8 0, .bool false]) ∧ Mods [] w w'
theorem ret_twoB {k : IntKind} {a b : Int} {p q : Bool} (h : a = b) (h2 : p = q) : Ending.returned (.tuple #[.int k a, .bool p]) = .returned (.tuple #[.int k b, .bool q]) := by rw [h, h2]
set_option maxRecDepth 100000 in
set_option maxHeartbeats 4000000 in
theorem samReading_ok (w : World) (S : Sen) (P : List Pt) (win : Value) (W : List Int) (n : Int) (hS : IsSen w S P) (hF : IsFlt w win W n) :
    Calls Tryz.prog 57 #[.agg S.cells, .agg #[win, .int .i64 n]] w fun e w' => ReadRes w (rdB S P W n) S.conv.sgn W e w' := by
  have HS := Lib.hid hS
  have HF := Lib.hid hF
  obtain ⟨ad, cap, rfl, h1, h2, -⟩ := hF.rd.u8
  have h3 : cap ≤ 9223372036854775807 := h2
  have hlen := hF.len
  clear hS hF h2
  have R1 := heap_alloc_new (w.alloc (.cells S.cells 40)) (.cells #[.slice ad W.length cap, .int .i64 n] 123)
  rw [World.size_alloc] at R1
  have HB := Lib.hid (SenBox.mk (heap_alloc (o' := .cells #[.slice ad W.length cap, .int .i64 n] 123) (heap_alloc_new w (.cells S.cells 40))))
  have HR1 := Lib.hid R1
  have HM0 := Lib.hid (((Mods.refl (S := []) (w := w)).alloc (.cells S.cells 40)).alloc (.cells #[.slice ad W.length cap, .int .i64 n] 123))
  obtain ⟨_, _, _, _, _, _, x27⟩ := S.restc
  clear R1
  obtain ⟨_, x8, _, _, _, _, _⟩ := S.convc
  have HA := Lib.hid (rdB_eq S P W n)
  generalize rdB S P W n = r at HA ⊢
  go_enter Tryz.func57, Tryz.ntmps57
  go_wp2_with (refine wpList_load_sen rfl (.tmp 2) rfl HB.out (by rfl) ?_)
  refine (samValid_ok _ S P _ W n (HS.out.mods0 HM0.out) (HF.out.mods0 HM0.out)).mono ?_
  rintro e w1 ⟨rfl, M1⟩
  have HM1 := Lib.hid (HM0.out.trans M1)
  have RB := (M1.heap HB.out.blk (by simp))
  have RF := (M1.heap HR1.out (by simp))
  have hw1 := M1.size
  simp only [World.size_alloc] at hw1
  have y0 : w1.cell? ⟨w.heap.size, 27, none⟩ = some (.int .i64 S.samples) := (cell_blk RB 27).trans x27
  have y1 : w1.cell? ⟨w.heap.size + 1, 0, none⟩ = some (.slice ad W.length cap) := (cell_blk RF 0).trans rfl
  have HS8 := Lib.hid (show w1.cell? ⟨w.heap.size, 8, none⟩ = some (.bool S.conv.sgn) from (cell_blk RB 8).trans x8)
  have HF1 := Lib.hid (HF.out.mods0 HM1.out)
  clear M1 RB RF HB HR1 HM0 HS HF x27 x8
  cases hb : fltB S P W n with
  | false =>
    have hb2 := Lib.hid hb
    clear hb
    obtain rfl : r = false := by rw [HA.out]; (rw [hb2.out]; rfl)
    go_wp2_with fail
    go_ret2
    exact ⟨rfl, HM1.out⟩
  | true =>
    have hsam := flt_samples hb
    have hb2 := Lib.hid hb
    clear hb
    by_cases hl : (W.length : Int) = S.samples
    · obtain rfl : r = true := by rw [HA.out, hb2.out, decide_eq_true hl]; rfl
      have e0 : ((W.length : Int) != S.samples) = false := by simpa using hl
      have hW1 : 1 ≤ W.length := by omega
      obtain ⟨ad', cap', he, -, -, hc⟩ := HF1.out.rd.u8
      injection he with he1 he2 he3
      subst he1 he3
      obtain ⟨bb, off, rfl, x0⟩ := hc 0 (by omega)
      have hbb := World.block_lt_of_cell? w1 _ x0
      have HCC := Lib.hid (fun i (hi : i < W.length) => show w1.cell? ⟨bb, off + i, none⟩ = some (.int .u8 (W.getD i 0)) from by
        obtain ⟨b', o', he, hx⟩ := hc i hi
        cases he
        exact hx)
      have HBy := Lib.hid HF1.out.byt
      have hlt : w.heap.size < w1.heap.size := by omega
      clear hc x0 HA hl he2
      go_wp2_with fail
      refine (values_ok _ w1 _ _ _ rfl).mono ?_
      rintro e w2 ⟨rfl, hw2⟩
      have M2 : Mods [] w1 w2 := by rw [hw2]; exact Mods.refl.alloc _
      have B2 : w2.cell? ⟨w1.heap.size, 0, none⟩ = some (.slice (some ⟨bb, off, none⟩) W.length cap) := by rw [hw2]; exact (cell_blk (heap_alloc_new w1 _) 0).trans rfl
      have hz2 : w2.heap.size = w1.heap.size + 1 := by rw [hw2]; simp
      have HSO := Lib.hid (sortedFunc_ok S.conv.sgn w.heap.size w1.heap.size bb off cap W (by omega) hW1 HBy.out w2 (by omega) (by omega) (M2.cell HS8.out (by simp)) B2 (fun i hi => M2.cell (HCC.out i hi) (by simp)))
      have HM2 := Lib.hid (HM1.out.trans M2)
      clear M2 B2 hw2 HS8 HCC
      go_wp2_with fail
      refine HSO.out.mono ?_
      rintro e w3 ⟨v, l, rfl, hrd, hp, hso, M3⟩
      have hmed := med_sorted (sgn := S.conv.sgn) (bytes_mem HBy.out) hp hso (by omega)
      have hll := hp.length_eq
      rw [← hll] at hmed
      obtain ⟨ad3, cap3, rfl, -, -, hc3⟩ := hrd.u8
      have hlt3 : l.length / 2 < l.length := by omega
      obtain ⟨b3, o3, rfl, c3⟩ := hc3 _ hlt3
      have i0 : (0 : Int) ≤ (l.length : Int) / 2 := by omega
      have i1 : (l.length : Int) / 2 < (l.length : Int) := by omega
      have i2 : ((l.length : Int) / 2).toNat = l.length / 2 := by omega
      have HME := Lib.hid hmed
      have HM3 := Lib.hid (HM2.out.trans M3)
      generalize l.getD (l.length / 2) 0 = m at c3 HME
      clear hc3 hrd hp hso hmed M3 HSO
      rw [hll] at c3 i0 i1 i2 ⊢
      clear hll hlt3
      go_wp2_with fail
      go_ret2
      exact ⟨m, rfl, HME.out, HM3.out⟩
    · have e0 : ((W.length : Int) != S.samples) = true := by simpa using hl
      obtain rfl : r = false := by rw [HA.out]; (rw [hb2.out, decide_eq_false hl]; rfl)
      go_wp2_with fail
      go_ret2
      exact ⟨rfl, HM1.out⟩
end Go.Proofs.YtijjkonephjodaaGreatDoor

namespace Go.Proofs.YtijjkonephjodaaGreatDoor
open Go.RowKit

theorem refNumZ_ok (sgn : Bool) (x : Int) (hx : 0 ≤ x ∧ x ≤ 255) (w : World) : Calls Tryz.prog 140 #[.bool sgn, .int .u8 x] w fun e w' => e = .returned (.int .i64 (numZ sgn x)) ∧ w = w' := by
  obtain ⟨r, rfl⟩ := Int.eq_ofNat_of_zero_le hx.1
  exact refNumber_ok sgn r (by omega) w
theorem befN_succ (sgn : Bool) (W : List Int) (i k : Nat) : befN sgn W i (k + 1) = befN sgn W i k + if numZ sgn (W.getD k 0) < numZ sgn (W.getD i 0) ∨ (numZ sgn (W.getD k 0) = numZ sgn (W.getD i 0) ∧ k < i) then 1 else 0 := rfl
theorem numZ_bd {sgn : Bool} {x : Int} (hx : 0 ≤ x ∧ x ≤ 255) : -128 ≤ numZ sgn x ∧ numZ sgn x ≤ 255 := numI_bd (by omega)
set_option maxRecDepth 100000 in
set_option maxHeartbeats 8000000 in
theorem refReading_ok (w : World) (S : Sen) (P : List Pt) (win : Value) (W : List Int) (n : Int) (hS : IsSen w S P) (hF : IsFlt w win W n) :
    Calls Tryz.prog 108 #[.agg S.cells, .agg #[win, .int .i64 n]] w fun e w' => ReadRes w (rdB S P W n) S.conv.sgn W e w' := by
  have HS := Lib.hid hS
  have HF := Lib.hid hF
  obtain ⟨ad, cap, rfl, h1, h2, -⟩ := hF.rd.u8
  have h3 : cap ≤ 9223372036854775807 := h2
  have hlen := hF.len
  clear hS hF h2
  have R1 := heap_alloc_new (w.alloc (.cells S.cells 40)) (.cells #[.slice ad W.length cap, .int .i64 n] 123)
  rw [World.size_alloc] at R1
  have HB := Lib.hid (SenBox.mk (heap_alloc (o' := .cells #[.slice ad W.length cap, .int .i64 n] 123) (heap_alloc_new w (.cells S.cells 40))))
  have HR1 := Lib.hid R1
  have HM0 := Lib.hid (((Mods.refl (S := []) (w := w)).alloc (.cells S.cells 40)).alloc (.cells #[.slice ad W.length cap, .int .i64 n] 123))
  obtain ⟨_, _, _, _, _, _, x27⟩ := S.restc
  clear R1
  obtain ⟨_, x8, _, _, _, _, _⟩ := S.convc
  have HA := Lib.hid (rdB_eq S P W n)
  generalize rdB S P W n = r at HA ⊢
  go_enter Tryz.func108, Tryz.ntmps108
  go_wp2_with (refine wpList_load_sen rfl (.tmp 2) rfl HB.out (by rfl) ?_)
  refine (refSamValid_ok _ S P _ W n (HS.out.mods0 HM0.out) (HF.out.mods0 HM0.out)).mono ?_
  rintro e w1 ⟨rfl, M1⟩
  have HM1 := Lib.hid (HM0.out.trans M1)
  have RB := (M1.heap HB.out.blk (by simp))
  have RF := (M1.heap HR1.out (by simp))
  have hw1 := M1.size
  simp only [World.size_alloc] at hw1
  have y0 : w1.cell? ⟨w.heap.size, 27, none⟩ = some (.int .i64 S.samples) := (cell_blk RB 27).trans x27
  have y1 : w1.cell? ⟨w.heap.size + 1, 0, none⟩ = some (.slice ad W.length cap) := (cell_blk RF 0).trans rfl
  have HS8 := Lib.hid (show w1.cell? ⟨w.heap.size, 8, none⟩ = some (.bool S.conv.sgn) from (cell_blk RB 8).trans x8)
  have HF1 := Lib.hid (HF.out.mods0 HM1.out)
  clear M1 RB RF HB HR1 HM0 HS HF x27 x8
  cases hb : fltB S P W n with
  | false =>
    have hb2 := Lib.hid hb
    clear hb
    obtain rfl : r = false := by rw [HA.out]; (rw [hb2.out]; rfl)
    go_wp2_with fail
    go_ret2
    exact ⟨rfl, HM1.out⟩
  | true =>
    have hsam := flt_samples hb
    have hb2 := Lib.hid hb
    clear hb
    by_cases hl : (W.length : Int) = S.samples
    · obtain rfl : r = true := by rw [HA.out, hb2.out, decide_eq_true hl]; rfl
      have e0 : decide ((W.length : Int) < S.samples) = false := decide_eq_false (by omega)
      have e00 : ¬ (W.length : Int) < S.samples := by omega
      have hW1 : 1 ≤ W.length := by omega
      have hW5 : W.length ≤ 5 := by omega
      obtain ⟨ad', cap', he, -, -, hc⟩ := HF1.out.rd.u8
      injection he with he1 he2 he3
      subst he1 he3
      obtain ⟨bb, off, rfl, x0⟩ := hc 0 (by omega)
      have HCC := Lib.hid (fun i (hi : i < W.length) => show w1.cell? ⟨bb, off + i, none⟩ = some (.int .u8 (W.getD i 0)) from by
        obtain ⟨b', o', he, hx⟩ := hc i hi
        cases he
        exact hx)
      have HBy := Lib.hid (bytes_mem HF1.out.byt)
      have HBg := Lib.hid HF1.out.byt
      have HME : Hid (∃ m, IsMed S.conv.sgn W m) := Lib.hid (by
        have := List.mergeSort_perm W fun x y => decide (numZ S.conv.sgn x ≤ numZ S.conv.sgn y)
        refine ⟨_, med_sorted HBy.out this ?_ (by omega)⟩
        have hs := List.pairwise_mergeSort (le := fun x y => decide (numZ S.conv.sgn x ≤ numZ S.conv.sgn y)) (fun a b c h1 h2 => by simp only [decide_eq_true_eq] at *; omega) (fun a b => by simp only [Bool.or_eq_true, decide_eq_true_eq]; omega) W
        exact hs.imp fun h => by simpa using h)
      have P8 := Lib.hid (fun (W' : World) (M : Mods [] w1 W') => M.cell HS8.out (by simp))
      have P1 := Lib.hid (fun (W' : World) (M : Mods [] w1 W') => M.cell y1 (by simp))
      clear hc x0 HA hl he2 HF1
      generalize hsg : S.conv.sgn = sgn at *
      have HSG := Lib.hid hsg
      clear hsg
      go_wp2_with fail
      clear y0 y1 e0 e00
      go_loopw [6, 7, 8, 9, 10] (fun i _ _ _ _ wr => ∃ j : Nat, j ≤ W.length ∧ i = .int .i64 j ∧ (∀ q, q < j → befN sgn W q W.length ≠ W.length / 2) ∧ Mods [] w1 wr) (fun i _ _ _ _ _ => W.length - (intOf i).toNat)
      case atStart => exact ⟨0, by omega, rfl, (fun q hq => by omega), Mods.refl⟩
      case round =>
        obtain ⟨j, hj, rfl, hno, M⟩ := hrel
        have HNO := Lib.hid hno
        have HM := Lib.hid M
        have y1 := P1.out _ M
        have i0 : (0 : Int) ≤ (j : Int) := by omega
        clear hno M
        by_cases hlt : j < W.length
        · have i1 : (j : Int) < (W.length : Int) := by omega
          have PE := Lib.hid (fun (W' : World) (M : Mods [] w1 W') => M.cell (HCC.out j hlt) (by simp))
          have NX := Lib.hid (refNumZ_ok sgn (W.getD j 0) (HBg.out j))
          have hxb := numZ_bd (sgn := sgn) (HBg.out j)
          have HBS := Lib.hid (fun k => befN_succ sgn W j k)
          have HXV := Lib.hid (fun m hm h => bef_is (sgn := sgn) (m := m) HBy.out hm hlt h)
          generalize hxv : W.getD j 0 = xv at PE NX hxb HBS HXV
          clear hxv
          generalize numZ sgn xv = x at NX hxb HBS
          go_wp2_with fail
          refine heldStart (S := fun W' => Mods [] w1 W') 10 rfl (by kernel_rfl) HM.out.drew (fun hHeld => ?_)
          refine takeD (i := 0) (d := 30) (v := ?_) rfl rfl (by kernel_rfl) (by kernel_rfl) (by kernel_rfl) (fun _ _ _ h => h) (Or.inl ⟨by rfl, ?_⟩) hHeld ?_
          rotate_left 1
          · (intro w hSw; have y8 := P8.out w hSw; have y1 := P1.out w hSw; have ye := PE.out w hSw; go_simp; (try with_reducible rfl))
          simp only [List.setIfInBounds_toArray, List.set_cons_zero, List.set_cons_succ]
          refine takeD (i := 1) (d := 31) (v := ?_) rfl rfl (by kernel_rfl) (by kernel_rfl) (by kernel_rfl) (fun _ _ _ h => h) (Or.inl ⟨by rfl, ?_⟩) hHeld ?_
          rotate_left 1
          · (intro w hSw; have y8 := P8.out w hSw; have y1 := P1.out w hSw; have ye := PE.out w hSw; go_simp; (try with_reducible rfl))
          simp only [List.setIfInBounds_toArray, List.set_cons_zero, List.set_cons_succ]
          refine takeD (i := 2) (d := 32) (v := ?_) rfl rfl (by kernel_rfl) (by kernel_rfl) (by kernel_rfl) (fun _ _ _ h => h) (Or.inl ⟨by rfl, ?_⟩) hHeld ?_
          rotate_left 1
          · (intro w hSw; have y8 := P8.out w hSw; have y1 := P1.out w hSw; have ye := PE.out w hSw; go_simp; (try with_reducible rfl))
          simp only [List.setIfInBounds_toArray, List.set_cons_zero, List.set_cons_succ]
          refine takeD (i := 3) (d := 33) (v := ?_) rfl rfl (by kernel_rfl) (by kernel_rfl) (by kernel_rfl) (fun _ _ _ h => h) (Or.inl ⟨by rfl, ?_⟩) hHeld ?_
          rotate_left 1
          · (intro w hSw; have y8 := P8.out w hSw; have y1 := P1.out w hSw; have ye := PE.out w hSw; go_simp; (try with_reducible rfl))
          simp only [List.setIfInBounds_toArray, List.set_cons_zero, List.set_cons_succ]
          refine takeD (i := 4) (d := 34) (v := ?_) rfl rfl (by kernel_rfl) (by kernel_rfl) (by kernel_rfl) (fun _ _ _ h => h) (Or.inl ⟨by rfl, ?_⟩) hHeld ?_
          rotate_left 1
          · (intro w hSw; have y8 := P8.out w hSw; have y1 := P1.out w hSw; have ye := PE.out w hSw; go_simp; (try with_reducible rfl))
          simp only [List.setIfInBounds_toArray, List.set_cons_zero, List.set_cons_succ]
          refine takeD (i := 5) (d := 35) (v := ?_) rfl rfl (by kernel_rfl) (by kernel_rfl) (by kernel_rfl) (fun _ _ _ h => h) (Or.inl ⟨by rfl, ?_⟩) hHeld ?_
          rotate_left 1
          · (intro w hSw; have y8 := P8.out w hSw; have y1 := P1.out w hSw; have ye := PE.out w hSw; go_simp; (try with_reducible rfl))
          simp only [List.setIfInBounds_toArray, List.set_cons_zero, List.set_cons_succ]
          refine takeD (i := 6) (d := 36) (v := ?_) rfl rfl (by kernel_rfl) (by kernel_rfl) (by kernel_rfl) (fun _ _ _ h => h) (Or.inl ⟨by rfl, ?_⟩) hHeld ?_
          rotate_left 1
          · (intro w hSw; have y8 := P8.out w hSw; have y1 := P1.out w hSw; have ye := PE.out w hSw; go_simp; (try with_reducible rfl))
          simp only [List.setIfInBounds_toArray, List.set_cons_zero, List.set_cons_succ]
          refine takeD (i := 7) (d := 37) (v := ?_) rfl rfl (by kernel_rfl) (by kernel_rfl) (by kernel_rfl) (fun _ _ _ h => h) (Or.inl ⟨by rfl, ?_⟩) hHeld ?_
          rotate_left 1
          · (intro w hSw; have y8 := P8.out w hSw; have y1 := P1.out w hSw; have ye := PE.out w hSw; go_simp; (try with_reducible rfl))
          simp only [List.setIfInBounds_toArray, List.set_cons_zero, List.set_cons_succ]
          refine wpAnyH_ready (rs := [8]) (by kernel_rfl) (by simp) ?_
          refine AllReadyH.cons rfl (fun K hK => ?_) AllReadyH.nil
          go_simp
          go_wp2_with (go_at_call 140; refine (NX.out _).mono ?_; rintro e w' ⟨rfl, rfl⟩)
          refine hK.out _ _ ?_ (fun hHeld => ?_)
          · exact hHeld
          clear hK K
          refine takeD (i := 9) (d := 7) (v := ?_) rfl rfl (by kernel_rfl) (by kernel_rfl) (by kernel_rfl) (fun _ _ _ h => h) (Or.inl ⟨by rfl, ?_⟩) hHeld ?_
          rotate_left 1
          · (intro w hSw; (try dsimp only at hSw); go_simp; (try with_reducible rfl))
          simp only [List.setIfInBounds_toArray, List.set_cons_zero, List.set_cons_succ]
          refine wpAnyH_done (by kernel_rfl) ?_ _
          go_wp2_with fail
          have HMI := Lib.hid hHeld
          clear hHeld HM y1
          go_loopw [8, 9, 10] (fun b k _ wr => ∃ q : Nat, q ≤ W.length ∧ k = .int .i64 q ∧ b = .int .i64 (befN sgn W j q : Nat) ∧ Mods [] w1 wr) (fun _ k _ _ => W.length - (intOf k).toNat)
          case atStart => exact ⟨0, by omega, rfl, rfl, HMI.out⟩
          case round =>
            obtain ⟨q, hq, rfl, rfl, M⟩ := hrel
            have HM := Lib.hid M
            have y1 := P1.out _ M
            have k0 : (0 : Int) ≤ (q : Int) := by omega
            have hbl := befN_le sgn W j q
            clear M
            by_cases hqt : q < W.length
            · have k1 : (q : Int) < (W.length : Int) := by omega
              have HB1 := Lib.hid (HBS.out q)
              have PE := Lib.hid (fun (W' : World) (M : Mods [] w1 W') => M.cell (HCC.out q hqt) (by simp))
              have NY := Lib.hid (refNumZ_ok sgn (W.getD q 0) (HBg.out q))
              have hyb := numZ_bd (sgn := sgn) (HBg.out q)
              generalize W.getD q 0 = yv at PE NY hyb HB1
              generalize numZ sgn yv = y at NY hyb HB1
              generalize befN sgn W j q = bq at hbl HB1 ⊢
              have b5 : (bq : Int) ≤ 5 := by omega
              go_wp2_with fail
              refine heldStart (S := fun W' => Mods [] w1 W') 10 rfl (by kernel_rfl) HM.out.drew (fun hHeld => ?_)
              refine takeD (i := 0) (d := 46) (v := ?_) rfl rfl (by kernel_rfl) (by kernel_rfl) (by kernel_rfl) (fun _ _ _ h => h) (Or.inl ⟨by rfl, ?_⟩) hHeld ?_
              rotate_left 1
              · (intro w hSw; have y8 := P8.out w hSw; have y1 := P1.out w hSw; have ye := PE.out w hSw; go_simp; (try with_reducible rfl))
              simp only [List.setIfInBounds_toArray, List.set_cons_zero, List.set_cons_succ]
              refine takeD (i := 1) (d := 47) (v := ?_) rfl rfl (by kernel_rfl) (by kernel_rfl) (by kernel_rfl) (fun _ _ _ h => h) (Or.inl ⟨by rfl, ?_⟩) hHeld ?_
              rotate_left 1
              · (intro w hSw; have y8 := P8.out w hSw; have y1 := P1.out w hSw; have ye := PE.out w hSw; go_simp; (try with_reducible rfl))
              simp only [List.setIfInBounds_toArray, List.set_cons_zero, List.set_cons_succ]
              refine takeD (i := 2) (d := 48) (v := ?_) rfl rfl (by kernel_rfl) (by kernel_rfl) (by kernel_rfl) (fun _ _ _ h => h) (Or.inl ⟨by rfl, ?_⟩) hHeld ?_
              rotate_left 1
              · (intro w hSw; have y8 := P8.out w hSw; have y1 := P1.out w hSw; have ye := PE.out w hSw; go_simp; (try with_reducible rfl))
              simp only [List.setIfInBounds_toArray, List.set_cons_zero, List.set_cons_succ]
              refine takeD (i := 3) (d := 49) (v := ?_) rfl rfl (by kernel_rfl) (by kernel_rfl) (by kernel_rfl) (fun _ _ _ h => h) (Or.inl ⟨by rfl, ?_⟩) hHeld ?_
              rotate_left 1
              · (intro w hSw; have y8 := P8.out w hSw; have y1 := P1.out w hSw; have ye := PE.out w hSw; go_simp; (try with_reducible rfl))
              simp only [List.setIfInBounds_toArray, List.set_cons_zero, List.set_cons_succ]
              refine takeD (i := 4) (d := 50) (v := ?_) rfl rfl (by kernel_rfl) (by kernel_rfl) (by kernel_rfl) (fun _ _ _ h => h) (Or.inl ⟨by rfl, ?_⟩) hHeld ?_
              rotate_left 1
              · (intro w hSw; have y8 := P8.out w hSw; have y1 := P1.out w hSw; have ye := PE.out w hSw; go_simp; (try with_reducible rfl))
              simp only [List.setIfInBounds_toArray, List.set_cons_zero, List.set_cons_succ]
              refine takeD (i := 5) (d := 51) (v := ?_) rfl rfl (by kernel_rfl) (by kernel_rfl) (by kernel_rfl) (fun _ _ _ h => h) (Or.inl ⟨by rfl, ?_⟩) hHeld ?_
              rotate_left 1
              · (intro w hSw; have y8 := P8.out w hSw; have y1 := P1.out w hSw; have ye := PE.out w hSw; go_simp; (try with_reducible rfl))
              simp only [List.setIfInBounds_toArray, List.set_cons_zero, List.set_cons_succ]
              refine takeD (i := 6) (d := 52) (v := ?_) rfl rfl (by kernel_rfl) (by kernel_rfl) (by kernel_rfl) (fun _ _ _ h => h) (Or.inl ⟨by rfl, ?_⟩) hHeld ?_
              rotate_left 1
              · (intro w hSw; have y8 := P8.out w hSw; have y1 := P1.out w hSw; have ye := PE.out w hSw; go_simp; (try with_reducible rfl))
              simp only [List.setIfInBounds_toArray, List.set_cons_zero, List.set_cons_succ]
              refine takeD (i := 7) (d := 53) (v := ?_) rfl rfl (by kernel_rfl) (by kernel_rfl) (by kernel_rfl) (fun _ _ _ h => h) (Or.inl ⟨by rfl, ?_⟩) hHeld ?_
              rotate_left 1
              · (intro w hSw; have y8 := P8.out w hSw; have y1 := P1.out w hSw; have ye := PE.out w hSw; go_simp; (try with_reducible rfl))
              simp only [List.setIfInBounds_toArray, List.set_cons_zero, List.set_cons_succ]
              refine wpAnyH_ready (rs := [8]) (by kernel_rfl) (by simp) ?_
              refine AllReadyH.cons rfl (fun K hK => ?_) AllReadyH.nil
              go_simp
              go_wp2_with (go_at_call 140; refine (NY.out _).mono ?_; rintro e w' ⟨rfl, rfl⟩)
              refine hK.out _ _ ?_ (fun hHeld => ?_)
              · exact hHeld
              clear hK K
              refine takeD (i := 9) (d := 10) (v := ?_) rfl rfl (by kernel_rfl) (by kernel_rfl) (by kernel_rfl) (fun _ _ _ h => h) (Or.inl ⟨by rfl, ?_⟩) hHeld ?_
              rotate_left 1
              · (intro w hSw; (try dsimp only at hSw); go_simp; (try with_reducible rfl))
              simp only [List.setIfInBounds_toArray, List.set_cons_zero, List.set_cons_succ]
              refine wpAnyH_done (by kernel_rfl) ?_ _
              have HM2 := Lib.hid hHeld
              clear hHeld HM y1
              by_cases g1 : y < x
              · rw [if_pos (.inl g1)] at HB1
                go_wp2_with fail
                exact ⟨⟨q + 1, by omega, by go_num, by rw [HB1.out]; go_num, HM2.out⟩, by simp only [intOf]; omega⟩
              · by_cases g2 : y = x
                · by_cases g3 : q < j
                  · rw [if_pos (.inr ⟨g2, g3⟩)] at HB1
                    subst g2
                    have g4 : (q : Int) < (j : Int) := by omega
                    go_wp2_with fail
                    exact ⟨⟨q + 1, by omega, by go_num, by rw [HB1.out]; go_num, HM2.out⟩, by simp only [intOf]; omega⟩
                  · rw [if_neg (by omega)] at HB1
                    subst g2
                    have g4 : ¬ (q : Int) < (j : Int) := by omega
                    go_wp2_with fail
                    exact ⟨⟨q + 1, by omega, by go_num, by rw [HB1.out]; rfl, HM2.out⟩, by simp only [intOf]; omega⟩
                · rw [if_neg (by omega)] at HB1
                  have g4 : (y == x) = false := by simpa using g2
                  go_wp2_with fail
                  exact ⟨⟨q + 1, by omega, by go_num, by rw [HB1.out]; rfl, HM2.out⟩, by simp only [intOf]; omega⟩
            · have hql : q = W.length := by omega
              subst hql
              have y1' := y1
              have HXE := Lib.hid (PE.out _ HM.out)
              have xe := HXE.out
              have b5 : befN sgn W j W.length ≤ 5 := by omega
              by_cases hh : befN sgn W j W.length = W.length / 2
              · obtain ⟨m, hm⟩ := HME.out
                have hxm := HXV.out m hm hh
                subst hxm
                have HMM := Lib.hid hm
                clear hm
                rw [hh]
                go_wp2_with fail
                go_ret2
                exact ⟨xv, rfl, by rw [HSG.out]; exact HMM.out, HM1.out.trans HM.out⟩
              · have HN2 := Lib.hid hh
                have hh2 : ((befN sgn W j W.length : Nat) : Int) ≠ (W.length : Int) / 2 := by omega
                have hh3 : (((befN sgn W j W.length : Nat) : Int) == (W.length : Int) / 2) = false := by simpa using hh2
                generalize hbq : befN sgn W j W.length = bq at hh2 hh3 b5 ⊢
                clear hbq hbl hh
                go_wp2_with fail
                exact ⟨⟨j + 1, by omega, by go_num, fun q hq => by
                  rcases Nat.lt_or_ge q j with h | h
                  · exact HNO.out q h
                  · obtain rfl : q = j := by omega
                    exact HN2.out, HM.out⟩, by simp only [intOf]; omega⟩
        · have hjl : j = W.length := by omega
          exfalso
          obtain ⟨m, hm⟩ := HME.out
          obtain ⟨i, hi, he⟩ := med_bef HBy.out hm
          exact HNO.out i (by omega) he
    · have e0 : decide ((W.length : Int) < S.samples) = true := decide_eq_true (by omega)
      have e1 : (W.length : Int) < S.samples := by omega
      obtain rfl : r = false := by rw [HA.out]; (rw [hb2.out, decide_eq_false hl]; rfl)
      go_wp2_with fail
      go_ret2
      exact ⟨rfl, HM1.out⟩
end Go.Proofs.YtijjkonephjodaaGreatDoor

namespace Go.Proofs.YtijjkonephjodaaGreatDoor

structure Ent where
  id : Fin 256
  inst : Fin 256
deriving DecidableEq
instance : Inhabited Ent := ⟨⟨0, 0⟩⟩
structure Asc where
  out : Ent
  inn : Ent
deriving DecidableEq
instance : Inhabited Asc := ⟨⟨default, default⟩⟩

/-- The container of an entity. -/
def par : List Asc → Ent → Option Ent
  | [], _ => none
  | x :: l, e => if x.inn = e then some x.out else par l e
/-- The k-th entity around another one. -/
def up (l : List Asc) (e : Ent) : Nat → Option Ent
  | 0 => some e
  | k + 1 => (up l e k).bind (par l)
theorem par_mem {l : List Asc} {e p : Ent} (h : par l e = some p) : ∃ x ∈ l, x.inn = e ∧ x.out = p := by
  induction l with
  | nil => cases h
  | cons a l ih =>
    unfold par at h
    split at h
    · rename_i ha
      injection h with h
      exact ⟨a, .head _, ha, h⟩
    · obtain ⟨x, hx, h1⟩ := ih h
      exact ⟨x, .tail _ hx, h1⟩
theorem par_none {l : List Asc} {e : Ent} (h : par l e = none) : ∀ x ∈ l, x.inn ≠ e := by
  induction l with
  | nil => intro x hx; cases hx
  | cons a l ih =>
    unfold par at h
    split at h
    · cases h
    · rename_i ha
      intro x hx
      cases hx with
      | head => exact ha
      | tail _ hx => exact ih h x hx
theorem up_add (l : List Asc) (e : Ent) (i : Nat) : ∀ j, up l e (i + j) = (up l e i).bind fun x => up l x j
  | 0 => by cases up l e i <;> simp [up]
  | j + 1 => by
    have ih := up_add l e i j
    rw [← Nat.add_assoc]
    simp only [up]
    rw [ih]
    cases h : up l e i <;> simp
theorem up_some_le {l : List Asc} {e : Ent} {k : Nat} (h : (up l e k).isSome) {j : Nat} (hj : j ≤ k) : (up l e j).isSome := by
  obtain ⟨d, rfl⟩ := Nat.exists_eq_add_of_le hj
  rw [up_add] at h
  cases hu : up l e j with
  | none => rw [hu] at h; cases h
  | some x => rfl
/-- The first m entities around another one. -/
def upL (l : List Asc) (e : Ent) : Nat → List Ent
  | 0 => []
  | m + 1 => upL l e m ++ [(up l e (m + 1)).getD default]
theorem upL_length (l : List Asc) (e : Ent) : ∀ m, (upL l e m).length = m
  | 0 => rfl
  | m + 1 => by rw [upL, List.length_append, upL_length l e m]; rfl
theorem upL_mem {l : List Asc} {e x : Ent} : ∀ {m : Nat}, (up l e m).isSome → (x ∈ upL l e m ↔ ∃ k, k < m ∧ up l e (k + 1) = some x)
  | 0, _ => by simp [upL]
  | m + 1, h => by
    rw [upL, List.mem_append, upL_mem (up_some_le h (Nat.le_succ m)), List.mem_singleton]
    obtain ⟨y, hy⟩ := Option.isSome_iff_exists.1 h
    rw [hy]
    simp only [Option.getD_some]
    constructor
    · rintro (⟨k, hk, hx⟩ | rfl)
      · exact ⟨k, by omega, hx⟩
      · exact ⟨m, by omega, hy⟩
    · rintro ⟨k, hk, hx⟩
      rcases Nat.lt_or_ge k m with h1 | h1
      · exact .inl ⟨k, h1, hx⟩
      · have : k = m := by omega
        subst this
        rw [hy] at hx
        injection hx with hx
        exact .inr hx.symm
/-- What is around an entity: of a cycle, each one once. -/
structure IsAround (l : List Asc) (e : Ent) (A : List Ent) : Prop where
  mem : ∀ x, x ∈ A ↔ ∃ k, up l e (k + 1) = some x
  len : A.length ≤ l.length
theorem nodup_sub {α : Type} [DecidableEq α] : ∀ {A B : List α}, A.Nodup → (∀ x ∈ A, x ∈ B) → A.length ≤ B.length
  | [], _, _, _ => Nat.zero_le _
  | a :: A, B, h, hs => by
    have ha := hs a (.head _)
    have hn := List.nodup_cons.1 h
    have := nodup_sub (A := A) (B := B.erase a) hn.2 fun x hx => by
      have hne : x ≠ a := fun he => hn.1 (he ▸ hx)
      exact (List.mem_erase_of_ne hne).2 (hs x (.tail _ hx))
    rw [List.length_erase_of_mem ha] at this
    have hp := List.length_pos_of_mem ha
    rw [List.length_cons]
    omega
theorem upL_sub {l : List Asc} {e : Ent} {m : Nat} (h : (up l e m).isSome) : ∀ x ∈ upL l e m, x ∈ l.map (·.out) := fun x hx => by
  obtain ⟨k, _, hk⟩ := (upL_mem h).1 hx
  simp only [up] at hk
  cases hu : up l e k with
  | none => rw [hu] at hk; cases hk
  | some y =>
    rw [hu] at hk
    obtain ⟨a, ha, _, ho⟩ := par_mem (show par l y = some x from hk)
    exact List.mem_map.2 ⟨a, ha, ho⟩
theorem upL_le {l : List Asc} {e : Ent} {m : Nat} (h : (up l e m).isSome) (hn : (upL l e m).Nodup) : m ≤ l.length := by
  have := nodup_sub hn (upL_sub h)
  rwa [upL_length, List.length_map] at this
theorem upL_nodup_snoc {l : List Asc} {e p : Ent} {m : Nat} (hn : (upL l e m).Nodup) (hp : up l e (m + 1) = some p) (hm : p ∉ upL l e m) : (upL l e (m + 1)).Nodup := by
  rw [upL, hp]
  simp only [Option.getD_some]
  rw [List.nodup_append]
  refine ⟨hn, by simp, ?_⟩
  intro a ha b hb
  simp at hb
  subst hb
  intro he
  exact hm (he ▸ ha)
/-- The end of the way: the last has no parent, or a parent that was met. -/
theorem around_end {l : List Asc} {e : Ent} {m : Nat} (h : (up l e m).isSome) (hn : (upL l e m).Nodup) (hend : ∀ p, up l e (m + 1) = some p → p ∈ upL l e m) : IsAround l e (upL l e m) := by
  refine ⟨fun x => ⟨fun hx => ?_, fun ⟨k, hk⟩ => ?_⟩, by rw [upL_length]; exact upL_le h hn⟩
  · obtain ⟨k, _, hk⟩ := (upL_mem h).1 hx
    exact ⟨k, hk⟩
  · have key : ∀ k x, up l e (k + 1) = some x → ∃ j, j < m ∧ up l e (j + 1) = some x := by
      intro k
      induction k with
      | zero =>
        intro x hx
        rcases Nat.eq_zero_or_pos m with h0 | h0
        · subst h0
          exact absurd (hend x hx) (by simp [upL])
        · exact ⟨0, h0, hx⟩
      | succ k ih =>
        intro x hx
        have hs : (up l e (k + 1)).isSome := up_some_le (k := k + 1 + 1) (by rw [hx]; rfl) (Nat.le_succ _)
        obtain ⟨y, hy⟩ := Option.isSome_iff_exists.1 hs
        obtain ⟨j, hj, hjy⟩ := ih y hy
        have hpx : par l y = some x := by
          have : up l e (k + 1 + 1) = (up l e (k + 1)).bind (par l) := rfl
          rw [this, hy] at hx
          exact hx
        have hj2 : up l e (j + 1 + 1) = some x := by
          have : up l e (j + 1 + 1) = (up l e (j + 1)).bind (par l) := rfl
          rw [this, hjy]
          exact hpx
        rcases Nat.lt_or_ge (j + 1) m with h1 | h1
        · exact ⟨j + 1, h1, hj2⟩
        · have : j + 1 = m := by omega
          rw [this] at hj2
          obtain ⟨i, hi, hix⟩ := (upL_mem h).1 (hend x hj2)
          exact ⟨i, hi, hix⟩
    obtain ⟨j, hj, hjx⟩ := key k x hk
    exact (upL_mem h).2 ⟨j, hj, hjx⟩
/-- Whether an entity is around another one. -/
def abv (l : List Asc) (e x : Ent) : Bool := (List.range l.length).any fun k => decide (up l e (k + 1) = some x)
theorem IsAround.abv {l : List Asc} {e : Ent} {A : List Ent} (h : IsAround l e A) (hA : ∃ m, A = upL l e m ∧ (up l e m).isSome ∧ m ≤ l.length) (x : Ent) : decide (x ∈ A) = abv l e x := by
  obtain ⟨m, rfl, hs, hm⟩ := hA
  rw [Bool.eq_iff_iff, decide_eq_true_eq]
  unfold Go.Proofs.YtijjkonephjodaaGreatDoor.abv
  rw [List.any_eq_true]
  constructor
  · intro hx
    obtain ⟨k, hk, hkx⟩ := (upL_mem hs).1 hx
    exact ⟨k, List.mem_range.2 (by omega), by simpa using hkx⟩
  · rintro ⟨k, _, hk⟩
    exact (h.mem x).2 ⟨k, by simpa using hk⟩
/-- A list of what is around an entity. -/
structure Arnd (l : List Asc) (e : Ent) (A : List Ent) : Prop extends IsAround l e A where
  ab : ∀ x, decide (x ∈ A) = abv l e x
theorem arnd_end {l : List Asc} {e : Ent} {m : Nat} (h : (up l e m).isSome) (hn : (upL l e m).Nodup) (hend : ∀ p, up l e (m + 1) = some p → p ∈ upL l e m) : Arnd l e (upL l e m) :=
  ⟨around_end h hn hend, fun x => (around_end h hn hend).abv ⟨m, rfl, h, upL_le h hn⟩ x⟩
/-- The way goes on and meets each one once: there is such a list. -/
theorem arnd_ex (l : List Asc) (e : Ent) : ∃ m, Arnd l e (upL l e m) ∧ (up l e m).isSome := by
  have key : ∀ d m, l.length - m ≤ d → (up l e m).isSome → (upL l e m).Nodup → ∃ m, Arnd l e (upL l e m) ∧ (up l e m).isSome := by
    intro d
    induction d with
    | zero =>
      intro m hd hs hn
      by_cases hend : ∀ p, up l e (m + 1) = some p → p ∈ upL l e m
      · exact ⟨m, arnd_end hs hn hend, hs⟩
      · have ⟨p, hp, hpn⟩ : ∃ p, up l e (m + 1) = some p ∧ p ∉ upL l e m := by
          refine Classical.byContradiction fun hc => hend fun p hp => Classical.byContradiction fun hq => hc ⟨p, hp, hq⟩
        have := upL_le (m := m + 1) (by rw [hp]; rfl) (upL_nodup_snoc hn hp hpn)
        omega
    | succ d ih =>
      intro m hd hs hn
      by_cases hend : ∀ p, up l e (m + 1) = some p → p ∈ upL l e m
      · exact ⟨m, arnd_end hs hn hend, hs⟩
      · have ⟨p, hp, hpn⟩ : ∃ p, up l e (m + 1) = some p ∧ p ∉ upL l e m := by
          refine Classical.byContradiction fun hc => hend fun p hp => Classical.byContradiction fun hq => hc ⟨p, hp, hq⟩
        have hs' : (up l e (m + 1)).isSome := by rw [hp]; rfl
        have hn' := upL_nodup_snoc hn hp hpn
        have := upL_le hs' hn'
        exact ih (m + 1) (by omega) hs' hn'
  exact key l.length 0 (by omega) rfl (by simp [upL])
theorem abv_iff {l : List Asc} {e x : Ent} : abv l e x = true ↔ ∃ k, up l e (k + 1) = some x := by
  obtain ⟨m, h, _⟩ := arnd_ex l e
  rw [← h.ab x, decide_eq_true_eq, h.mem]
/-- Whether some entity is contained twice. -/
def dupB (l : List Asc) : Bool := (List.range l.length).any fun i => (List.range i).any fun k => decide ((l.getD k default).inn = (l.getD i default).inn)
/-- Whether some entity is around itself. -/
def cycB (l : List Asc) : Bool := l.any fun x => abv l x.inn x.inn
/-- What is wrong with associations: ErrLimit 3, ErrDuplicate 7, ErrCycle 14. -/
def chkE (l : List Asc) : Int := if 32 < l.length then 3 else if dupB l then 7 else if cycB l then 14 else 0
/-- An entity without a cycle: the way up ends, and it meets each one once. -/
theorem nocyc_distinct {l : List Asc} (hc : cycB l = false) {e x : Ent} {i j : Nat} (hij : i < j) (hi : up l e i = some x) : up l e j ≠ some x := by
  intro hj
  obtain ⟨d, rfl⟩ := Nat.exists_eq_add_of_lt hij
  rw [show i + d + 1 = i + (d + 1) by omega, up_add, hi] at hj
  have hj : up l x (d + 1) = some x := hj
  have h1 : (up l x 1).isSome := up_some_le (k := d + 1) (by rw [hj]; rfl) (by omega)
  obtain ⟨p, hp⟩ := Option.isSome_iff_exists.1 h1
  obtain ⟨a, ha, hin, _⟩ := par_mem (show par l x = some p from hp)
  unfold cycB at hc
  have := List.any_eq_false.1 hc a ha
  rw [hin] at this
  exact this (abv_iff.2 ⟨d, hj⟩)
theorem nocyc_nodup {l : List Asc} (hc : cycB l = false) {e : Ent} : ∀ {m : Nat}, (up l e m).isSome → (upL l e m).Nodup ∧ e ∉ upL l e m
  | 0, _ => by simp [upL]
  | m + 1, h => by
    have hs := up_some_le h (Nat.le_succ m)
    obtain ⟨hn, he⟩ := nocyc_nodup hc hs
    obtain ⟨p, hp⟩ := Option.isSome_iff_exists.1 h
    refine ⟨upL_nodup_snoc hn hp fun hm => ?_, fun hm => ?_⟩
    · obtain ⟨k, hk, hkp⟩ := (upL_mem hs).1 hm
      exact nocyc_distinct hc (show k + 1 < m + 1 by omega) hkp hp
    · obtain ⟨k, hk, hke⟩ := (upL_mem h).1 hm
      exact nocyc_distinct hc (show 0 < k + 1 by omega) rfl hke
/-- Whether an entity and all around it are there. -/
def presB (l : List Asc) (ab : List Ent) (e : Ent) : Bool := decide (e ∉ ab) && (List.range l.length).all fun k => match up l e (k + 1) with
  | none => true
  | some x => decide (x ∉ ab)
theorem presB_iff {l : List Asc} {ab : List Ent} {e : Ent} : presB l ab e = true ↔ e ∉ ab ∧ ∀ k x, up l e (k + 1) = some x → x ∉ ab := by
  unfold presB
  rw [Bool.and_eq_true, decide_eq_true_eq, List.all_eq_true]
  refine and_congr_right fun _ => ⟨fun h k x hk => ?_, fun h k hk => ?_⟩
  · have hx : abv l e x = true := abv_iff.2 ⟨k, hk⟩
    unfold abv at hx
    obtain ⟨j, hj, hjx⟩ := List.any_eq_true.1 hx
    have := h j hj
    rw [of_decide_eq_true hjx] at this
    simpa using this
  · cases hu : up l e (k + 1) with
    | none => rfl
    | some x => simpa using h k x hu
/-- What is in an entity, itself first. -/
def withinL (l : List Asc) (e : Ent) : List Ent := e :: (l.map (·.inn)).filter fun x => abv l x e
def ltE (a b : Ent) : Prop := a.id.val < b.id.val ∨ (a.id.val = b.id.val ∧ a.inst.val < b.inst.val)
instance : DecidableRel ltE := fun a b => inferInstanceAs (Decidable (a.id.val < b.id.val ∨ (a.id.val = b.id.val ∧ a.inst.val < b.inst.val)))
theorem ltE_trans {a b c : Ent} (h : ltE a b) (h' : ltE b c) : ltE a c := by unfold ltE at *; omega
theorem ltE_irrefl (a : Ent) : ¬ ltE a a := by unfold ltE; omega
theorem ltE_tri (a b : Ent) : ltE a b ∨ a = b ∨ ltE b a := by
  obtain ⟨a1, a2⟩ := a
  obtain ⟨b1, b2⟩ := b
  unfold ltE
  simp only [Ent.mk.injEq, Fin.ext_iff]
  omega
def srtE (l : List Ent) : Prop := l.Pairwise fun a b => ¬ ltE b a
theorem srt_uniq : ∀ {l m : List Ent}, l.Perm m → srtE l → srtE m → l = m
  | [], m, hp, _, _ => (List.nil_perm.1 hp).symm
  | a :: l, [], hp, _, _ => by cases List.perm_nil.1 hp
  | a :: l, b :: m, hp, hl, hm => by
    unfold srtE at hl hm
    obtain ⟨h1, h2⟩ := List.pairwise_cons.1 hl
    obtain ⟨h3, h4⟩ := List.pairwise_cons.1 hm
    have hab : a = b := by
      rcases ltE_tri a b with h | h | h
      · have ha : a ∈ b :: m := hp.mem_iff.1 (.head _)
        cases ha with
        | head => rfl
        | tail _ ha => exact absurd h (h3 a ha)
      · exact h
      · have hb : b ∈ a :: l := hp.mem_iff.2 (.head _)
        cases hb with
        | head => rfl
        | tail _ hb => exact absurd h (h1 b hb)
    subst hab
    rw [srt_uniq ((List.perm_cons a).1 hp) h2 h4]
/-- The greatest severity within an entity. -/
structure Cnd where
  ent : Ent
  sev : Int
instance : Inhabited Cnd := ⟨⟨default, 0⟩⟩
def hlth (l : List Asc) (ab : List Ent) (e : Ent) : List Cnd → Int
  | [] => 0
  | c :: own => max (if (decide (c.ent ∈ withinL l e) && presB l ab c.ent) = true then c.sev else 0) (hlth l ab e own)
end Go.Proofs.YtijjkonephjodaaGreatDoor

namespace Go.Proofs.YtijjkonephjodaaGreatDoor

theorem abv_contained {l : List Asc} {x e : Ent} (h : abv l x e = true) : x ∈ l.map (·.inn) := by
  obtain ⟨k, hk⟩ := abv_iff.1 h
  have h1 : (up l x 1).isSome := up_some_le (k := k + 1) (by rw [hk]; rfl) (by omega)
  obtain ⟨p, hp⟩ := Option.isSome_iff_exists.1 h1
  obtain ⟨a, ha, hin, _⟩ := par_mem (show par l x = some p from hp)
  exact List.mem_map.2 ⟨a, ha, hin⟩
theorem mem_within {l : List Asc} {x e : Ent} : x ∈ withinL l e ↔ x = e ∨ abv l x e = true := by
  unfold withinL
  rw [List.mem_cons, List.mem_filter]
  exact or_congr_right ⟨fun h => h.2, fun h => ⟨abv_contained h, h⟩⟩
def insE (a : Ent) : List Ent → List Ent
  | [] => [a]
  | b :: L => if ltE a b then a :: b :: L else b :: insE a L
theorem insE_perm (a : Ent) : ∀ L : List Ent, (insE a L).Perm (a :: L)
  | [] => List.Perm.refl _
  | b :: L => by
    unfold insE
    split
    · exact List.Perm.refl _
    · exact ((insE_perm a L).cons b).trans (List.Perm.swap a b L)
theorem insE_srt (a : Ent) : ∀ {L : List Ent}, srtE L → srtE (insE a L)
  | [], _ => by simp [insE, srtE]
  | b :: L, h => by
    have h := h
    unfold srtE at h
    obtain ⟨h1, h2⟩ := List.pairwise_cons.1 h
    unfold insE
    split
    · rename_i hab
      refine List.pairwise_cons.2 ⟨fun c hc => ?_, h⟩
      intro hca
      cases hc with
      | head => exact ltE_irrefl _ (ltE_trans hab hca)
      | tail _ hc => exact h1 c hc (ltE_trans hca hab)
    · rename_i hab
      refine List.pairwise_cons.2 ⟨fun c hc => ?_, insE_srt a h2⟩
      rcases List.mem_cons.1 ((insE_perm a L).mem_iff.1 hc) with h3 | h3
      · subst h3; exact hab
      · exact h1 c h3
def isortE (L : List Ent) : List Ent := L.foldl (fun o a => insE a o) []
theorem isort_gen : ∀ (L o : List Ent), srtE o → (L.foldl (fun o a => insE a o) o).Perm (L ++ o) ∧ srtE (L.foldl (fun o a => insE a o) o)
  | [], o, h => ⟨List.Perm.refl _, h⟩
  | a :: L, o, h => by
    have ⟨h1, h2⟩ := isort_gen L (insE a o) (insE_srt a h)
    refine ⟨?_, h2⟩
    refine h1.trans (((List.Perm.append_left L (insE_perm a o))).trans ?_)
    exact List.perm_middle
theorem isort_perm (L : List Ent) : (isortE L).Perm L := by
  have := (isort_gen L [] (by simp [srtE])).1
  rwa [List.append_nil] at this
theorem isort_srt (L : List Ent) : srtE (isortE L) := (isort_gen L [] (by simp [srtE])).2
/-- What is within an entity, ascending. -/
def wthL (l : List Asc) (e : Ent) : List Ent := isortE (withinL l e)
theorem sorted_is {l : List Asc} {e : Ent} {M : List Ent} (hp : M.Perm (withinL l e)) (hs : srtE M) : M = wthL l e :=
  srt_uniq (hp.trans (isort_perm _).symm) hs (isort_srt _)
theorem mem_wth {l : List Asc} {x e : Ent} : x ∈ wthL l e ↔ x = e ∨ abv l x e = true := by
  unfold wthL
  rw [(isort_perm _).mem_iff, mem_within]
theorem wthL_length (l : List Asc) (e : Ent) : (wthL l e).length ≤ l.length + 1 := by
  unfold wthL
  rw [(isort_perm _).length_eq]
  unfold withinL
  rw [List.length_cons]
  have := List.length_filter_le (fun x => abv l x e) (l.map (·.inn))
  rw [List.length_map] at this
  omega
/-- One round of the reference's insertion. -/
def insF (a : Ent) (q : List Ent × Bool) (b : Ent) : List Ent × Bool := if (!q.2 && decide (ltE a b)) = true then (q.1 ++ [a, b], true) else (q.1 ++ [b], q.2)
theorem insF_true (a : Ent) : ∀ (o p : List Ent), o.foldl (insF a) (p, true) = (p ++ o, true)
  | [], p => by simp
  | b :: o, p => by
    rw [List.foldl_cons]
    have : insF a (p, true) b = (p ++ [b], true) := by simp [insF]
    rw [this, insF_true a o]
    simp
theorem insF_false (a : Ent) : ∀ (o p : List Ent), (if (o.foldl (insF a) (p, false)).2 = true then (o.foldl (insF a) (p, false)).1 else (o.foldl (insF a) (p, false)).1 ++ [a]) = p ++ insE a o
  | [], p => by simp [insE]
  | b :: o, p => by
    rw [List.foldl_cons]
    by_cases h : ltE a b
    · have : insF a (p, false) b = (p ++ [a, b], true) := by simp [insF, h]
      rw [this, insF_true]
      simp [insE, h]
    · have : insF a (p, false) b = (p ++ [b], false) := by simp [insF, h]
      rw [this]
      have := insF_false a o (p ++ [b])
      rw [this]
      simp [insE, h]
theorem insF_len (a : Ent) : ∀ (o : List Ent) (q : List Ent × Bool), (o.foldl (insF a) q).1.length ≤ q.1.length + 2 * o.length
  | [], q => by simp
  | b :: o, q => by
    rw [List.foldl_cons]
    have := insF_len a o (insF a q b)
    have h2 : (insF a q b).1.length ≤ q.1.length + 2 := by unfold insF; split <;> simp
    rw [List.length_cons]
    omega
theorem isort_length (L : List Ent) : (isortE L).length = L.length := (isort_perm L).length_eq
theorem foldl_take_succ {α β : Type} (f : β → α → β) (b : β) (L : List α) (k : Nat) (h : k < L.length) (d : α) : (L.take (k + 1)).foldl f b = f ((L.take k).foldl f b) (L.getD k d) := by
  rw [List.take_succ_eq_append_getElem h, List.foldl_append, List.getD_eq_getElem?_getD, List.getElem?_eq_getElem h]
  rfl
/-- The reference's list: without an entity that is contained and asked for. -/
theorem within_ref {l : List Asc} {e : Ent} (hc : cycB l = false) : withinL l e = e :: (l.map (·.inn)).filter fun x => decide (x ≠ e) && abv l x e := by
  unfold withinL
  refine congrArg (e :: ·) (List.filter_congr fun x hx => ?_)
  by_cases h : x = e
  · subst h
    obtain ⟨a, ha, he⟩ := List.mem_map.1 hx
    have h2 := List.any_eq_false.1 hc a ha
    rw [he] at h2
    simp at h2
    simp [h2]
  · simp [h]
/-- The greatest severity within an entity. -/
def hlthI (l : List Asc) (ab : List Ent) (e : Ent) (o : Int) (c : Cnd) : Int := if (decide (c.ent ∈ wthL l e) && presB l ab c.ent) = true then max o c.sev else o
def hlthF (l : List Asc) (ab : List Ent) (e : Ent) (own : List Cnd) : Int := own.foldl (hlthI l ab e) 0
def sevOk (c : Cnd) : Bool := decide (0 ≤ c.sev) && decide (c.sev ≤ 3)
theorem hlth_rng {l : List Asc} {ab : List Ent} {e : Ent} : ∀ {own : List Cnd} {o : Int}, own.all sevOk = true → 0 ≤ o → o ≤ 3 → 0 ≤ own.foldl (hlthI l ab e) o ∧ own.foldl (hlthI l ab e) o ≤ 3
  | [], o, _, h1, h2 => ⟨h1, h2⟩
  | c :: own, o, h, h1, h2 => by
    rw [List.all_cons, Bool.and_eq_true] at h
    have h3 := h.1
    unfold sevOk at h3
    simp at h3
    rw [List.foldl_cons]
    refine hlth_rng h.2 ?_ ?_ <;> (unfold hlthI; split <;> omega)
end Go.Proofs.YtijjkonephjodaaGreatDoor

namespace Go.Proofs.YtijjkonephjodaaGreatDoor
open Go.RowKit

/-- A kind of element: its type, the slice's type, its cells. -/
structure Elt (α : Type) where
  ty : TypeId
  sl : TypeId
  k : Nat
  enc : α → List Value
  dflt : α
/-- What is owed of a kind of element, over a program. -/
structure Elt.Ok {α : Type} (E : Elt α) (P : Program) : Prop where
  len : ∀ a, (E.enc a).length = E.k
  one : ∀ a, ∀ v ∈ E.enc a, v.oneCell' = true
  pos : 0 < E.k
  und : P.underlying E.sl = some (.slice E.ty)
  info : ∃ i z, P.info? E.ty = some i ∧ i.zero = some z ∧ i.size = E.k ∧ i.bytes ≤ 1000 ∧ z.cells.size = E.k
section
variable {α : Type} {E : Elt α} {P : Program} {w W : World} {B B' : Nat} {v : Value} {l : List α} {S : List Nat}
/-- The slice v reads as the elements l. -/
def RdE (E : Elt α) (w : World) (v : Value) (l : List α) : Prop :=
  ∃ ad cap, v = .slice ad l.length cap ∧ l.length ≤ cap ∧ cap ≤ maxLen ∧ ∀ i, i < l.length → ∃ b off, ad = some ⟨b, off, none⟩ ∧ ∀ j, j < E.k → w.cell? ⟨b, off + i * E.k + j, none⟩ = (E.enc (l.getD i E.dflt))[j]?
def cellsE (E : Elt α) (l : List α) : List Value := l.flatMap E.enc
theorem cellsE_length (h : ∀ a, (E.enc a).length = E.k) : ∀ l : List α, (cellsE E l).length = l.length * E.k
  | [] => by simp [cellsE]
  | a :: l => by
    have := cellsE_length h l
    unfold cellsE at this ⊢
    rw [List.flatMap_cons, List.length_append, h, this, List.length_cons, Nat.succ_mul, Nat.add_comm]
theorem cellsE_append (l m : List α) : cellsE E (l ++ m) = cellsE E l ++ cellsE E m := by simp [cellsE]
theorem cellsE_get (h : ∀ a, (E.enc a).length = E.k) : ∀ (l : List α) (i : Nat), i < l.length → ∀ j, j < E.k → (cellsE E l)[i * E.k + j]? = (E.enc (l.getD i E.dflt))[j]?
  | [], i, hi, _, _ => by simp at hi
  | a :: l, 0, _, j, hj => by
    unfold cellsE
    rw [List.flatMap_cons, Nat.zero_mul, Nat.zero_add, List.getElem?_append_left (by rw [h]; exact hj)]
    rfl
  | a :: l, i + 1, hi, j, hj => by
    have := cellsE_get h l i (by simpa using hi) j hj
    unfold cellsE at this ⊢
    rw [List.flatMap_cons, Nat.succ_mul, List.getElem?_append_right (by rw [h]; omega), h, show i * E.k + E.k + j - E.k = i * E.k + j by omega, this, List.getD_cons_succ]
theorem RdE.nil (E : Elt α) (w : World) : RdE E w (.slice none 0 0) [] := ⟨none, 0, rfl, Nat.le_refl _, Nat.zero_le _, fun i hi => by simp at hi⟩
theorem RdE.len (h : RdE E w v l) : ∃ ad cap, v = .slice ad l.length cap := by obtain ⟨ad, cap, rfl, _⟩ := h; exact ⟨ad, cap, rfl⟩
theorem RdE.mods (hk : E.Ok P) (h : RdE E w v l) (hm : Mods S w W) (hn : l ≠ [] → ∀ k, v.ownBlock = some k → k ∉ S) : RdE E W v l := by
  obtain ⟨ad, cap, rfl, h1, h2, hc⟩ := h
  refine ⟨ad, cap, rfl, h1, h2, fun i hi => ?_⟩
  obtain ⟨b, off, rfl, hb⟩ := hc i hi
  refine ⟨b, off, rfl, fun j hj => ?_⟩
  have hx := hb j hj
  obtain ⟨u, hs⟩ : ∃ u, (E.enc (l.getD i E.dflt))[j]? = some u := ⟨_, List.getElem?_eq_getElem (by rw [hk.len]; exact hj)⟩
  rw [hs] at hx ⊢
  exact hm.cell hx (hn (by rintro rfl; simp at hi) b rfl)
theorem RdE.mods0 (hk : E.Ok P) (h : RdE E w v l) (hm : Mods [] w W) : RdE E W v l := h.mods hk hm fun _ _ _ => by simp
theorem RdE.block_lt (hk : E.Ok P) (h : RdE E w v l) (hl : l ≠ []) : ∀ k, v.ownBlock = some k → k < w.heap.size := by
  obtain ⟨ad, cap, rfl, _, _, hc⟩ := h
  intro k hk'
  obtain ⟨b, off, rfl, hb⟩ := hc 0 (List.length_pos_iff.2 hl)
  simp [Value.ownBlock] at hk'
  subst hk'
  have hx := hb 0 hk.pos
  obtain ⟨u, hs⟩ : ∃ u, (E.enc (l.getD 0 E.dflt))[0]? = some u := ⟨_, List.getElem?_eq_getElem (by rw [hk.len]; exact hk.pos)⟩
  rw [hs] at hx
  exact World.block_lt_of_cell? w _ hx
/-- The slice's one address, if it has elements. -/
theorem RdE.at (h : RdE E w v l) (hl : 0 < l.length) : ∃ bb off cap, v = .slice (some ⟨bb, off, none⟩) l.length cap ∧ l.length ≤ cap ∧ cap ≤ 9223372036854775807 ∧ ∀ i, i < l.length → ∀ j, j < E.k → w.cell? ⟨bb, off + i * E.k + j, none⟩ = (E.enc (l.getD i E.dflt))[j]? := by
  obtain ⟨ad, cap, rfl, h1, h2, hc⟩ := h
  obtain ⟨b, off, rfl, _⟩ := hc 0 hl
  refine ⟨b, off, cap, rfl, h1, h2, fun i hi j hj => ?_⟩
  obtain ⟨b', off', he, hb⟩ := hc i hi
  injection he with he
  injection he with h1 h2
  subst h1 h2
  exact hb j hj
/-- A whole element lies in a row. -/
theorem RdE.range {bb off cap : Nat} (h : RdE E w (.slice (some ⟨bb, off, none⟩) l.length cap) l) {i : Nat} (hi : i < l.length) (hk : ∀ a, (E.enc a).length = E.k) : w.rangeAt bb (off + i * E.k) (E.enc (l.getD i E.dflt)) := by
  intro j u hu
  have hj : j < E.k := by rw [← hk (l.getD i E.dflt)]; exact (List.getElem?_eq_some_iff.1 hu).1
  obtain ⟨ad, cap', he, h1, h2, hc⟩ := h
  obtain ⟨b', off', he', hb⟩ := hc i hi
  injection he with he _ _
  rw [← he] at he'
  injection he' with he'
  injection he' with h1 h2
  subst h1 h2
  rw [hb j hj, hu]
/-- The slice v is the call's own from block B on and holds the elements l. -/
def OwnE (E : Elt α) (w : World) (B : Nat) (v : Value) (l : List α) : Prop := w.ownsRow B E.ty E.k v l.length (cellsE E l)
theorem OwnE.rd (hk : E.Ok P) (h : OwnE E w B v l) : RdE E w v l := by
  obtain ⟨hl, h⟩ := h
  rcases h with ⟨rfl, h0⟩ | ⟨g, cap, cur, rfl, _, hg, h1, h2, h3, h4⟩
  · have : l = [] := List.eq_nil_of_length_eq_zero h0
    subst this
    exact RdE.nil E w
  · refine ⟨_, cap, rfl, h1, h2, fun i hi => ⟨g, 0, rfl, fun j hj => ?_⟩⟩
    have a := cellsE_get hk.len l i hi j hj
    have hlt : i * E.k + j < l.length * E.k := by
      have : (i + 1) * E.k ≤ l.length * E.k := Nat.mul_le_mul_right _ hi
      rw [Nat.succ_mul] at this
      omega
    rw [cell_blk hg, ← a, ← h4, List.getElem?_take, if_pos hlt]
    simp
theorem OwnE.mods (h : OwnE E w B v l) (hm : Mods S w W) (hS : ∀ k, v.ownBlock = some k → k ∉ S) : OwnE E W B v l := hm.owns h hS
theorem OwnE.mods0 (h : OwnE E w B v l) (hm : Mods [] w W) : OwnE E W B v l := h.mods hm (by simp)
theorem OwnE.lt (h : OwnE E w B v l) : ∀ k, v.ownBlock = some k → B ≤ k ∧ k < w.heap.size := fun k hk => World.ownsRow.lt h k hk
theorem OwnE.back (h : OwnE E w B v l) {k : Nat} (hk : k ∈ v.ownBlock.toList) : B ≤ k := (h.lt k (by simpa using hk)).1
theorem OwnE.nil (E : Elt α) (w : World) (B : Nat) : OwnE E w B (.slice none 0 0) [] := World.ownsRow_nil _ _ _ _
theorem OwnE.down (h : OwnE E w B v l) (hB : B' ≤ B) : OwnE E w B' v l := by
  obtain ⟨hl, h⟩ := h
  refine ⟨hl, ?_⟩
  rcases h with h | ⟨g, cap, cur, hv, hg, rest⟩
  · exact .inl h
  · exact .inr ⟨g, cap, cur, hv, by omega, rest⟩
theorem OwnE.form (h : OwnE E w B v l) (hn : 0 < l.length) : ∃ g cap, v = .slice (some ⟨g, 0, none⟩) l.length cap ∧ B ≤ g ∧ g < w.heap.size ∧ l.length ≤ cap ∧ cap ≤ 9223372036854775807 := by
  rcases h.2 with ⟨_, h0⟩ | ⟨g, cap, cur, rfl, hb, hg, h1, h2, _⟩
  · omega
  · exact ⟨g, cap, rfl, hb, lt_of_block hg, h1, h2⟩
theorem OwnE.lit (hk : E.Ok P) (w : World) {B : Nat} (hB : B ≤ w.heap.size) (l : List α) (hl : l.length ≤ maxLen) : OwnE E (w.alloc (.cells (cellsE E l).toArray E.ty)) B (.slice (some ⟨w.heap.size, 0, none⟩) l.length l.length) l := by
  have := World.ownsRow_lit (base := B) (size := E.k) (e := E.ty) w (cellsE E l).toArray l.length hB hl (by simp [cellsE_length hk.len])
  unfold OwnE
  exact this
/-- What is read, as cells to be appended. -/
theorem RdE.news (hk : E.Ok P) {bb off cap : Nat} (h : RdE E w (.slice (some ⟨bb, off, none⟩) l.length cap) l) : ∀ j u, (cellsE E l)[j]? = some u → w.cell? ((⟨bb, off, none⟩ : Addr).add j) = some u := by
  intro j u hu
  have hj : j < l.length * E.k := by rw [← cellsE_length hk.len l]; exact (List.getElem?_eq_some_iff.1 hu).1
  have hp := hk.pos
  have hi : j / E.k < l.length := Nat.div_lt_of_lt_mul (by rw [Nat.mul_comm]; exact hj)
  have hm : j % E.k < E.k := Nat.mod_lt _ hp
  have he : j / E.k * E.k + j % E.k = j := by rw [Nat.mul_comm]; exact Nat.div_add_mod j E.k
  have h1 := cellsE_get hk.len l _ hi _ hm
  rw [he, hu] at h1
  have h2 := h.range hi hk.len (j % E.k) u h1.symm
  rw [Nat.add_assoc, he] at h2
  have e1 : (⟨bb, off, none⟩ : Addr).add j = ⟨bb, off + j, none⟩ := by unfold Addr.add; split <;> simp_all
  rw [e1]; exact h2
end
section
variable {α : Type} {E : Elt α} {P : Program} {ops : Array Oper} {Q : Exit → Act → World → Prop}
/-- append of elements whatever the second slice is. -/
theorem wp_appE (hk : E.Ok P) {o : Oper} {a : Act} {w : World} {K : Act → World → Prop} (s x : Operand)
    (ho : o.op = .call { callee := .builtin .append, args := #[s, x], argTypes := #[E.sl, E.sl] })
    {B : Nat} {v : Value} {A : List α} (hs : a.eval s = v) (hown : OwnE E w B v A) {vx : Value} {X : List α} (hx : a.eval x = vx) (hX : RdE E w vx X)
    (hn : A.length + X.length ≤ 1000000) (hB : B ≤ w.heap.size)
    (h : ∀ v' w', OwnE E w' B v' (A ++ X) → Mods v.ownBlock.toList w w' → K (a.put o.dst v') w') : Oper.wp P o a w K Q := by
  obtain ⟨i0, z, hi, hz0, hz1, hz2, hz3⟩ := hk.info
  have hX' := hX
  obtain ⟨ad, cap, rfl, hc1, hc2, hc⟩ := hX
  cases ad with
  | none =>
    have hX0 : X = [] := by
      cases X with
      | nil => rfl
      | cons y l => obtain ⟨b, off, h0, _⟩ := hc 0 (by simp); cases h0
    subst hX0
    have hrun : ∀ ty, (Builtin.append_ #[E.sl, E.sl] ty #[v, .slice none 0 cap]).run P w = .ok v w := by
      intro ty
      rcases hown.2 with ⟨rfl, _⟩ | ⟨g, cp, cur, rfl, _, _, hnc, _⟩
      · simp [Builtin.append_, run_underlying hk.und, sizeOf, typeInfo, hi, Builtin.lenOf, Builtin.firstCells]
      · simp [Builtin.append_, run_underlying hk.und, sizeOf, typeInfo, hi, Builtin.lenOf, Builtin.firstCells, hnc, storeCells]
    unfold Oper.wp
    simp [execOp, ho, resolve, invoke, builtin, hs, hx, hrun, Result.andThen]
    exact h v w (by rw [List.append_nil]; exact hown) Mods.refl
  | some ad =>
    obtain ⟨bb, off, hb⟩ : ∃ bb off, ad = ⟨bb, off, none⟩ ∨ X = [] := by
      cases X with
      | nil => exact ⟨0, 0, .inr rfl⟩
      | cons y l => obtain ⟨b, off, h0, _⟩ := hc 0 (by simp); injection h0 with h0; exact ⟨b, off, .inl h0⟩
    refine wp_append_own w s x _ ho B E.ty i0 z E.k i0.bytes hk.und hi hz0 hz1 rfl hz3 hk.pos v _ (cellsE E A) hs hown ad X.length cap (cellsE E X) hx (cellsE_length hk.len X) ?_ ?_ (by unfold maxLen; omega) ?_ hB ?_
    · rcases hb with rfl | rfl
      · exact hX'.news hk
      · intro j u hu; simp [cellsE] at hu
    · intro u hu
      unfold cellsE at hu
      obtain ⟨c, _, hc'⟩ := List.mem_flatMap.1 hu
      exact hk.one c u hc'
    · have : (A.length + X.length) * i0.bytes ≤ 1000000 * 1000 := Nat.mul_le_mul hn hz2
      omega
    · intro v' w' h1 h2 _
      refine h v' w' ?_ (Mods.of_grown h2)
      unfold OwnE
      rw [cellsE_append, List.length_append]
      exact h1
theorem step_appE (hk : E.Ok P) {o : Oper} {a : Act} {w : World} {K : Act → World → Prop} {F : Prop} (hw : Region.wanted o (yielded ops a.tmps) = true) (d : Nat) (hd : o.dst = some d) (s x : Operand)
    (ho : o.op = .call { callee := .builtin .append, args := #[s, x], argTypes := #[E.sl, E.sl] })
    {B : Nat} {v : Value} {A : List α} (hs : a.eval s = v) (hown : OwnE E w B v A) {vx : Value} {X : List α} (hx : a.eval x = vx) (hX : RdE E w vx X)
    (hn : A.length + X.length ≤ 1000000) (hB : B ≤ w.heap.size)
    (h : ∀ v' w', OwnE E w' B v' (A ++ X) → Mods v.ownBlock.toList w w' → K { a with tmps := a.tmps.setIfInBounds d v' } w') :
    if Region.wanted o (yielded ops a.tmps) = true then Oper.wp P o a w K Q else F := by
  rw [if_pos hw]
  exact wp_appE hk s x ho hs hown hx hX hn hB fun v' w' h1 h2 => by unfold Act.put; rw [hd]; exact h v' w' h1 h2
theorem wpList_appE (hk : E.Ok P) {rest : List Oper} {o : Oper} {a : Act} {w : World} (hw : Region.wanted o (yielded ops a.tmps) = true) (s x : Operand)
    (ho : o.op = .call { callee := .builtin .append, args := #[s, x], argTypes := #[E.sl, E.sl] })
    {B : Nat} {v : Value} {A : List α} (hs : a.eval s = v) (hown : OwnE E w B v A) {vx : Value} {X : List α} (hx : a.eval x = vx) (hX : RdE E w vx X)
    (hn : A.length + X.length ≤ 1000000) (hB : B ≤ w.heap.size)
    (h : ∀ v' w', OwnE E w' B v' (A ++ X) → Mods v.ownBlock.toList w w' → wpList P ops Q rest (a.put o.dst v') w') : wpList P ops Q (o :: rest) a w :=
  wpList_step fun _ hK => by
    rw [if_pos hw]
    exact wp_appE hk s x ho hs hown hx hX hn hB fun v' w' h1 h2 => hK _ _ (h v' w' h1 h2)
/-- append of one element that lies in a block of its own. -/
theorem RdE.one {w : World} {g : Nat} {a : α} {cs : Array Value} {T : TypeId} {fr : Nat × Nat} (hg : w.heap[g]? = some (.cells cs T fr)) (he : cs.toList = E.enc a) : RdE E w (.slice (some ⟨g, 0, none⟩) 1 1) [a] := by
  refine ⟨some ⟨g, 0, none⟩, 1, rfl, Nat.le_refl _, by unfold maxLen; omega, fun i hi => ⟨g, 0, rfl, fun j hj => ?_⟩⟩
  have : i = 0 := by simpa using hi
  subst this
  rw [cell_blk hg, ← Array.getElem?_toList, he]
  simp
end
end Go.Proofs.YtijjkonephjodaaGreatDoor

namespace Go.Proofs.YtijjkonephjodaaGreatDoor
open Go.RowKit

def Ent.cells (e : Ent) : List Value := [.int .u8 ((e.id.val : Nat) : Int), .int .u8 ((e.inst.val : Nat) : Int)]
def Asc.cells (x : Asc) : List Value := [.int .u8 ((x.out.id.val : Nat) : Int), .int .u8 ((x.out.inst.val : Nat) : Int), .int .u8 ((x.inn.id.val : Nat) : Int), .int .u8 ((x.inn.inst.val : Nat) : Int)]
def Cnd.cells (c : Cnd) : List Value := [.int .u8 ((c.ent.id.val : Nat) : Int), .int .u8 ((c.ent.inst.val : Nat) : Int), .int .i64 c.sev]
def entE : Elt Ent := ⟨31, 29, 2, Ent.cells, default⟩
def ascE : Elt Asc := ⟨111, 67, 4, Asc.cells, default⟩
def cndE : Elt Cnd := ⟨148, 146, 3, Cnd.cells, default⟩
theorem Tryz.infoEnt : (Tryz.prog.info? 31).map (fun i => (i.zero, i.size, i.bytes)) = some (some (.agg #[.int .u8 0, .int .u8 0]), 2, 2) := by kernel_rfl
theorem Tryz.infoAsc : (Tryz.prog.info? 111).map (fun i => (i.zero, i.size, i.bytes)) = some (some (.agg #[.int .u8 0, .int .u8 0, .int .u8 0, .int .u8 0]), 4, 4) := by kernel_rfl
theorem Tryz.infoCnd : (Tryz.prog.info? 148).map (fun i => (i.zero, i.size, i.bytes)) = some (some (.agg #[.int .u8 0, .int .u8 0, .int .i64 0]), 3, 16) := by kernel_rfl
theorem entOk : entE.Ok Tryz.prog := by
  refine ⟨fun _ => rfl, fun a v hv => ?_, by decide, Tryz.underlying29, ?_⟩
  · simp [entE, Ent.cells] at hv
    rcases hv with rfl | rfl <;> rfl
  · obtain ⟨i0, hi, hz0, hz1, hz2⟩ := info_parts Tryz.infoEnt
    exact ⟨i0, _, hi, hz0, hz1, by rw [hz2]; decide, rfl⟩
theorem ascOk : ascE.Ok Tryz.prog := by
  refine ⟨fun _ => rfl, fun a v hv => ?_, by decide, Tryz.underlying67, ?_⟩
  · simp [ascE, Asc.cells] at hv
    rcases hv with rfl | rfl | rfl | rfl <;> rfl
  · obtain ⟨i0, hi, hz0, hz1, hz2⟩ := info_parts Tryz.infoAsc
    exact ⟨i0, _, hi, hz0, hz1, by rw [hz2]; decide, rfl⟩
theorem cndOk : cndE.Ok Tryz.prog := by
  refine ⟨fun _ => rfl, fun a v hv => ?_, by decide, Tryz.underlying146, ?_⟩
  · simp [cndE, Cnd.cells] at hv
    rcases hv with rfl | rfl | rfl <;> rfl
  · obtain ⟨i0, hi, hz0, hz1, hz2⟩ := info_parts Tryz.infoCnd
    exact ⟨i0, _, hi, hz0, hz1, by rw [hz2]; decide, rfl⟩
section
variable {w : World} {v : Value}
/-- The cells of a slice of associations, written out. -/
theorem RdE.asc {l : List Asc} (h : RdE ascE w v l) (hl : 0 < l.length) : ∃ bb off cap, v = .slice (some ⟨bb, off, none⟩) l.length cap ∧ l.length ≤ cap ∧ cap ≤ 9223372036854775807 ∧ ∀ i, i < l.length →
    w.cell? ⟨bb, off + i * 4, none⟩ = some (.int .u8 (((l.getD i default).out.id.val : Nat) : Int)) ∧ w.cell? ⟨bb, off + i * 4 + 1, none⟩ = some (.int .u8 (((l.getD i default).out.inst.val : Nat) : Int)) ∧
    w.cell? ⟨bb, off + i * 4 + 2, none⟩ = some (.int .u8 (((l.getD i default).inn.id.val : Nat) : Int)) ∧ w.cell? ⟨bb, off + i * 4 + 3, none⟩ = some (.int .u8 (((l.getD i default).inn.inst.val : Nat) : Int)) := by
  obtain ⟨bb, off, cap, hv, h1, h2, hc⟩ := h.at hl
  exact ⟨bb, off, cap, hv, h1, h2, fun i hi => ⟨hc i hi 0 (by decide), hc i hi 1 (by decide), hc i hi 2 (by decide), hc i hi 3 (by decide)⟩⟩
theorem RdE.ent {l : List Ent} (h : RdE entE w v l) (hl : 0 < l.length) : ∃ bb off cap, v = .slice (some ⟨bb, off, none⟩) l.length cap ∧ l.length ≤ cap ∧ cap ≤ 9223372036854775807 ∧ ∀ i, i < l.length →
    w.cell? ⟨bb, off + i * 2, none⟩ = some (.int .u8 (((l.getD i default).id.val : Nat) : Int)) ∧ w.cell? ⟨bb, off + i * 2 + 1, none⟩ = some (.int .u8 (((l.getD i default).inst.val : Nat) : Int)) := by
  obtain ⟨bb, off, cap, hv, h1, h2, hc⟩ := h.at hl
  exact ⟨bb, off, cap, hv, h1, h2, fun i hi => ⟨hc i hi 0 (by decide), hc i hi 1 (by decide)⟩⟩
theorem RdE.cnd {l : List Cnd} (h : RdE cndE w v l) (hl : 0 < l.length) : ∃ bb off cap, v = .slice (some ⟨bb, off, none⟩) l.length cap ∧ l.length ≤ cap ∧ cap ≤ 9223372036854775807 ∧ ∀ i, i < l.length →
    w.cell? ⟨bb, off + i * 3, none⟩ = some (.int .u8 (((l.getD i default).ent.id.val : Nat) : Int)) ∧ w.cell? ⟨bb, off + i * 3 + 1, none⟩ = some (.int .u8 (((l.getD i default).ent.inst.val : Nat) : Int)) ∧ w.cell? ⟨bb, off + i * 3 + 2, none⟩ = some (.int .i64 (l.getD i default).sev) := by
  obtain ⟨bb, off, cap, hv, h1, h2, hc⟩ := h.at hl
  exact ⟨bb, off, cap, hv, h1, h2, fun i hi => ⟨hc i hi 0 (by decide), hc i hi 1 (by decide), hc i hi 2 (by decide)⟩⟩
theorem RdE.bound {α : Type} {E : Elt α} {l : List α} (h : RdE E w v l) : l.length ≤ 9223372036854775807 := by obtain ⟨_, _, he, h1, h2, _⟩ := h; exact Nat.le_trans h1 h2
end
/-- Entities compared. -/
theorem ent_eq (a b c d : Fin 256) (w : World) : (binOp .eql 31 (.agg #[.int .u8 ((a.val : Nat) : Int), .int .u8 ((b.val : Nat) : Int)]) (.agg #[.int .u8 ((c.val : Nat) : Int), .int .u8 ((d.val : Nat) : Int)])).run Tryz.prog w = .ok (.bool (decide ((⟨a, b⟩ : Ent) = ⟨c, d⟩))) w := by
  go_simp
  by_cases h1 : a = c
  · subst h1
    by_cases h2 : b = d
    · subst h2; simp
    · have h3 : ¬ b.val = d.val := fun h => h2 (Fin.ext h)
      simp [h2]
      omega
  · have h3 : ¬ a.val = c.val := fun h => h1 (Fin.ext h)
    simp [h1]
    omega
end Go.Proofs.YtijjkonephjodaaGreatDoor

namespace Go.Proofs.YtijjkonephjodaaGreatDoor
open Go.RowKit

/-- An entity in a block of its own. -/
def EntBox (w : World) (g : Nat) (e : Ent) : Prop := w.heap[g]? = some (.cells e.cells.toArray 31 (0, 0))
theorem EntBox.new (w : World) (e : Ent) : EntBox (w.alloc (.cells e.cells.toArray 31)) w.heap.size e := heap_alloc_new w _
theorem EntBox.mods {S : List Nat} {w w' : World} {g : Nat} {e : Ent} (h : EntBox w g e) (M : Mods S w w') (hg : g ∉ S) : EntBox w' g e := M.heap h hg
theorem EntBox.mods0 {w w' : World} {g : Nat} {e : Ent} (h : EntBox w g e) (M : Mods [] w w') : EntBox w' g e := h.mods M (by simp)
theorem EntBox.c0 {w : World} {g : Nat} {e : Ent} (h : EntBox w g e) : w.cell? ⟨g, 0, none⟩ = some (.int .u8 ((e.id.val : Nat) : Int)) := (cell_blk h 0).trans rfl
theorem EntBox.c1 {w : World} {g : Nat} {e : Ent} (h : EntBox w g e) : w.cell? ⟨g, 1, none⟩ = some (.int .u8 ((e.inst.val : Nat) : Int)) := (cell_blk h 1).trans rfl
theorem EntBox.lt {w : World} {g : Nat} {e : Ent} (h : EntBox w g e) : g < w.heap.size := lt_of_block h

set_option maxHeartbeats 400000 in
theorem parent1_ok (w : World) (g : Nat) (x : Asc) (e : Ent) (hg : EntBox w g e) :
    Calls Tryz.prog 148 #[.agg x.cells.toArray, .pointer (some ⟨g, 0, none⟩)] w fun en w' => en = .returned (.bool (decide (x.inn = e))) ∧ Mods [] w w' := by
  obtain ⟨⟨a, b⟩, ⟨c, d⟩⟩ := x
  obtain ⟨p, q⟩ := e
  have M0 := Lib.hid ((Mods.refl (S := []) (w := w)).alloc (.cells (Asc.cells ⟨⟨a, b⟩, ⟨c, d⟩⟩).toArray 111))
  have h0 := (hg.mods0 M0.out).c0
  have h1 := (hg.mods0 M0.out).c1
  have hE := fun w => ent_eq c d p q w
  clear hg
  generalize decide ((⟨c, d⟩ : Ent) = ⟨p, q⟩) = r at hE ⊢
  simp only [Asc.cells] at *
  go_enter Tryz.func148, Tryz.ntmps148
  go_wp2
  go_ret
  exact ⟨rfl, M0.out⟩
/-- The place of an entity among the contained ones. -/
def inIdx (l : List Asc) (e : Ent) : Nat := l.findIdx fun x => decide (x.inn = e)
theorem inIdx_le (l : List Asc) (e : Ent) : inIdx l e ≤ l.length := List.findIdx_le_length
theorem inIdx_par (l : List Asc) (e : Ent) : par l e = if inIdx l e < l.length then some (l.getD (inIdx l e) default).out else none := by
  induction l with
  | nil => rfl
  | cons a l ih =>
    unfold par inIdx
    rw [List.findIdx_cons]
    by_cases h : a.inn = e
    · simp [h]
    · have hi : decide (a.inn = e) = false := decide_eq_false h
      rw [hi, if_neg h, ih]
      show _ = if inIdx l e + 1 < (a :: l).length then some ((a :: l).getD (inIdx l e + 1) default).out else none
      rw [List.getD_cons_succ, List.length_cons]
      simp
def idxA (l : List Asc) (e : Ent) : Int := if inIdx l e = l.length then -1 else (inIdx l e : Nat)
set_option maxRecDepth 100000 in
set_option maxHeartbeats 2000000 in
theorem idxA_ok (w : World) (g : Nat) (l : List Asc) (e : Ent) (hg : EntBox w g e) (v : Value) (hv : RdE ascE w v l) :
    Calls Tryz.prog 147 #[v, .func (.func 148) #[] #[.pointer (some ⟨g, 0, none⟩)]] w fun en w' => en = .returned (.int .i64 (idxA l e)) ∧ Mods [] w w' := by
  obtain ⟨ad, cap, rfl⟩ := hv.len
  have HV := Lib.hid hv
  have HG := Lib.hid hg
  obtain ⟨K, hK⟩ : ∃ K, K = inIdx l e := ⟨_, rfl⟩
  have HB := Lib.hid (fun j (hj : j < K) => show decide ((l.getD j default).inn = e) = false from by
    have hj2 : j < l.length := by have := inIdx_le l e; omega
    have := List.not_of_lt_findIdx (p := fun x : Asc => decide (x.inn = e)) (xs := l) (i := j) (by rw [hK] at hj; exact hj)
    rw [List.getD_eq_getElem?_getD, List.getElem?_eq_getElem hj2]
    simpa using this)
  have HA := Lib.hid (fun (h : K < l.length) => show decide ((l.getD K default).inn = e) = true from by
    have := List.findIdx_getElem (p := fun x : Asc => decide (x.inn = e)) (xs := l) (w := by rw [hK] at h; exact h)
    rw [List.getD_eq_getElem?_getD, List.getElem?_eq_getElem h]
    subst hK
    exact this)
  have hKl : K ≤ l.length := hK ▸ inIdx_le _ _
  have HI := Lib.hid (show idxA l e = if K = l.length then -1 else (K : Int) by unfold idxA; rw [← hK])
  generalize idxA l e = V at HI ⊢
  have hcap : l.length ≤ 9223372036854775807 := by obtain ⟨_, _, he, h1, h2, _⟩ := hv; exact Nat.le_trans h1 h2
  clear hv hg hK
  go_enter Tryz.func147, Tryz.ntmps147
  go_wp2_with fail
  go_loopw [8] (fun i wr => ∃ k : Nat, k ≤ K ∧ i = .int .i64 k ∧ Mods [] w wr) (fun i _ => K - (intOf i).toNat)
  case atStart => exact ⟨0, Nat.zero_le _, rfl, Mods.refl⟩
  case round =>
    obtain ⟨k, hk, rfl, M⟩ := hrel
    have i0 : (0 : Int) ≤ (k : Int) := by omega
    by_cases hlt : k < l.length
    · have i1 : (k : Int) < (l.length : Int) := by omega
      obtain ⟨bb, off, cap, hv2, _, _, hc⟩ := (HV.out.mods0 ascOk M).asc (by omega)
      injection hv2 with hv3 _ hv4
      subst hv3 hv4
      obtain ⟨y0, y1, y2, y3⟩ := hc k hlt
      have BF := Lib.hid (parent1_ok wr g (l.getD k default) e (HG.out.mods0 M))
      have HBk := Lib.hid (HB.out k)
      have HAk := Lib.hid (fun h : k = K => show decide ((l.getD k default).inn = e) = true from by rw [h]; exact HA.out (h ▸ hlt))
      generalize (l.getD k default) = x at y0 y1 y2 y3 BF HBk HAk
      have HM := Lib.hid M
      clear hc M
      by_cases hkK : k < K
      · have HD := Lib.hid (HBk.out hkK)
        go_wp2_with fail
        refine BF.out.mono ?_
        rw [HD.out]
        rintro en w2 ⟨rfl, M2⟩
        have HM2 := Lib.hid (HM.out.trans M2)
        clear M2
        go_wp2_with fail
        go_roundw
        case rel => exact ⟨k + 1, by omega, by go_num, HM2.out⟩
        case measure => simp [intOf]; omega
      · obtain rfl : k = K := by omega
        have HD := Lib.hid (HAk.out rfl)
        have HRES := Lib.hid (show V = (k : Int) by rw [HI.out, if_neg (by omega)])
        go_wp2_with fail
        refine BF.out.mono ?_
        rw [HD.out]
        rintro en w2 ⟨rfl, M2⟩
        have HM2 := Lib.hid (HM.out.trans M2)
        clear M2
        go_wp2_with fail
        go_ret
        exact ⟨ret_int HRES.out.symm, HM2.out⟩
    · have HRES := Lib.hid (show V = -1 by rw [HI.out, if_pos (by omega)])
      have i1 : ¬ (k : Int) < (l.length : Int) := by omega
      go_wp2_with fail
      go_ret
      exact ⟨ret_int HRES.out.symm, M⟩
end Go.Proofs.YtijjkonephjodaaGreatDoor

namespace Go.Proofs.YtijjkonephjodaaGreatDoor
open Go.RowKit

def parV (l : List Asc) (e : Ent) : Ent := (par l e).getD default
def ParRes (w : World) (l : List Asc) (e : Ent) (en : Ending) (w' : World) : Prop := en = .returned (.tuple #[.agg (parV l e).cells.toArray, .bool (par l e).isSome]) ∧ Mods [] w w'
theorem Tryz.sizeEnt : (Tryz.prog.info? 31).map (·.size) = some 2 := by kernel_rfl
/-- The end of Parent: an entity was stored into the result's block. -/
theorem ent_stored {w w3 : World} {g : Nat} {c : Array Value} (a b : Fin 256) (hc : c.size = 2) (hg : w.heap.size ≤ g) (R : w3.heap[g]? = some (.cells c 31 (0, 0))) (M : Mods [] w w3) :
    ((w3.setCell ⟨g, 0, none⟩ (.int .u8 ((a.val : Nat) : Int))).setCell ⟨g, 1, none⟩ (.int .u8 ((b.val : Nat) : Int))).heap[g]? = some (.cells (Ent.cells ⟨a, b⟩).toArray 31 (0, 0)) ∧
    Mods [] w ((w3.setCell ⟨g, 0, none⟩ (.int .u8 ((a.val : Nat) : Int))).setCell ⟨g, 1, none⟩ (.int .u8 ((b.val : Nat) : Int))) := by
  refine ⟨?_, (M.setCell (.inr hg) _).setCell (.inr hg) _⟩
  rw [heap_setCell (heap_setCell R)]
  obtain ⟨c⟩ := c
  match c, hc with
  | [x, y], _ => rfl
set_option maxRecDepth 100000 in
set_option maxHeartbeats 2000000 in
theorem parent_ok (w : World) (l : List Asc) (e : Ent) (v : Value) (hv : RdE ascE w v l) :
    Calls Tryz.prog 116 #[v, .agg e.cells.toArray] w fun en w' => ParRes w l e en w' := by
  obtain ⟨ad, cap, rfl⟩ := hv.len
  have HV := Lib.hid hv
  have hcap := hv.bound
  have M0 := ((Mods.refl (S := []) (w := w)).alloc (.cells e.cells.toArray 31)).alloc (.cells #[.int .u8 0, .int .u8 0] 31)
  have B0 := EntBox.mods0 (EntBox.new w e) ((Mods.refl (S := [])).alloc (.cells #[.int .u8 0, .int .u8 0] 31))
  have R0 := heap_alloc_new (w.alloc (.cells e.cells.toArray 31)) (.cells #[.int .u8 0, .int .u8 0] 31)
  rw [World.size_alloc] at R0
  have HI := Lib.hid (inIdx_par l e)
  have HIL := Lib.hid (inIdx_le l e)
  have HXI := Lib.hid (show idxA l e = if inIdx l e = l.length then (-1 : Int) else ((inIdx l e : Nat) : Int) from rfl)
  have HPV := Lib.hid (show parV l e = (par l e).getD default from rfl)
  have HR := Lib.hid (fun (en : Ending) (w' : World) (h : en = .returned (.tuple #[.agg (parV l e).cells.toArray, .bool (par l e).isSome]) ∧ Mods [] w w') => show ParRes w l e en w' from h)
  have HXK := Lib.hid (fun (W : World) (g : Nat) (hg : EntBox W g e) (M : Mods [] w W) => idxA_ok W g l e hg _ (HV.out.mods0 ascOk M))
  generalize par l e = po at HI HPV HR ⊢
  generalize parV l e = pv at HPV HR ⊢
  generalize idxA l e = ix at HXI HXK
  generalize inIdx l e = K at HI HIL HXI
  have H0 := Lib.hid hv
  clear hv
  go_enter Tryz.func116, Tryz.ntmps116
  go_wp2_with fail
  generalize ((w.alloc (.cells e.cells.toArray 31)).alloc (.cells #[.int .u8 0, .int .u8 0] 31)) = w2 at B0 R0 M0 ⊢
  refine (HXK.out w2 w.heap.size B0 M0).mono ?_
  rintro en w3 ⟨rfl, M3⟩
  have R3 := Lib.hid (M3.heap R0 (by simp))
  have HM := Lib.hid (M0.trans M3)
  have hgs : w.heap.size ≤ w.heap.size + 1 := by omega
  clear B0 R0 M0 M3 HXK
  generalize w.heap.size + 1 = g at R3 hgs ⊢
  have c0 : w3.cell? ⟨g, 0, none⟩ = some (.int .u8 0) := cell_blk R3.out 0
  have c1 : w3.cell? ⟨g, 1, none⟩ = some (.int .u8 0) := cell_blk R3.out 1
  have ff := fun i => froz_blk R3.out i
  by_cases hK : K = l.length
  · obtain rfl : ix = -1 := by rw [HXI.out, if_pos hK]
    have hpo : po = none := by rw [HI.out, if_neg (by omega)]
    subst hpo
    have hpv : pv = ⟨0, 0⟩ := HPV.out
    subst hpv
    clear hK
    go_wp2_with fail
    have ⟨S1, S2⟩ := ent_stored (w := w) 0 0 rfl hgs R3.out HM.out
    refine bodyPost_ret (results_cell_row2 rfl _ _ g _ _ _ _ rfl S1 Tryz.underlying31 rfl Tryz.sizeEnt) rfl ?_
    exact HR.out _ _ ⟨rfl, S2⟩
  · have hKl : K < l.length := by have := HIL.out; omega
    have hix : ix = (K : Int) := by rw [HXI.out, if_neg hK]
    subst hix
    have hpo : po = some (l.getD K default).out := by rw [HI.out, if_pos hKl]
    obtain ⟨bb, off, cap, hv2, _, _, hc⟩ := (H0.out.mods0 ascOk HM.out).asc (by omega)
    injection hv2 with hv3 _ hv4
    subst hv3 hv4
    obtain ⟨y0, y1, -, -⟩ := hc K hKl
    have i0 : (0 : Int) ≤ (K : Int) := by omega
    have i1 : (K : Int) < (l.length : Int) := by omega
    have hd : decide ((K : Int) < 0) = false := decide_eq_false (by omega)
    generalize (l.getD K default).out = x at hpo y0 y1
    subst hpo
    have hpv : pv = x := HPV.out
    subst hpv
    clear hc hK
    obtain ⟨a, b⟩ := pv
    go_wp2_with fail
    have ⟨S1, S2⟩ := ent_stored (w := w) a b rfl hgs R3.out HM.out
    refine bodyPost_ret (results_cell_row2 rfl _ _ g _ _ _ _ rfl S1 Tryz.underlying31 rfl Tryz.sizeEnt) rfl ?_
    exact HR.out _ _ ⟨rfl, S2⟩
end Go.Proofs.YtijjkonephjodaaGreatDoor
