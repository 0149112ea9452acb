/- ConvertDirections: the walk. -/
import Derived.Test.YtgjjmiaiclhidaaTwoK
import Derived.Test.YtgjjmiaiclhidaaValC
import Derived.Test.YtgjjmiaiclhidaaDirection
import Derived.Test.YtgjjmiaiclhidaaRefDirection
import Derived.Test.YtgjjmiaiclhidaaMadeOddC
namespace Go.Proofs.Ytgjjmiaiclhidaa
open Go.RowKit

set_option maxRecDepth 100000 in
set_option maxHeartbeats 4000000 in
theorem convertDirections_walk (w : World) (v : Value) (L : List Int) (hv : Rd w v (i64s L)) (hb : ∀ i, -9223372036854775808 ≤ L.getD i 0 ∧ L.getD i 0 ≤ 9223372036854775807) :
    Calls Try.prog 11 #[v] w fun e w' => e = .returned (.bool true) ∧ Mods [] w w' := by
  have HL := Lib.hid (light_ok w v L hv)
  have HV := Lib.hid hv
  have HB := Lib.hid hb
  clear hv hb
  by_cases hl : L.length ≤ 600
  · skip
    have HLL := Lib.hid (decide_eq_true hl)
    go_enter Try.func11, Try.ntmps11
    go_wp2_with fail
    refine HL.out.mono ?_
    rw [HLL.out]
    rintro e w' ⟨rfl, rfl⟩
    go_wp2_with fail
    refine (roll_ok w v L HV.out (by omega) HB.out).mono ?_
    rintro e w1 ⟨rfl, D1, M1, z1⟩
    have HM1 := Lib.hid M1
    have HD1 := Lib.hid D1
    have HBB := Lib.hid D1.lt
    have hwb := M1.size
    clear M1 z1 D1 HV HB HL
    go_wp2_with fail
    refine (conversion_ok w1 w.heap.size v L 0 HD1.out).mono ?_
    rintro e w2 ⟨C1, P1, n1, rfl, IC1, VC1, OP1, PL1, D2, M2⟩
    have HM2 := Lib.hid (show Mods [] w w2 from HM1.out.comp M2 (fun q hq => by simp at hq; exact .inr (by omega)))
    have HD2 := Lib.hid D2
    have HI1 := Lib.hid IC1
    have HN1 := Lib.hid (show ∀ q, C1.pts.ownBlock = some q → q ≠ w.heap.size from fun q hq => by have h1 := (OP1.own q hq).1; have := HBB.out; omega)
    clear D2 M2 IC1 VC1 OP1 PL1
    go_wp2_with fail
    refine (oddConversion_ok w2 w.heap.size v L n1 HD2.out).mono ?_
    rintro e w3 ⟨C2, P2, n2, rfl, IC2, OP2, PL2, D3, M3⟩
    have HM3 := Lib.hid (show Mods [] w w3 from HM2.out.comp M3 (fun q hq => by simp at hq; exact .inr (by omega)))
    have HD3 := Lib.hid D3
    replace HI1 := Lib.hid (HI1.out.mods M3 (fun _ q hq => by simpa using HN1.out q hq))
    have HI2 := Lib.hid IC2
    clear D3 M3 IC2 OP2 PL2 HN1 HD1 HD2 HBB HM1 HM2
    go_wp2_with (refine wpList_twoK rfl (.tmp 17) (.tmp 19) rfl 20 rfl C1 C2 rfl rfl ?_; intro cells hcells)
    have M5 := (Mods.refl (S := []) (w := w3)).alloc (.cells cells 26)
    have HI1 := Lib.hid (HI1.out.mods0 M5)
    have HI2 := Lib.hid (HI2.out.mods0 M5)
    have HM5 := Lib.hid (HM3.out.trans M5)
    have HR5 := Lib.hid (heap_alloc_new w3 (.cells cells 26))
    generalize w3.alloc (.cells cells 26) = w5 at HI1 HI2 HM5 HR5 ⊢
    generalize w3.heap.size = gx at HR5 ⊢
    clear M5 HM3
    have HSQ : Hid (∀ q, q < 2 → ∃ C P, IsConv w5 C P ∧ ∀ j, j < 7 → cells[q * 7 + j]? = C.cells[j]?) := Lib.hid (fun q hq => by
      match q, hq with
      | 0, _ => exact ⟨C1, P1, HI1.out, fun j hj => (hcells j hj).1⟩
      | 1, _ => exact ⟨C2, P2, HI2.out, fun j hj => (hcells j hj).2⟩)
    clear hcells HI1 HI2
    go_loopw [22] (fun i wr => ∃ q : Nat, q ≤ 2 ∧ i = .int .i64 q ∧ Mods [] w5 wr) (fun i _ => 2 - (intOf i).toNat)
    case atStart => exact ⟨0, by omega, rfl, Mods.refl⟩
    case round =>
      obtain ⟨q, hq, rfl, M⟩ := hrel
      by_cases hq2 : q < 2
      · obtain ⟨C, P, IC, hg⟩ := HSQ.out q hq2
        have hone := Lib.hid (Conv.one C IC.rd.one)
        have HIC := Lib.hid (IC.mods0 M)
        have HRG := Lib.hid (show wr.rangeAt gx (q * 7) C.cells.toList from fun j u hu => by
          have hj : j < 7 := (List.getElem?_eq_some_iff.1 hu).1
          have h4 : w5.cell? ⟨gx, q * 7 + j, none⟩ = some u := by rw [cell_blk HR5.out, hg j hj, ← hu]; simp
          exact M.cell h4 (by simp))
        have HM := Lib.hid M
        have i1 : (0 : Int) ≤ (q : Int) := by omega
        have i2 : (q : Int) < 2 := by omega
        clear M IC hg
        have V1 := Lib.hid (fun W (M : Mods [] wr W) => direction_ok W C P (HIC.out.mods0 M))
        have V2 := Lib.hid (fun W (M : Mods [] wr W) => refDirection_ok W C P (HIC.out.mods0 M))
        generalize (dirI C P).1 = x1 at *
        generalize (dirI C P).2 = x2 at *
        have e1 : (x1 != x1) = false := by simp
        have e2 : (x2 != x2) = false := by simp
        go_wp2_with (first
          | (refine wpList_load_conv (C := C) rfl (.tmp 5) rfl HB6.out (by rfl) ?_)
          | (refine wpList_store_row (cs := C.cells) rfl 26 (.tmp 5) (.tmp 25) rfl (heap_alloc_new wr _) (by rfl) (by rfl) (by rfl) C.infoCC hone.out ?_; intro w6 R6 M6; have HB6 := Lib.hid R6; have HF6 := Lib.hid (fresh M6); clear R6 M6)
          | (refine wpList_load_mid rfl 26 (.tmp 24) rfl gx (q * 7) (by rfl) C.cells.toList _ HRG.out Try.underlying26 rfl C.infoCC ?_))
        generalize wr.heap.size = g7 at HB6 ⊢
        refine (V1.out _ HF6.out).mono ?_
        rintro e w7 ⟨rfl, M7⟩
        have HM7 := Lib.hid (HF6.out.trans M7)
        have HB7 := Lib.hid (M7.heap HB6.out (by simp))
        clear M7 HB6
        go_wp2_with (refine wpList_load_conv (C := C) rfl (.tmp 5) rfl HB7.out (by rfl) ?_)
        refine (V2.out _ HM7.out).mono ?_
        rintro e w8 ⟨rfl, M8⟩
        have HM8 := Lib.hid (HM.out.trans (HM7.out.trans M8))
        clear M8 HB7 V1 V2 HM7 HF6
        go_wp2_with fail
        exact ⟨⟨q + 1, by omega, by go_num, HM8.out⟩, by simp only [intOf]; omega⟩
      · have i2 : ¬ (q : Int) < 2 := by omega
        have HX := Lib.hid (HM5.out.trans M)
        clear M
        go_wp2_with fail
        refine (awakeC_ok _).mono ?_
        rintro e w11 ⟨rfl, M11⟩
        go_wp2
        go_ret
        exact ⟨rfl, HX.out.trans M11⟩
  · skip
    have HLL := Lib.hid (decide_eq_false hl)
    go_enter Try.func11, Try.ntmps11
    go_wp2_with fail
    refine HL.out.mono ?_
    rw [HLL.out]
    rintro e w' ⟨rfl, rfl⟩
    go_wp2_with fail
    refine (awakeC_ok _).mono ?_
    rintro e w1 ⟨rfl, M1⟩
    go_wp2
    go_ret
    exact ⟨rfl, M1⟩
end Go.Proofs.Ytgjjmiaiclhidaa
