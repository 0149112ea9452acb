/- ConvertNearest: the walk. -/
import Derived.Test.YtgjjmiaiclhidaaValD
import Derived.Test.YtgjjmiaiclhidaaValC
import Derived.Test.YtgjjmiaiclhidaaNearest
import Derived.Test.YtgjjmiaiclhidaaRefNearest
import Derived.Test.YtgjjmiaiclhidaaMadeOddC
import Derived.Test.YtgjjmiaiclhidaaBaseE
namespace Go.Proofs.Ytgjjmiaiclhidaa
open Go.RowKit

set_option maxRecDepth 100000 in
set_option maxHeartbeats 4000000 in
theorem convertNearest_walk (w : World) (v : Value) (L : List Int) (hv : Rd w v (i64s L)) (hb : ∀ i, -9223372036854775808 ≤ L.getD i 0 ∧ L.getD i 0 ≤ 9223372036854775807) (n0 : Int) (_hn0 : -9223372036854775808 ≤ n0 ∧ n0 ≤ 9223372036854775807) :
    Calls Try.prog 10 #[v, .int .i64 n0] w fun e w' => e = .returned (.bool true) ∧ Mods [] w w' := by
  have HL := Lib.hid (light_ok w v L hv)
  have HV := Lib.hid hv
  have HB := Lib.hid hb
  clear hv hb
  by_cases hl : L.length ≤ 600
  · skip
    have HLL := Lib.hid (decide_eq_true hl)
    go_enter Try.func10, Try.ntmps10
    go_wp2_with fail
    refine HL.out.mono ?_
    rw [HLL.out]
    rintro e w' ⟨rfl, rfl⟩
    go_wp2_with fail
    refine (roll_ok w v L HV.out (by omega) HB.out).mono ?_
    rintro e w1 ⟨rfl, D1, M1, z1⟩
    have HM1 := Lib.hid M1
    have HD1 := Lib.hid D1
    have HBB := Lib.hid D1.lt
    have hwb := M1.size
    clear M1 z1 D1 HV HB HL
    go_wp2_with fail
    refine (conversion_ok w1 w.heap.size v L 0 HD1.out).mono ?_
    rintro e w2 ⟨C1, P1, n1, rfl, IC1, VC1, OP1, PL1, D2, M2⟩
    have HM2 := Lib.hid (show Mods [] w w2 from HM1.out.comp M2 (fun q hq => by simp at hq; exact .inr (by omega)))
    have HD2 := Lib.hid D2
    have HI1 := Lib.hid IC1
    have HN1 := Lib.hid (show ∀ q, C1.pts.ownBlock = some q → q ≠ w.heap.size from fun q hq => by have h1 := (OP1.own q hq).1; have := HBB.out; omega)
    clear D2 M2 IC1 VC1 OP1 PL1
    go_wp2_with fail
    refine (oddConversion_ok w2 w.heap.size v L n1 HD2.out).mono ?_
    rintro e w3 ⟨C2, P2, n2, rfl, IC2, OP2, PL2, D3, M3⟩
    have HM3 := Lib.hid (show Mods [] w w3 from HM2.out.comp M3 (fun q hq => by simp at hq; exact .inr (by omega)))
    have HD3 := Lib.hid D3
    replace HI1 := Lib.hid (HI1.out.mods M3 (fun _ q hq => by simpa using HN1.out q hq))
    have HI2 := Lib.hid IC2
    have HN2 := Lib.hid (show ∀ q, C2.pts.ownBlock = some q → q ≠ w.heap.size from fun q hq => by have h1 := (OP2.own q hq).1; have := HD2.out.lt; omega)
    clear D3 M3 IC2 OP2 PL2
    go_wp2_with fail
    refine (micro_ok w3 w.heap.size v L n2 HD3.out).mono ?_
    rintro e w4 ⟨x, n3, rfl, hx1, hx2, D4, M4⟩
    have HM4 := Lib.hid (show Mods [] w w4 from HM3.out.comp M4 (fun q hq => by simp at hq; exact .inr (by omega)))
    replace HI1 := Lib.hid (HI1.out.mods M4 (fun _ q hq => by simpa using HN1.out q hq))
    replace HI2 := Lib.hid (HI2.out.mods M4 (fun _ q hq => by simpa using HN2.out q hq))
    clear D4 M4 HN1 HN2 HD1 HD2 HD3 HBB HM1 HM2 HM3
    have HA7 := Lib.hid (show ((w4.alloc (.cells #[.int .i64 0, .bool false, .int .i64 0, .int .i64 0, .int .i64 0, .int .i64 0, .slice none 0 0] 26)).alloc (.cells #[.int .i64 0, .bool false, .int .i64 0, .int .i64 0, .int .i64 0, .int .i64 0, .slice none 0 0] 26)).heap[w4.heap.size + 1]? = some (.cells #[.int .i64 0, .bool false, .int .i64 0, .int .i64 0, .int .i64 0, .int .i64 0, .slice none 0 0] 26 (0, 0)) by have := heap_alloc_new (w4.alloc (.cells #[.int .i64 0, .bool false, .int .i64 0, .int .i64 0, .int .i64 0, .int .i64 0, .slice none 0 0] 26)) (.cells #[.int .i64 0, .bool false, .int .i64 0, .int .i64 0, .int .i64 0, .int .i64 0, .slice none 0 0] 26); rwa [World.size_alloc] at this)
    have HA6 := Lib.hid (show ((w4.alloc (.cells #[.int .i64 0, .bool false, .int .i64 0, .int .i64 0, .int .i64 0, .int .i64 0, .slice none 0 0] 26)).alloc (.cells #[.int .i64 0, .bool false, .int .i64 0, .int .i64 0, .int .i64 0, .int .i64 0, .slice none 0 0] 26)).heap[w4.heap.size]? = some (.cells #[.int .i64 0, .bool false, .int .i64 0, .int .i64 0, .int .i64 0, .int .i64 0, .slice none 0 0] 26 (0, 0)) from heap_alloc (heap_alloc_new w4 (.cells #[.int .i64 0, .bool false, .int .i64 0, .int .i64 0, .int .i64 0, .int .i64 0, .slice none 0 0] 26)))
    have HMA := Lib.hid (((Mods.refl (S := []) (w := w4)).alloc (.cells #[.int .i64 0, .bool false, .int .i64 0, .int .i64 0, .int .i64 0, .int .i64 0, .slice none 0 0] 26)).alloc (.cells #[.int .i64 0, .bool false, .int .i64 0, .int .i64 0, .int .i64 0, .int .i64 0, .slice none 0 0] 26))
    have ONE1 := Lib.hid (Conv.one C1 HI1.out.rd.one)
    have ONE2 := Lib.hid (Conv.one C2 HI2.out.rd.one)
    go_wp2_with (first
      | (refine wpList_store_row (cs := C1.cells) rfl 26 (.tmp 6) (.tmp 24) rfl HA6.out (by rfl) (by rfl) rfl C1.infoCC ONE1.out ?_; intro w5 R5 M5; have HR5 := Lib.hid R5; have HM5 := Lib.hid M5; have HS5 := Lib.hid (M5.heap HA7.out (by simp)); clear R5 M5)
      | (refine wpList_store_row (cs := C2.cells) rfl 26 (.tmp 7) (.tmp 26) rfl HS5.out (by rfl) (by rfl) rfl C2.infoCC ONE2.out ?_; intro w6 R6 M6; have HR6 := Lib.hid R6; have HM6 := Lib.hid M6; have HS6 := Lib.hid (M6.heap HR5.out (by simp)); clear R6 M6)
      | (refine wpList_load_conv (C := C1) rfl (.tmp 6) rfl HS6.out (by rfl) ?_))
    have HM := Lib.hid (show Mods [] w4 w6 from (((HMA.out.comp HM5.out (fun q hq => by simp at hq; exact .inr (by omega)))).comp HM6.out (fun q hq => by simp at hq; exact .inr (by omega))))
    replace HI1 := Lib.hid (HI1.out.mods0 HM.out)
    replace HI2 := Lib.hid (HI2.out.mods0 HM.out)
    have HX := Lib.hid (HM4.out.trans HM.out)
    clear HM HM4 HM5 HM6 HMA HA6 HA7 HS5 HR5
    have N1 := Lib.hid (fun W (M : Mods [] w6 W) u => nearest_ok W C1 P1 u (HI1.out.mods0 M))
    have N2 := Lib.hid (fun W (M : Mods [] w6 W) u => refNearest_ok W C1 P1 u (HI1.out.mods0 M))
    have N3 := Lib.hid (fun W (M : Mods [] w6 W) u => nearest_ok W C2 P2 u (HI2.out.mods0 M))
    have N4 := Lib.hid (fun W (M : Mods [] w6 W) u => refNearest_ok W C2 P2 u (HI2.out.mods0 M))
    generalize nearI C1 P1 n0 = N at *
    generalize nearI C2 P2 x = N' at *
    clear HI1 HI2
    refine (N1.out w6 Mods.refl n0).mono ?_
    rintro e w7 ⟨rfl, M7⟩
    have HB6 := Lib.hid (M7.heap HS6.out (by simp))
    have HB7 := Lib.hid (M7.heap HR6.out (by simp))
    have HM7 := Lib.hid M7
    clear M7 HS6 HR6
    go_wp2_with (refine wpList_load_conv (C := C1) rfl (.tmp 6) rfl HB6.out (by rfl) ?_)
    refine (N2.out w7 HM7.out n0).mono ?_
    rintro e w8 ⟨rfl, M8⟩
    replace HB7 := Lib.hid (M8.heap HB7.out (by simp))
    have HM8 := Lib.hid (HM7.out.trans M8)
    clear M8 HB6 HM7
    go_wp2_with (refine wpList_load_conv (C := C2) rfl (.tmp 7) rfl HB7.out (by rfl) ?_)
    refine (N3.out w8 HM8.out x).mono ?_
    rintro e w9 ⟨rfl, M9⟩
    replace HB7 := Lib.hid (M9.heap HB7.out (by simp))
    have HM9 := Lib.hid (HM8.out.trans M9)
    clear M9 HM8
    go_wp2_with (refine wpList_load_conv (C := C2) rfl (.tmp 7) rfl HB7.out (by rfl) ?_)
    refine (N4.out w9 HM9.out x).mono ?_
    rintro e w10 ⟨rfl, M10⟩
    have HM10 := Lib.hid (HX.out.trans (HM9.out.trans M10))
    clear M10 HM9 HB7 N1 N2 N3 N4
    obtain ⟨N1, N2⟩ := N
    obtain ⟨N3, N4⟩ := N'
    have e1 : (N1 == N1) = true := by simp
    have e2 : (N2 == N2) = true := by simp
    have e3 : (N3 == N3) = true := by simp
    have e4 : (N4 == N4) = true := by simp
    go_wp2_with fail
    refine (awakeC_ok _).mono ?_
    rintro e w11 ⟨rfl, M11⟩
    go_wp2
    go_ret
    exact ⟨rfl, HM10.out.trans M11⟩
  · skip
    have HLL := Lib.hid (decide_eq_false hl)
    go_enter Try.func10, Try.ntmps10
    go_wp2_with fail
    refine HL.out.mono ?_
    rw [HLL.out]
    rintro e w' ⟨rfl, rfl⟩
    go_wp2_with fail
    refine (awakeC_ok _).mono ?_
    rintro e w1 ⟨rfl, M1⟩
    go_wp2
    go_ret
    exact ⟨rfl, M1⟩
end Go.Proofs.Ytgjjmiaiclhidaa
