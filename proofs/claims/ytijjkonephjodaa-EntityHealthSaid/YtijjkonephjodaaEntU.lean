/- law15's conditions: contract. -/
import Derived.Test.YtijjkonephjodaaEnH
import Derived.Deep.DeepCutAuto
namespace Go.Proofs.Ytijjkonephjodaa
open Go.RowKit

/-- Some conditions of the dice. -/
def MadeCnds (w : World) (b : Nat) (v : Value) (L : List Int) (n : Nat) (en : Ending) (w' : World) : Prop :=
  ∃ u A k, en = .returned u ∧ OwnE cndE w' w.heap.size u A ∧ A.length ≤ n ∧ IsDice w' b v L k ∧ Mods [b] w w'
def MkCnds (w : World) (b : Nat) (v : Value) (L : List Int) (n : Nat) (u : Value) (k : Nat) (wr : World) : Prop :=
  ∃ A j, OwnE cndE wr w.heap.size u A ∧ A.length + k ≤ n ∧ IsDice wr b v L j ∧ Mods [b] w wr
set_option maxRecDepth 100000 in
set_option maxHeartbeats 4000000 in
theorem conditions_ok (w : World) (b : Nat) (v : Value) (L : List Int) (j : Nat) (h : IsDice w b v L j) :
    Calls Try.prog 37 #[.pointer (some ⟨b, 0, none⟩)] w fun en w' => MadeCnds w b v L 8 en w' := by
  have H := Lib.hid h
  have HOL := Lib.hid h.old
  have hb := h.lt
  clear h
  go_enter Try.func37, Try.ntmps37
  go_wp2_with fail
  refine (next_ok w b v L j H.out _ (by omega) (by omega)).mono ?_
  rintro e w1 ⟨r, j1, rfl, r1, r2, D1, M1⟩
  obtain ⟨r, rfl⟩ := Int.eq_ofNat_of_zero_le r1
  have HST := Lib.hid (show MkCnds w b v L 8 (.slice none 0 0) r w1 from ⟨[], j1, OwnE.nil _ _ _, by simp; omega, D1, M1⟩)
  clear D1 M1 r2 r1
  go_wp2_with fail
  go_loopw [3, 4] (fun u i wr => ∃ k : Nat, i = .int .i64 k ∧ MkCnds w b v L 8 u k wr) (fun _ i _ => (intOf i).toNat)
  case atStart => exact ⟨r, rfl, HST.out⟩
  clear HST
  case round =>
    obtain ⟨k, rfl, A, j2, hO, hlen, hD, hM⟩ := hrel
    obtain ⟨au, cu, rfl⟩ := (hO.rd cndOk).len
    have HO := Lib.hid hO
    have HD := Lib.hid hD
    have HM := Lib.hid hM
    clear hO hD hM
    by_cases hk : 0 < k
    · have d1 : decide ((k : Int) > 0) = true := decide_eq_true (by omega)
      have i0 : (1 : Int) ≤ (k : Int) := by omega
      have i1 : (k : Int) ≤ 1000 := by omega
      obtain ⟨m, rfl⟩ : ∃ m, k = m + 1 := ⟨k - 1, by omega⟩
      go_wp2_with fail
      refine (entity_ok wr b v L j2 HD.out).mono ?_
      rintro e w2 ⟨x, y, j3, rfl, hx, hy, D2, M2⟩
      have HO2 := Lib.hid (HO.out.mods M2 (fun k hk hm => by simp at hm; subst hm; have := (HO.out.lt _ hk).1; omega))
      have HM2 := Lib.hid (HM.out.trans M2)
      have HD2 := Lib.hid D2
      clear D2 M2 HO HM HD
      go_wp2_with fail
      refine (next_ok w2 b v L j3 HD2.out 4 (by omega) (by omega)).mono ?_
      rintro e w3 ⟨s, j4, rfl, s1, s2, D3, M3⟩
      have HO3 := Lib.hid (HO2.out.mods M3 (fun k hk hm => by simp at hm; subst hm; have := (HO2.out.lt _ hk).1; omega))
      have HM3 := Lib.hid (HM2.out.trans M3)
      have hz3 : w.heap.size ≤ w3.heap.size := HM3.out.size
      have HFF : Hid (∀ W, W = w3.alloc (.cells #[.int .u8 (x : Int), .int .u8 (y : Int), .int .i64 s] 83) → W.heap[w3.heap.size]? = some (.cells #[.int .u8 (x : Int), .int .u8 (y : Int), .int .i64 s] 83 (0, 0)) ∧ OwnE cndE W w.heap.size (.slice au A.length cu) A ∧ IsDice W b v L j4 ∧ Mods [b] w W) := Lib.hid (fun W hW => by
        subst hW
        have MA := (Mods.refl (S := []) (w := w3)).alloc (.cells #[.int .u8 (x : Int), .int .u8 (y : Int), .int .i64 s] 83)
        exact ⟨heap_alloc_new w3 _, HO3.out.mods0 MA, D3.mods0 MA, HM3.out.comp0 MA⟩)
      clear D3 M3 HO2 HM2 HD2
      go_wp2_with fail
      have ⟨f1, f2, f3, f4⟩ := HFF.out _ rfl
      have hbg : b < w3.heap.size := by omega
      have hgw : w3.heap.size < (w3.alloc (.cells #[.int .u8 (x : Int), .int .u8 (y : Int), .int .i64 s] 83)).heap.size := by simp
      have HGO := Lib.hid (fun k hk => (HO3.out.lt k hk).2)
      clear HFF HO3 HM3
      generalize w3.alloc (.cells #[.int .u8 (x : Int), .int .u8 (y : Int), .int .i64 s] 83) = w4 at f1 f2 f3 f4 hgw ⊢
      generalize w3.heap.size = g at f1 hbg hz3 hgw HGO ⊢
      refine (bool_ok w4 b v L j4 f3 40 (by omega) (by omega)).mono ?_
      rintro e w5 ⟨q, j5, rfl, D5, M5⟩
      have HR5 := Lib.hid (M5.heap f1 (by simp; omega))
      have HO5 := Lib.hid (f2.mods M5 (fun k hk hm => by simp at hm; subst hm; have := (f2.lt _ hk).1; omega))
      have HM5 := Lib.hid (f4.trans M5)
      have HD5 := Lib.hid D5
      clear f1 f2 f3 f4 D5 M5 hgw
      cases q with
      | false =>
        have c0 := (cell_blk HR5.out 0).trans (show _ = some (Value.int .u8 (x : Int)) from rfl)
        have c1 := (cell_blk HR5.out 1).trans (show _ = some (Value.int .u8 (y : Int)) from rfl)
        have c2 := (cell_blk HR5.out 2).trans (show _ = some (Value.int .i64 s) from rfl)
        have hzw : w.heap.size ≤ w5.heap.size := HM5.out.size
        obtain ⟨C, hC⟩ : ∃ C : Cnd, C = ⟨⟨⟨x, hx⟩, ⟨y, hy⟩⟩, s⟩ := ⟨_, rfl⟩
        have MA := (Mods.refl (S := []) (w := w5)).alloc (.cells #[.int .u8 (x : Int), .int .u8 (y : Int), .int .i64 s] 83)
        have HP := Lib.hid (show OwnE cndE (w5.alloc (.cells #[.int .u8 (x : Int), .int .u8 (y : Int), .int .i64 s] 83)) w.heap.size _ A ∧ RdE cndE (w5.alloc (.cells #[.int .u8 (x : Int), .int .u8 (y : Int), .int .i64 s] 83)) (.slice (some ⟨w5.heap.size, 0, none⟩) 1 1) [C] ∧ Mods [b] w (w5.alloc (.cells #[.int .u8 (x : Int), .int .u8 (y : Int), .int .i64 s] 83)) ∧ IsDice (w5.alloc (.cells #[.int .u8 (x : Int), .int .u8 (y : Int), .int .i64 s] 83)) b v L j5 from ⟨HO5.out.mods0 MA, RdE.one (a := C) (heap_alloc_new w5 _) (by rw [hC]; rfl), HM5.out.comp0 MA, HD5.out.mods0 MA⟩)
        clear MA hC
        go_wp2_with (at_builtin; refine wpList_appE cndOk (by rfl) (.tmp 23) (.tmp 25) rfl (by rfl) HP.out.1 (by rfl) HP.out.2.1 (by simp; omega) (by simp; omega) ?_; intro VB WB OB MB; have HST := Lib.hid (show MkCnds w b v L 8 VB m WB from ⟨A ++ [C], j5, OB, by simp; omega, HP.out.2.2.2.mods MB (fun hm => by have := HP.out.1.back hm; omega) (fun hl k hk hm => by have := HP.out.1.back hm; have := HOL.out hl k hk; omega), HP.out.2.2.1.comp MB (fun q hq => .inr (HP.out.1.back hq))⟩); clear OB MB)
        go_roundw
        case rel => exact ⟨m, by go_num, HST.out⟩
        case measure => simp [intOf]
      | true =>
        go_wp2_with fail
        refine (next_ok w5 b v L j5 HD5.out 7 (by omega) (by omega)).mono ?_
        rintro e w6 ⟨t, j6, rfl, t1, t2, D6, M6⟩
        have R6 := M6.heap HR5.out (by simp; omega)
        have c0 := (cell_blk R6 0).trans (show _ = some (Value.int .u8 (x : Int)) from rfl)
        have c1 := (cell_blk R6 1).trans (show _ = some (Value.int .u8 (y : Int)) from rfl)
        have c2 := (cell_blk R6 2).trans (show _ = some (Value.int .i64 s) from rfl)
        have ff := fun i => froz_blk R6 i
        have HO6 := Lib.hid (HO5.out.mods M6 (fun k hk hm => by simp at hm; subst hm; have := (HO5.out.lt _ hk).1; omega))
        have HM6 := Lib.hid (HM5.out.trans M6)
        have HD6 := Lib.hid D6
        have hws : IntKind.i64.wrap (t - 2) = t - 2 := IntWalk.i64_in _ (by omega)
        have HBL := Lib.hid (show b < w6.heap.size from HD6.out.lt)
        clear D6 M6
        have HSET : Hid ((w6.setCell ⟨g, 2, none⟩ (.int .i64 (t - 2))).heap[g]? = some (.cells #[.int .u8 (x : Int), .int .u8 (y : Int), .int .i64 (t - 2)] 83 (0, 0)) ∧ Mods [g] w6 (w6.setCell ⟨g, 2, none⟩ (.int .i64 (t - 2)))) := Lib.hid ⟨by rw [heap_setCell R6]; rfl, Mods.refl.setCell (.inl (by simp)) _⟩
        have HO7 := Lib.hid (HO6.out.mods HSET.out.2 (fun k hk hm => by simp at hm; subst hm; have := HGO.out _ hk; omega))
        have HD7 := Lib.hid (HD6.out.mods HSET.out.2 (by simp; omega) (fun hl k hk hm => by simp at hm; subst hm; have := HOL.out hl _ hk; omega))
        have HM7 := Lib.hid (HM6.out.comp HSET.out.2 (fun q hq => by simp at hq; subst hq; exact .inr hz3))
        clear R6 HO6 HM6 HD6
        go_upto_region 8 with (fail)
        generalize w6.setCell ⟨g, 2, none⟩ (.int .i64 (t - 2)) = w7 at HSET HO7 HD7 HM7 ⊢
        clear c0 c1 c2 ff hws
        have c0 := (cell_blk HSET.out.1 0).trans (show _ = some (Value.int .u8 (x : Int)) from rfl)
        have c1 := (cell_blk HSET.out.1 1).trans (show _ = some (Value.int .u8 (y : Int)) from rfl)
        have c2 := (cell_blk HSET.out.1 2).trans (show _ = some (Value.int .i64 (t - 2)) from rfl)
        have hzw : w.heap.size ≤ w7.heap.size := HM7.out.size
        obtain ⟨C, hC⟩ : ∃ C : Cnd, C = ⟨⟨⟨x, hx⟩, ⟨y, hy⟩⟩, (t - 2)⟩ := ⟨_, rfl⟩
        have MA := (Mods.refl (S := []) (w := w7)).alloc (.cells #[.int .u8 (x : Int), .int .u8 (y : Int), .int .i64 (t - 2)] 83)
        have HP := Lib.hid (show OwnE cndE (w7.alloc (.cells #[.int .u8 (x : Int), .int .u8 (y : Int), .int .i64 (t - 2)] 83)) w.heap.size _ A ∧ RdE cndE (w7.alloc (.cells #[.int .u8 (x : Int), .int .u8 (y : Int), .int .i64 (t - 2)] 83)) (.slice (some ⟨w7.heap.size, 0, none⟩) 1 1) [C] ∧ Mods [b] w (w7.alloc (.cells #[.int .u8 (x : Int), .int .u8 (y : Int), .int .i64 (t - 2)] 83)) ∧ IsDice (w7.alloc (.cells #[.int .u8 (x : Int), .int .u8 (y : Int), .int .i64 (t - 2)] 83)) b v L j6 from ⟨HO7.out.mods0 MA, RdE.one (a := C) (heap_alloc_new w7 _) (by rw [hC]; rfl), HM7.out.comp0 MA, HD7.out.mods0 MA⟩)
        clear MA hC
        go_wp2_with (at_builtin; refine wpList_appE cndOk (by rfl) (.tmp 23) (.tmp 25) rfl (by rfl) HP.out.1 (by rfl) HP.out.2.1 (by simp; omega) (by simp; omega) ?_; intro VB WB OB MB; have HST := Lib.hid (show MkCnds w b v L 8 VB m WB from ⟨A ++ [C], j6, OB, by simp; omega, HP.out.2.2.2.mods MB (fun hm => by have := HP.out.1.back hm; omega) (fun hl k hk hm => by have := HP.out.1.back hm; have := HOL.out hl k hk; omega), HP.out.2.2.1.comp MB (fun q hq => .inr (HP.out.1.back hq))⟩); clear OB MB)
        go_roundw
        case rel => exact ⟨m, by go_num, HST.out⟩
        case measure => simp [intOf]
    · have hk0 : k = 0 := by omega
      subst hk0
      go_wp2_with fail
      go_ret
      exact ⟨_, A, j2, rfl, HO.out, by omega, HD.out, HM.out⟩
end Go.Proofs.Ytijjkonephjodaa
