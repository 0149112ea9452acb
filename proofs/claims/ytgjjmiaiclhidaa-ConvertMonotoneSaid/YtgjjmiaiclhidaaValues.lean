/- convert.values: contract. -/
import Derived.Test.YtgjjmiaiclhidaaPairs
import Derived.Test.YtgjjmiaiclhidaaValC
namespace Go.Proofs.Ytgjjmiaiclhidaa
open Go.RowKit

/-- Pairs of the call's own. -/
def OwnPr (w : World) (B : Nat) (v : Value) (P : List Pt) : Prop := w.ownsRow B 131 2 v P.length (ptsCells P)
theorem OwnPr.rd {w : World} {B : Nat} {v : Value} {P : List Pt} (h : OwnPr w B v P) : RdPts w v P := by
  obtain ⟨hl, h⟩ := h
  rcases h with ⟨rfl, h0⟩ | ⟨g, cap, cur, rfl, _, hg, h1, h2, h3, h4⟩
  · have : P = [] := List.eq_nil_of_length_eq_zero h0
    subst this
    exact RdPts.nil w
  · refine ⟨_, cap, rfl, h1, h2, fun i hi => ⟨g, 0, rfl, ?_⟩⟩
    have ⟨a, b⟩ := ptsCells_get P i hi
    rw [cell_blk hg, cell_blk hg]
    rw [← h4] at a b
    rw [List.getElem?_take, if_pos (by omega)] at a b
    constructor
    · rw [← a]; simp
    · rw [← b, show 0 + i * 2 + 1 = i * 2 + 1 by omega]; simp
theorem OwnPr.mods0 {w w' : World} {B : Nat} {v : Value} {P : List Pt} (h : OwnPr w B v P) (hm : Mods [] w w') : OwnPr w' B v P := hm.owns h (by simp)
theorem OwnPr.nil (w : World) (B : Nat) : OwnPr w B (.slice none 0 0) [] := World.ownsRow_nil _ _ _ _
theorem Try.infoPr : (Try.prog.info? 131).map (fun i => (i.zero, i.size, i.bytes)) = some (some (.agg #[.int .u8 0, .int .i64 0]), 2, 16) := by kernel_rfl
/-- append of one pair. -/
theorem wpList_pushPr {ops : Array Oper} {rest : List Oper} {o : Oper} {a : Act} {Q : Exit → Act → World → Prop} {w0 : World} (hgd : o.guard = none) (s x : Operand)
    (ho : o.op = .call { callee := .builtin .append, args := #[s, x], argTypes := #[128, 128] })
    (B : Nat) (v : Value) (P : List Pt) (hs : a.eval s = v) (hown : OwnPr w0 B v P) (p : Pt) (T : TypeId) (hx : a.eval x = .slice (some ⟨w0.heap.size, 0, none⟩) 1 1)
    (hn : P.length ≤ 1000000) (hbase : B ≤ w0.heap.size)
    (h : ∀ v' w', OwnPr w' B v' (P ++ [p]) → Mods (from_ B w0) w0 w' → wpList Try.prog ops Q rest (a.put o.dst v') w') : wpList Try.prog ops Q (o :: rest) a (w0.alloc (.cells #[.int .u8 p.raw, .int .i64 p.val] T)) := by
  obtain ⟨i0, hi, hz0, hz1, hz2⟩ := info_parts Try.infoPr
  refine wpList_append_own _ hgd s x _ ho B 131 i0 _ 2 16 Try.underlying128 hi hz0 hz1 hz2 rfl (by decide) v P.length (ptsCells P) hs (World.ownsRow.alloc hown _) ⟨w0.heap.size, 0, none⟩ 1 1 [.int .u8 p.raw, .int .i64 p.val] hx rfl ?_ (by intro u hu; simp at hu; rcases hu with rfl | rfl <;> rfl) (by unfold maxLen; omega) (by omega) (by simp; omega) ?_
  · intro j u hj
    rw [Addr.add_mid, Nat.zero_add, World.cell?_alloc_at _ _ _ _ rfl]
    match j, hj with
    | 0, hj => simpa using hj
    | 1, hj => simpa using hj
  · intro v' w' h1 h2 _
    refine h v' w' ?_ (Mods.of_from (((Below.refl B w0).alloc hbase _).grown h2 (by simp; omega) fun k hk => (World.ownsRow.lt hown k hk).1))
    unfold OwnPr
    rw [ptsCells_snoc, List.length_append]
    exact h1
/-- What values gives. -/
def ValsOut (w : World) (l : List Pt) (e : Ending) (w' : World) : Prop := ∃ v', e = .returned v' ∧ OwnPr w' w.heap.size v' l ∧ Mods [] w w'
theorem raw_wrap (sgn : Bool) (k : Nat) : (if sgn then IntKind.u8.wrap ((k : Int) + 128) else IntKind.u8.wrap (k : Int)) = (rawAt sgn k : Nat) := by
  unfold rawAt rawI leastI
  cases sgn
  · simp only [IntKind.wrap_u8, Bool.false_eq_true, if_false]; omega
  · simp only [IntKind.wrap_u8, if_true]; omega
set_option maxRecDepth 100000 in
set_option maxHeartbeats 4000000 in
theorem values_ok (w : World) (C : Conv) (P : List Pt) (hC : IsConv w C P) (hv : convB C P = true) :
    Calls Try.prog 98 #[.agg C.cells] w fun e w' => ValsOut w (prA C P) e w' := by
  have HC := Lib.hid hC
  have HV := Lib.hid hv
  have R0 := heap_alloc_new w (.cells C.cells 26)
  have M0 := (Mods.refl (S := []) (w := w)).alloc (.cells C.cells 26)
  have hz := (show (w.alloc (.cells C.cells 26)).heap.size = w.heap.size + 1 by simp)
  clear hC hv
  go_enter Try.func98, Try.ntmps98
  go_wp2_with fail
  generalize w.alloc (.cells C.cells 26) = w1 at R0 M0 hz ⊢
  have HM0 := Lib.hid M0
  have HR0 := Lib.hid R0
  have HZ := Lib.hid hz
  clear M0 R0 hz
  go_loopw [3, 8] (fun out i wr => ∃ k : Nat, k ≤ 256 ∧ i = .int .i64 k ∧ OwnPr wr w1.heap.size out (prL C P k) ∧ Mods [] w1 wr) (fun _ i _ => 256 - (intOf i).toNat)
  case atStart => exact ⟨0, by omega, rfl, OwnPr.nil _ _, Mods.refl⟩
  case round =>
    obtain ⟨k, hk, rfl, O, M⟩ := hrel
    have HO := Lib.hid O
    have HM := Lib.hid M
    have hpl := prL_len C P k
    clear O
    by_cases hlt : k < 256
    · have HG := Lib.hid (M.heap HR0.out (by simp))
      have z1 : wr.cell? ⟨w.heap.size, 1, none⟩ = some (.bool C.sgn) := (cell_blk HG.out 1).trans rfl
      have HW := Lib.hid (raw_wrap C.sgn k)
      have HVV := Lib.hid (valueI_ok wr C P (rawAt C.sgn k) (HC.out.mods0 (HM0.out.trans M)) HV.out (rawAt_lt _ _))
      have HPS := Lib.hid (show prL C P (k + 1) = prL C P k ++ (if (valI C P (rawAt C.sgn k)).2 = 0 then [⟨rawAt C.sgn k, (valI C P (rawAt C.sgn k)).1⟩] else []) from rfl)
      have i1 : (k : Int) < 256 := by omega
      have hwr := M.size
      clear M
      generalize (valI C P (rawAt C.sgn k)).1 = x1 at *
      generalize (valI C P (rawAt C.sgn k)).2 = x2 at *
      generalize rawAt C.sgn k = rr at *
      generalize prL C P k = PL at *
      cases hs : C.sgn
      · have hw : IntKind.u8.wrap (k : Int) = (rr : Int) := by have := HW.out; rw [hs] at this; exact this
        rw [hs] at z1
        by_cases h0 : x2 = 0
        · have e0 : (x2 == 0) = true := by simpa using h0
          have HPT := Lib.hid (show prL C P (k + 1) = PL ++ [⟨rr, x1⟩] by rw [HPS.out, if_pos h0])
          clear h0
          go_wp2_with (refine wpList_load_conv rfl (.tmp 1) rfl HG.out (by rfl) ?_)
          refine HVV.out.mono ?_
          rintro e w2 ⟨rfl, M2⟩
          have HM2 := Lib.hid (HM.out.trans M2)
          have HO2 := Lib.hid (HO.out.mods0 M2)
          have hw2 := M2.size
          clear M2 z1
          go_wp2_with (at_builtin; refine wpList_pushPr rfl (.tmp 26) (.tmp 30) rfl w1.heap.size _ PL (by rfl) HO2.out ⟨rr, x1⟩ _ (by rfl) (by omega) (by omega) ?_; intro v3 w3 O3 M3; have HO3 := Lib.hid O3; have HM3 := Lib.hid (HM2.out.then_from M3 (Nat.le_refl _)); clear O3 M3)
          go_roundw
          case rel => exact ⟨k + 1, by omega, by go_num, by rw [HPT.out]; exact HO3.out, HM3.out⟩
          case measure => simp [intOf]; omega
        · have e0 : (x2 == 0) = false := by simpa using h0
          have HPT := Lib.hid (show prL C P (k + 1) = PL by rw [HPS.out, if_neg h0, List.append_nil])
          clear h0
          go_wp2_with (refine wpList_load_conv rfl (.tmp 1) rfl HG.out (by rfl) ?_)
          refine HVV.out.mono ?_
          rintro e w2 ⟨rfl, M2⟩
          have HM2 := Lib.hid (HM.out.trans M2)
          have HO2 := Lib.hid (HO.out.mods0 M2)
          clear M2 z1
          go_wp2_with fail
          go_roundw
          case rel => exact ⟨k + 1, by omega, by go_num, by rw [HPT.out]; exact HO2.out, HM2.out⟩
          case measure => simp [intOf]; omega
      · have hw : IntKind.u8.wrap ((k : Int) + 128) = (rr : Int) := by have := HW.out; rw [hs] at this; exact this
        rw [hs] at z1
        by_cases h0 : x2 = 0
        · have e0 : (x2 == 0) = true := by simpa using h0
          have HPT := Lib.hid (show prL C P (k + 1) = PL ++ [⟨rr, x1⟩] by rw [HPS.out, if_pos h0])
          clear h0
          go_wp2_with (refine wpList_load_conv rfl (.tmp 1) rfl HG.out (by rfl) ?_)
          refine HVV.out.mono ?_
          rintro e w2 ⟨rfl, M2⟩
          have HM2 := Lib.hid (HM.out.trans M2)
          have HO2 := Lib.hid (HO.out.mods0 M2)
          have hw2 := M2.size
          clear M2 z1
          go_wp2_with (at_builtin; refine wpList_pushPr rfl (.tmp 26) (.tmp 30) rfl w1.heap.size _ PL (by rfl) HO2.out ⟨rr, x1⟩ _ (by rfl) (by omega) (by omega) ?_; intro v3 w3 O3 M3; have HO3 := Lib.hid O3; have HM3 := Lib.hid (HM2.out.then_from M3 (Nat.le_refl _)); clear O3 M3)
          go_roundw
          case rel => exact ⟨k + 1, by omega, by go_num, by rw [HPT.out]; exact HO3.out, HM3.out⟩
          case measure => simp [intOf]; omega
        · have e0 : (x2 == 0) = false := by simpa using h0
          have HPT := Lib.hid (show prL C P (k + 1) = PL by rw [HPS.out, if_neg h0, List.append_nil])
          clear h0
          go_wp2_with (refine wpList_load_conv rfl (.tmp 1) rfl HG.out (by rfl) ?_)
          refine HVV.out.mono ?_
          rintro e w2 ⟨rfl, M2⟩
          have HM2 := Lib.hid (HM.out.trans M2)
          have HO2 := Lib.hid (HO.out.mods0 M2)
          clear M2 z1
          go_wp2_with fail
          go_roundw
          case rel => exact ⟨k + 1, by omega, by go_num, by rw [HPT.out]; exact HO2.out, HM2.out⟩
          case measure => simp [intOf]; omega
    · obtain rfl : k = 256 := by omega
      have i1 : ¬ ((256 : Nat) : Int) < 256 := by omega
      go_wp2_with fail
      go_ret
      exact ⟨_, rfl, by have := HO.out; have hzz := HZ.out; exact owns_down this (by omega), HM0.out.trans HM.out⟩
end Go.Proofs.Ytgjjmiaiclhidaa
