/- slices.Values and slices.Collect of bytes: contracts. -/
import Derived.RangeFuncBox
import Derived.RangeFuncLeaves
import Derived.Shelf.Abstract
import Derived.WalkKit
import Derived.OwnWalkIn
import Derived.TacticsInMore
import Derived.LoopNIn
import Derived.LoopIn
import Derived.Maps.AppendAt
import Derived.Test.YtgjjmiaiclhidaaSamP
import Derived.Test.YtgjjmiaiclhidaaBaseI
import Derived.Test.YtgjjmiaiclhidaaBaseH
namespace Go.Proofs.Ytgjjmiaiclhidaa
open Go.RowKit Go.Shelf

attribute [local go_sem] Oper.semAt_some

set_option maxRecDepth 100000 in
set_option maxHeartbeats 1000000 in
theorem values1_in (n : Nat) (hn : 1 ≤ n) (l Bs n₀ b off cap : Nat) (A : List Int) (hA : A.length ≤ 1000) (J Jx : List Int → World → Prop)
    (hY : ∀ pre x W, J pre W → pre.length < A.length → YieldAt Fence.wide (n - 1) Try.prog l #[.int .u8 x] W fun e W' =>
      (e = .returned (.bool true) ∧ J (pre ++ [x]) W' ∧ Below n₀ W W') ∨ (e = .returned (.bool false) ∧ Jx (pre ++ [x]) W'))
    (W : World) (hBs : W.cell? ⟨Bs, 0, none⟩ = some (.slice (some ⟨b, off, none⟩) A.length cap)) (hb : b < n₀) (hC : ∀ i, i < A.length → W.cell? ⟨b, off + i, none⟩ = some (.int .u8 (A.getD i 0))) (h0 : J [] W) :
    CallsIn Fence.wide n Try.prog 128 #[.func (.yield l) #[] #[], .pointer (some ⟨Bs, 0, none⟩)] W fun e W' => (∃ v, e = .returned v) ∧
      ((∃ ys, ys = A ∧ J ys W') ∨ (∃ pre, pre <+: A ∧ Jx pre W')) := by
  refine callsIn_of_wp Try.func128 rfl trivial ?_ rfl
  simp only [Try.ntmps128, List.size_toArray, List.length_cons, List.length_nil, Nat.reduceAdd, Nat.reduceSub, Array.replicate_succ, Array.replicate_zero, List.push_toArray, List.append_toArray, List.nil_append, List.cons_append]
  have HY := Lib.hid hY
  have HC := Lib.hid hC
  clear hY hC
  gi_wp2
  gi_loopw [7] (fun i wr => ∃ j : Nat, j ≤ A.length ∧ i = .int .i64 j ∧ J (A.take j) wr ∧ Below n₀ W wr) (fun i _ => A.length - (intOf i).toNat)
  case atStart => exact ⟨0, Nat.zero_le _, rfl, h0, Below.refl _ _⟩
  case round =>
    obtain ⟨j, hj, rfl, hJs, hB⟩ := hrel
    by_cases hlt : j < A.length
    · have c0 := (hB.cell (p := ⟨b, off + j, none⟩) hb).trans (HC.out j hlt)
      have i0 : (0 : Int) ≤ (j : Int) := by omega
      have i1 : (j : Int) < (A.length : Int) := by omega
      obtain ⟨fn, tmps, assign, body, hy, hR⟩ := HY.out _ (A.getD j 0) wr hJs (by rw [List.length_take]; omega)
      have HT := Lib.hid (take_snocI hlt)
      generalize A.getD j 0 = x at *
      gi_wp2
      refine hR.mono ?_
      rintro e W3 (⟨rfl, hJ3, hk3⟩ | ⟨rfl, hJx3⟩)
      · gi_wp2
        go_roundw
        case rel => exact ⟨j + 1, by omega, by go_num, by rw [HT.out]; exact hJ3, hB.trans hk3⟩
        case measure => simp [intOf]; omega
      · gi_wp2
        refine bodyPost_ret (results_none rfl _ _ _) rfl ?_
        exact ⟨⟨_, rfl⟩, .inr ⟨_, by rw [← HT.out]; exact List.take_prefix _ _, hJx3⟩⟩
    · have hjk : j = A.length := by omega
      rw [hjk, List.take_length] at hJs
      gi_wp2
      go_end0
      exact ⟨⟨_, rfl⟩, .inl ⟨_, rfl, hJs⟩⟩
theorem values_stops (n : Nat) (hn : 1 ≤ n) (Bs n₀ b off cap : Nat) (A : List Int) (hA : A.length ≤ 1000) (w : World) (h1 : Bs < w.heap.size) (h2 : n₀ ≤ w.heap.size) (hb : b < n₀)
    (hBs : w.cell? ⟨Bs, 0, none⟩ = some (.slice (some ⟨b, off, none⟩) A.length cap)) (hC : ∀ i, i < A.length → w.cell? ⟨b, off + i, none⟩ = some (.int .u8 (A.getD i 0))) :
    SeqStopsK Fence.wide n Try.prog 128 #[.pointer (some ⟨Bs, 0, none⟩)] (fun x : Int => #[Value.int .u8 x]) (Below n₀) (fun ys => ys = A) (fun pre => pre <+: A) A.length w := fun l J Jx W hW _ _ hY h0 =>
  values1_in n hn l Bs n₀ b off cap A hA J Jx hY W ((hW.cell (p := ⟨Bs, 0, none⟩) h1).trans hBs) hb (fun i hi => (hW.cell (p := ⟨b, off + i, none⟩) (Nat.lt_of_lt_of_le hb h2)).trans (hC i hi)) h0
set_option maxHeartbeats 1000000 in
theorem values_ok (v : Value) (w : World) (ad : Option Addr) (k cap : Nat) (hv : v = .slice ad k cap) :
    Calls Try.prog 110 #[v] w fun e w' => e = .returned (.func (.func 128) #[] #[.pointer (some ⟨w.heap.size, 0, none⟩)]) ∧ w' = w.alloc (.cells #[v] 33) := by
  subst hv
  go_enter Try.func110, Try.ntmps110
  go_wp2
  go_ret
  exact ⟨rfl, rfl⟩
set_option maxRecDepth 100000 in
set_option maxHeartbeats 2000000 in
/-- slices.AppendSeq(nil, slices.Values(a)). -/
theorem appendSeq_in (n : Nat) (h3 : 3 ≤ n) (Bs b off cap : Nat) (A : List Int) (hA : A.length ≤ 1000) (w : World) (h1 : Bs < w.heap.size) (hb : b < w.heap.size)
    (hBs : w.cell? ⟨Bs, 0, none⟩ = some (.slice (some ⟨b, off, none⟩) A.length cap)) (hC : ∀ i, i < A.length → w.cell? ⟨b, off + i, none⟩ = some (.int .u8 (A.getD i 0))) :
    CallsIn Fence.wide n Try.prog 143 #[.slice none 0 0, .func (.func 128) #[] #[.pointer (some ⟨Bs, 0, none⟩)]] w fun e w' => ∃ v, e = .returned v ∧ w'.ownsRow w.heap.size 5 1 v A.length (u8s A) ∧ Below w.heap.size w w' := by
  obtain ⟨i0, hi, hz0, hz1, hz2⟩ := info_parts Try.infoB
  refine callsIn_of_wp_marks Try.func143 rfl trivial ?_ rfl
  simp only [Try.ntmps143, List.size_toArray, List.length_cons, List.length_nil, Nat.reduceAdd, Nat.reduceSub, Array.replicate_succ, Array.replicate_zero, List.push_toArray, List.append_toArray, List.nil_append, List.cons_append]
  have bO := Boxed.new w 33 (.slice none 0 0)
  have hB0 : Below w.heap.size w (w.alloc (.cells #[.slice none 0 0] 33)) := (Below.refl _ w).alloc (Nat.le_refl _) _
  have HC := Lib.hid hC
  clear hC
  gi_wp2
  refine wpIn_rangeFunc_ownG rfl (by omega) (gf := 128) (lb := #[.pointer (some ⟨Bs, 0, none⟩)]) rfl trivial (enters_of Try.func128 (by kernel_rfl) rfl)
    (values_stops (n - 1) (by omega) Bs w.heap.size b off cap A hA _ (by simp; omega) (by simp) hb ((hB0.cell (p := ⟨Bs, 0, none⟩) h1).trans hBs) (fun i hi => (hB0.cell (p := ⟨b, off + i, none⟩) hb).trans (HC.out i hi))) belowK_t (belowK_b (by simp)) (Below.refl _ _) (fun _ => rfl)
    (fun pre W => (∃ v, Boxed W w.heap.size 33 v ∧ W.ownsRow w.heap.size 5 1 v pre.length (u8s pre) ∧ True) ∧ Below w.heap.size w W)
    (fun _ _ _ => False)
    (OwnFrom.and (Own.from (holdsRow_own w.heap.size w.heap.size 33 5 1 (fun pre : List Int => pre.length) (fun pre => u8s pre) (fun _ _ => True)) _) (ownFrom_below (Nat.le_refl _) (by simp)))
    (fun _ _ _ _ _ hs _ _ => hs)
    ⟨⟨_, bO, World.ownsRow_nil _ _ _ _, trivial⟩, hB0⟩ ?a1 ?assign ?body ?done ?stop
  case assign =>
    intro l x W K hK
    gi_wp2
    exact hK
  case body =>
    rintro l pre x W ⟨⟨v, hv, hrow, -⟩, hB⟩ hlt
    have hc := hv.cell
    have hsz := hB.size
    gi_wp2_with (gi_at_builtin; refine wpListIn_append_own _ rfl _ _ 33 rfl w.heap.size 5 i0 (.int .u8 0) 1 1 Try.underlying33 hi hz0 hz1 hz2 rfl (by decide) _ _ _ rfl (hrow.alloc _) ⟨W.heap.size, 0, none⟩ 1 1 [.int .u8 x] rfl rfl (cell_one_new _ _ _) (by simp [Value.oneCell']) (by unfold maxLen; omega) (by omega) (by simp; omega) ?_; intro v' w1 hown' hgrow _; obtain ⟨g', cap', rfl⟩ := ownsRow_succ hown'; obtain ⟨hv1, hv2, hr2, hk2, hb2⟩ := hv.appended (by decide) hrow hB.size (Nat.le_refl _) hown' hgrow; have hc1 := hv1.cell; have hf1 := hv1.frozen)
    exact ⟨hk2.from _, hb2, ⟨_, hv2, by simpa [u8s] using hr2, trivial⟩, hB.trans hb2⟩
  case done =>
    rintro D ys W hD rfl ⟨⟨v, hv, hrow, -⟩, hB⟩ hK
    have hc := hv.cell
    gi_wp2
    refine ⟨by simp, .inl ⟨_, _, rfl, run_takeDeferred hK, ?_⟩⟩
    exact ⟨_, results_tmp rfl _ _ _, v, rfl, ownsRow_putObj hrow _ hK rfl, hB.trans (belowK_b (w := w) (Nat.le_refl _) W D _ _ (by simp at hD; omega) hK rfl rfl)⟩
  case stop =>
    rintro D c pre W _ _ h
    exact h.elim
set_option maxHeartbeats 1000000 in
theorem collect_ok (Bs b off cap : Nat) (A : List Int) (hA : A.length ≤ 1000) (w : World) (h1 : Bs < w.heap.size) (hb : b < w.heap.size)
    (hBs : w.cell? ⟨Bs, 0, none⟩ = some (.slice (some ⟨b, off, none⟩) A.length cap)) (hC : ∀ i, i < A.length → w.cell? ⟨b, off + i, none⟩ = some (.int .u8 (A.getD i 0))) :
    Calls Try.prog 126 #[.func (.func 128) #[] #[.pointer (some ⟨Bs, 0, none⟩)]] w fun e w' => OwnedBy 5 w (u8s A) e w' := by
  have H := Lib.hid (callsIn_wide.1 (appendSeq_in 3 (by omega) Bs b off cap A hA w h1 hb hBs hC))
  clear hC hBs
  go_enter Try.func126, Try.ntmps126
  go_wp2_with fail
  refine H.out.mono ?_
  rintro e w1 ⟨v, rfl, ho, hbl⟩
  go_wp2
  go_ret
  exact ⟨_, rfl, by rw [u8s_length]; exact ho, Mods.of_below hbl⟩
end Go.Proofs.Ytgjjmiaiclhidaa
