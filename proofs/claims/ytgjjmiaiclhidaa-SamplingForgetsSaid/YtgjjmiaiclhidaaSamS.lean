/- sampling.Step and the reference's: contracts. -/
import Derived.Test.YtgjjmiaiclhidaaSamV
import Derived.Test.YtgjjmiaiclhidaaBaseK
import Derived.Test.YtgjjmiaiclhidaaBaseI
import Derived.Test.YtgjjmiaiclhidaaResRow
import Derived.Test.YtgjjmiaiclhidaaBaseE
namespace Go.Proofs.Ytgjjmiaiclhidaa
open Go.RowKit

def stepA (b : Bool) (k : Int) (W : List Int) (n r : Int) (ok : Bool) : (List Int × Int) × Int := if b then (stepF k W n r ok, 0) else (([], 0), 1)
/-- A filter is handed back, its window a slice of the call's own. -/
def StepRes (w : World) (A : (List Int × Int) × Int) (e : Ending) (w' : World) : Prop :=
  ∃ win', e = .returned (.tuple #[.agg #[win', .int .i64 A.1.2], .int .i64 A.2]) ∧ Rd w' win' (u8s A.1.1) ∧ (∀ q, win'.ownBlock = some q → w.heap.size ≤ q) ∧ Mods [] w w'
theorem flt_samples {S : Sen} {P : List Pt} {W : List Int} {n : Int} (h : fltB S P W n = true) : 1 ≤ S.samples ∧ (W.length : Int) ≤ S.samples ∧ 0 ≤ n ∧ n ≤ 3 ∧ S.samples ≤ 5 := by
  rw [fltB_eq, Bool.and_eq_true, decide_eq_true_eq] at h
  obtain ⟨hv, h1, h2, h3, _⟩ := h
  unfold validB at hv
  simp only [Bool.and_eq_true, decide_eq_true_eq] at hv
  have := hv.1.2
  omega
theorem Try.infoFl : (Try.prog.info? 90).map (·.size) = some 2 := by kernel_rfl
theorem Try.infoSl : (Try.prog.info? 33).map (·.size) = some 1 := by kernel_rfl
theorem Try.infoI1 : (Try.prog.info? 3).map (·.size) = some 1 := by kernel_rfl
theorem rd_tail {w : World} {g cap : Nat} {A : List Int} (h : Rd w (.slice (some ⟨g, 0, none⟩) A.length cap) (u8s A)) (h0 : 0 < A.length) : Rd w (.slice (some ⟨g, 1, none⟩) (A.length - 1) (cap - 1)) (u8s (A.drop 1)) := by
  obtain ⟨ad, cap', he, h1, h2, hc⟩ := h.u8
  injection he with he1 _ he3
  subst he3
  have hl : (u8s (A.drop 1)).length = A.length - 1 := by rw [u8s_length, List.length_drop]
  refine ⟨some ⟨g, 1, none⟩, cap - 1, by rw [hl], by omega, by unfold maxLen at *; omega, fun i hi => ⟨g, 1, rfl, ?_⟩⟩
  obtain ⟨b, o, hb, hx⟩ := hc (i + 1) (by omega)
  rw [← he1] at hb
  injection hb with hb
  injection hb with hb1 hb2
  subst hb1 hb2
  rw [u8s_getD _ _ (by rw [List.length_drop]; omega)]
  rw [show 1 + i = 0 + (i + 1) by omega, hx, List.getD_eq_getElem?_getD, List.getD_eq_getElem?_getD, List.getElem?_drop, Nat.add_comm]
set_option maxRecDepth 100000 in
set_option maxHeartbeats 4000000 in
theorem samStep_ok (w : World) (S : Sen) (P : List Pt) (win : Value) (W : List Int) (n : Int) (r : Int) (ok : Bool) (hS : IsSen w S P) (hF : IsFlt w win W n) :
    Calls Try.prog 64 #[.agg S.cells, .agg #[win, .int .i64 n], .int .u8 r, .bool ok] w fun e w' => StepRes w (stepA (fltB S P W n) S.samples W n r ok) e w' := by
  have HS := Lib.hid hS
  have HF := Lib.hid hF
  obtain ⟨ad, cap, rfl, h1, h2, -⟩ := hF.rd.u8
  have h3 : cap ≤ 9223372036854775807 := h2
  have hlen := hF.len
  clear hS hF h2
  have R2 := heap_alloc_new ((w.alloc (.cells S.cells 32)).alloc (.cells #[.slice ad W.length cap, .int .i64 n] 90)) (.cells #[.slice none 0 0, .int .i64 0] 90)
  rw [World.size_alloc, World.size_alloc] at R2
  have R1 := heap_alloc_new (w.alloc (.cells S.cells 32)) (.cells #[.slice ad W.length cap, .int .i64 n] 90)
  rw [World.size_alloc] at R1
  have HR2 := Lib.hid R2
  have HR1 := Lib.hid (heap_alloc (o' := .cells #[.slice none 0 0, .int .i64 0] 90) R1)
  have HB := Lib.hid (SenBox.mk (heap_alloc (o' := .cells #[.slice none 0 0, .int .i64 0] 90) (heap_alloc (o' := .cells #[.slice ad W.length cap, .int .i64 n] 90) (heap_alloc_new w (.cells S.cells 32)))))
  have HM0 := Lib.hid ((((Mods.refl (S := []) (w := w)).alloc (.cells S.cells 32)).alloc (.cells #[.slice ad W.length cap, .int .i64 n] 90)).alloc (.cells #[.slice none 0 0, .int .i64 0] 90))
  obtain ⟨_, _, _, _, _, _, x27⟩ := S.restc
  clear R1 R2
  have HA := Lib.hid (show stepA (fltB S P W n) S.samples W n r ok = if fltB S P W n then (stepF S.samples W n r ok, 0) else (([], 0), 1) from rfl)
  generalize stepA (fltB S P W n) S.samples W n r ok = A at HA ⊢
  go_enter Try.func64, Try.ntmps64
  go_wp2_with (refine wpList_load_sen rfl (.tmp 4) rfl HB.out (by rfl) ?_)
  refine (samValid_ok _ S P _ W n (HS.out.mods0 HM0.out) (HF.out.mods0 HM0.out)).mono ?_
  rintro e w1 ⟨rfl, M1⟩
  have HM1 := Lib.hid (HM0.out.trans M1)
  have RB := (M1.heap HB.out.blk (by simp))
  have RF := (M1.heap HR1.out (by simp))
  have RZ := (M1.heap HR2.out (by simp))
  have hw1 := M1.size
  simp only [World.size_alloc] at hw1
  have y0 : w1.cell? ⟨w.heap.size, 27, none⟩ = some (.int .i64 S.samples) := (cell_blk RB 27).trans x27
  have y1 : w1.cell? ⟨w.heap.size + 1, 0, none⟩ = some (.slice ad W.length cap) := (cell_blk RF 0).trans rfl
  have y2 : w1.cell? ⟨w.heap.size + 1, 1, none⟩ = some (.int .i64 n) := (cell_blk RF 1).trans rfl
  have HZ := Lib.hid RZ
  have HF1 := Lib.hid (HF.out.mods0 HM1.out)
  clear M1 RB RF RZ HB HR1 HM0 HS HF x27
  cases hb : fltB S P W n with
  | false =>
    obtain rfl : A = (([], 0), 1) := HA.out.trans (if_neg (by rw [hb]; decide))
    clear hb HA
    go_wp2_with (refine wpList_store_row (cs := #[.slice none 0 0, .int .i64 0]) rfl 90 (.tmp 8) (.tmp 15) rfl HZ.out (by rfl) (by rfl) (by rfl) Try.infoFl (by simp [Value.oneCell']) ?_; intro w9 R9 M9)
    refine bodyPost_ret (results_cell_row2 rfl _ _ (w.heap.size + 2) _ _ _ _ rfl R9 Try.underlying90 rfl Try.infoFl) rfl ?_
    exact ⟨.slice none 0 0, rfl, Rd.nil _, (fun q hq => by cases hq), HM1.out.comp M9 (fun k hk => by simp at hk; exact .inr (by omega))⟩
  | true =>
    have hsam := flt_samples hb
    replace HA := Lib.hid (HA.out.trans (if_pos hb))
    clear hb
    go_wp2_with fail
    refine (cloneB_ok w1 _ (u8s W) HF1.out.rd (one_u8s W) (by rw [u8s_length]; omega)).mono ?_
    rintro e w2 ⟨vC, rfl, O2, M2⟩
    have HO2 := Lib.hid (show OwnB w2 w1.heap.size vC W from O2)
    obtain ⟨aC, cC, rfl⟩ := HO2.out.rd.len
    rw [u8s_length] at HO2 ⊢
    have HM2 := Lib.hid (HM1.out.trans M2)
    have HZ2 := Lib.hid (M2.heap HZ.out (by simp))
    have y02 := M2.cell y0 (by simp)
    have y22 := M2.cell y2 (by simp)
    have hw2 := M2.size
    clear O2 M2 HZ HM1 y0 y1 HF1 h3
    have HVC := Lib.hid (show ∀ k, k ∈ (Value.slice aC W.length cC).ownBlock.toList → w1.heap.size ≤ k ∧ k < w2.heap.size from fun k hk => HO2.out.lt k (by simpa using hk))
    cases ok with
    | true =>
      obtain rfl : A = ((nextW S.samples W r, 0), 0) := HA.out
      clear HA
      by_cases hk : S.samples < (W.length : Int) + 1
      · have q1 : decide (S.samples < ((W.length + 1 : Nat) : Int)) = true := decide_eq_true (by omega)
        have HNX := Lib.hid (show nextW S.samples W r = (W ++ [r]).drop 1 from if_pos hk)
        go_wp2_with (first
          | (refine wpList_store_row (cs := #[.slice aC W.length cC, .int .i64 0]) rfl 90 (.tmp 10) (.tmp 19) rfl (heap_alloc_new w2 _) (by rfl) (by rfl) (by rfl) Try.infoFl (by simp [Value.oneCell']) ?_; intro w3 R3 M3; have HF3 := Lib.hid (fresh M3); have HM4 := Lib.hid (HM2.out.trans HF3.out); have HO3 := Lib.hid (HO2.out.mods0 HF3.out); have HZ3 := Lib.hid (HF3.out.heap HZ2.out (by simp)); have y03 := HF3.out.cell y02 (by simp); have y23 := HF3.out.cell y22 (by simp); have d0 : w3.cell? ⟨w2.heap.size, 0, none⟩ = some (.slice aC W.length cC) := (cell_blk R3 0).trans rfl; have HR3 := Lib.hid R3; have hw3 := lt_of_block R3; clear R3 M3)
          | (at_builtin; refine wpList_appB (by rfl) (.tmp 22) (.tmp 24) rfl (v := .slice aC W.length cC) (by rfl) (HO3.out.mods0 (Mods.refl.alloc _)) (by rfl) (OwnB.lit w3 (Nat.le_refl _) [r] (by unfold maxLen; simp)).rd (by simp; omega) (by simp; omega) ?_; go_must (intro VB WB OB MB; obtain ⟨gB, cB, cur, hVB, hq1, hcl, hq2⟩ := owns_form OB (by simp [u8s_length]); have hcB : ¬ cB = 1 := (by rw [u8s_length, List.length_append, List.length_singleton] at hcl; omega); clear hq1 hcl hq2; simp only [u8s_length, List.length_append, List.length_cons, List.length_nil, Nat.zero_add] at hVB; subst hVB; have HOB := Lib.hid OB; have HMB := Lib.hid ((HM4.out.alloc (.cells (u8s [r]).toArray 5)).comp MB (fun k hk => .inr (by have := (HVC.out k hk).1; omega))); have HRB := Lib.hid (MB.heap (heap_alloc (o' := .cells (u8s [r]).toArray 5) HR3.out) (fun hm => by have := (HVC.out _ hm).2; omega)); have HZB := Lib.hid (MB.heap (heap_alloc (o' := .cells (u8s [r]).toArray 5) HZ3.out) (fun hm => by have := (HVC.out _ hm).1; omega)); have y0B := MB.cell (((Mods.refl (S := []) (w := w3)).alloc (.cells (u8s [r]).toArray 5)).cell y03 (by simp)) (fun hm => by have := (HVC.out _ hm).1; simp at this; omega); clear OB MB))
          | (refine wpList_store_one rfl rfl 33 (.tmp 26) (.tmp 25) rfl HRB.out 0 rfl (by rfl) (by simp) Try.infoSl rfl ?_; intro w5 R5 M5; have HR5 : Hid (w5.heap[w2.heap.size]? = some (.cells #[.slice (some ⟨gB, 0, none⟩) (W.length + 1) cB, .int .i64 0] 90 (0, 0))) := Lib.hid R5; have d5 : w5.cell? ⟨w2.heap.size, 0, none⟩ = some (.slice (some ⟨gB, 0, none⟩) (W.length + 1) cB) := (cell_blk HR5.out 0).trans rfl; have HM5 := Lib.hid (HMB.out.comp M5 (fun k hk => by simp at hk; exact .inr (by omega))); have HZ5 := Lib.hid (M5.heap HZB.out (by simp; omega)); have y05 := M5.cell y0B (by simp; omega); have HO5 := Lib.hid (HOB.out.mods M5 (fun k hk hm => by simp at hm; subst hm; exact HOB.out.apart HRB.out (by decide) (by simpa using hk))); clear R5 M5)
          | (refine wpList_store_one rfl rfl 33 (.tmp 36) (.tmp 35) rfl HR5.out 0 rfl (u := .slice (some ⟨gB, 1, none⟩) W.length (cB - 1)) (by rfl) (by simp) Try.infoSl rfl ?_; intro w7 R7 M7; have HR7 : Hid (w7.heap[w2.heap.size]? = some (.cells #[.slice (some ⟨gB, 1, none⟩) W.length (cB - 1), .int .i64 0] 90 (0, 0))) := Lib.hid R7; have HO7 := Lib.hid (HO5.out.mods M7 (fun k hk hm => by simp at hm; subst hm; exact HO5.out.apart HR5.out (by decide) (by simpa using hk))); have HM7 := Lib.hid (HM5.out.comp M7 (fun k hk => by simp at hk; exact .inr (by omega))); have HZ7 := Lib.hid (M7.heap HZ5.out (by simp; omega)); clear R7 M7)
          | (refine wpList_load_row rfl _ (.tmp 10) rfl w2.heap.size (by rfl) _ _ _ _ HR7.out Try.underlying90 rfl Try.infoFl ?_)
          | (show wpList _ _ _ (⟨none, .store 90 _ _, _, _, _, _⟩ :: _) _ _; go_must (refine wpList_store_row (cs := #[.slice (some ⟨gB, 1, none⟩) W.length (cB - 1), .int .i64 0]) rfl 90 (.tmp 8) (.tmp 37) rfl HZ7.out (by rfl) (by rfl) (by rfl) Try.infoFl (by simp [Value.oneCell']) ?_; intro w9 R9 M9))
          )
        refine bodyPost_ret (results_cell_row2 rfl _ _ (w.heap.size + 2) _ _ _ _ rfl R9 Try.underlying90 rfl Try.infoFl) rfl ?_
        have OR := HO7.out.rd
        rw [show W.length + 1 = (W ++ [r]).length by simp] at OR
        have OT := rd_tail OR (by simp)
        rw [show (W ++ [r]).length - 1 = W.length by simp] at OT
        have hgB := (HOB.out.lt gB rfl)
        exact ⟨.slice (some ⟨gB, 1, none⟩) W.length (cB - 1), rfl, by rw [HNX.out]; exact OT.mods M9 (fun _ k hk hm => by simp [Value.ownBlock] at hk hm; omega), (fun q hq => by simp [Value.ownBlock] at hq; omega), HM7.out.comp M9 (fun k hk => by simp at hk; exact .inr (by omega))⟩
      · have q1 : decide (S.samples < ((W.length + 1 : Nat) : Int)) = false := decide_eq_false (by omega)
        have HNX := Lib.hid (show nextW S.samples W r = W ++ [r] from if_neg hk)
        go_wp2_with (first
          | (refine wpList_store_row (cs := #[.slice aC W.length cC, .int .i64 0]) rfl 90 (.tmp 10) (.tmp 19) rfl (heap_alloc_new w2 _) (by rfl) (by rfl) (by rfl) Try.infoFl (by simp [Value.oneCell']) ?_; intro w3 R3 M3; have HF3 := Lib.hid (fresh M3); have HM4 := Lib.hid (HM2.out.trans HF3.out); have HO3 := Lib.hid (HO2.out.mods0 HF3.out); have HZ3 := Lib.hid (HF3.out.heap HZ2.out (by simp)); have y03 := HF3.out.cell y02 (by simp); have y23 := HF3.out.cell y22 (by simp); have d0 : w3.cell? ⟨w2.heap.size, 0, none⟩ = some (.slice aC W.length cC) := (cell_blk R3 0).trans rfl; have HR3 := Lib.hid R3; have hw3 := lt_of_block R3; clear R3 M3)
          | (at_builtin; refine wpList_appB (by rfl) (.tmp 22) (.tmp 24) rfl (v := .slice aC W.length cC) (by rfl) (HO3.out.mods0 (Mods.refl.alloc _)) (by rfl) (OwnB.lit w3 (Nat.le_refl _) [r] (by unfold maxLen; simp)).rd (by simp; omega) (by simp; omega) ?_; go_must (intro VB WB OB MB; obtain ⟨gB, cB, cur, hVB, hq1, hcl, hq2⟩ := owns_form OB (by simp [u8s_length]); skip; clear hq1 hcl hq2; simp only [u8s_length, List.length_append, List.length_cons, List.length_nil, Nat.zero_add] at hVB; subst hVB; have HOB := Lib.hid OB; have HMB := Lib.hid ((HM4.out.alloc (.cells (u8s [r]).toArray 5)).comp MB (fun k hk => .inr (by have := (HVC.out k hk).1; omega))); have HRB := Lib.hid (MB.heap (heap_alloc (o' := .cells (u8s [r]).toArray 5) HR3.out) (fun hm => by have := (HVC.out _ hm).2; omega)); have HZB := Lib.hid (MB.heap (heap_alloc (o' := .cells (u8s [r]).toArray 5) HZ3.out) (fun hm => by have := (HVC.out _ hm).1; omega)); have y0B := MB.cell (((Mods.refl (S := []) (w := w3)).alloc (.cells (u8s [r]).toArray 5)).cell y03 (by simp)) (fun hm => by have := (HVC.out _ hm).1; simp at this; omega); clear OB MB))
          | (refine wpList_store_one rfl rfl 33 (.tmp 26) (.tmp 25) rfl HRB.out 0 rfl (by rfl) (by simp) Try.infoSl rfl ?_; intro w5 R5 M5; have HR5 : Hid (w5.heap[w2.heap.size]? = some (.cells #[.slice (some ⟨gB, 0, none⟩) (W.length + 1) cB, .int .i64 0] 90 (0, 0))) := Lib.hid R5; have d5 : w5.cell? ⟨w2.heap.size, 0, none⟩ = some (.slice (some ⟨gB, 0, none⟩) (W.length + 1) cB) := (cell_blk HR5.out 0).trans rfl; have HM5 := Lib.hid (HMB.out.comp M5 (fun k hk => by simp at hk; exact .inr (by omega))); have HZ5 := Lib.hid (M5.heap HZB.out (by simp; omega)); have y05 := M5.cell y0B (by simp; omega); have HO5 := Lib.hid (HOB.out.mods M5 (fun k hk hm => by simp at hm; subst hm; exact HOB.out.apart HRB.out (by decide) (by simpa using hk))); clear R5 M5)
          | (refine wpList_load_row rfl _ (.tmp 10) rfl w2.heap.size (by rfl) _ _ _ _ HR5.out Try.underlying90 rfl Try.infoFl ?_)
          | (show wpList _ _ _ (⟨none, .store 90 _ _, _, _, _, _⟩ :: _) _ _; go_must (refine wpList_store_row (cs := #[.slice (some ⟨gB, 0, none⟩) (W.length + 1) cB, .int .i64 0]) rfl 90 (.tmp 8) (.tmp 37) rfl HZ5.out (by rfl) (by rfl) (by rfl) Try.infoFl (by simp [Value.oneCell']) ?_; intro w9 R9 M9))
          )
        refine bodyPost_ret (results_cell_row2 rfl _ _ (w.heap.size + 2) _ _ _ _ rfl R9 Try.underlying90 rfl Try.infoFl) rfl ?_
        have OR := HO5.out.rd
        have hgB := (HOB.out.lt gB rfl)
        exact ⟨.slice (some ⟨gB, 0, none⟩) (W.length + 1) cB, rfl, by rw [HNX.out]; exact OR.mods M9 (fun _ k hk hm => by simp [Value.ownBlock] at hk hm; omega), (fun q hq => by simp [Value.ownBlock] at hq; omega), HM5.out.comp M9 (fun k hk => by simp at hk; exact .inr (by omega))⟩
    | false =>
      by_cases h2 : n + 1 < 3
      · have hm : min (n + 1) 3 = n + 1 := by omega
        obtain rfl : A = ((W, n + 1), 0) := HA.out.trans (by unfold stepF; simp only [hm]; rw [if_neg (by simp), if_neg (by omega)])
        have e3 : (n + 1 == 3) = false := beq_eq_false_iff_ne.2 (by omega)
        clear HA
        go_wp2_with (first
          | (refine wpList_store_row (cs := #[.slice aC W.length cC, .int .i64 0]) rfl 90 (.tmp 10) (.tmp 19) rfl (heap_alloc_new w2 _) (by rfl) (by rfl) (by rfl) Try.infoFl (by simp [Value.oneCell']) ?_; intro w3 R3 M3; have HF3 := Lib.hid (fresh M3); have HM4 := Lib.hid (HM2.out.trans HF3.out); have HO3 := Lib.hid (HO2.out.mods0 HF3.out); have HZ3 := Lib.hid (HF3.out.heap HZ2.out (by simp)); have y03 := HF3.out.cell y02 (by simp); have y23 := HF3.out.cell y22 (by simp); have d0 : w3.cell? ⟨w2.heap.size, 0, none⟩ = some (.slice aC W.length cC) := (cell_blk R3 0).trans rfl; have HR3 := Lib.hid R3; have hw3 := lt_of_block R3; clear R3 M3)
          | (refine wpList_store_one rfl rfl 3 (.tmp 42) (.tmp 41) rfl HR3.out 1 rfl (u := .int .i64 (n + 1)) (by rfl) (by simp) Try.infoI1 rfl ?_; go_must (intro w5 R5 M5; have HR5 : Hid (w5.heap[w2.heap.size]? = some (.cells #[.slice aC W.length cC, .int .i64 (n + 1)] 90 (0, 0))) := Lib.hid R5; have d5 : w5.cell? ⟨w2.heap.size, 1, none⟩ = some (.int .i64 (n + 1)) := (cell_blk HR5.out 1).trans rfl; have HM5 := Lib.hid (HM4.out.comp M5 (fun k hk => by simp at hk; exact .inr (by omega))); have HZ5 := Lib.hid (M5.heap HZ3.out (by simp; omega)); have HO5 := Lib.hid (HO3.out.mods M5 (fun k hk hm => by simp at hm; subst hm; have := HVC.out _ (by simpa using hk); omega)); clear R5 M5))
          | (refine wpList_load_row rfl _ (.tmp 10) rfl w2.heap.size (by rfl) _ _ _ _ HR5.out Try.underlying90 rfl Try.infoFl ?_)
          | (show wpList _ _ _ (⟨none, .store 90 _ _, _, _, _, _⟩ :: _) _ _; go_must (refine wpList_store_row (cs := #[.slice aC W.length cC, .int .i64 (n + 1)]) rfl 90 (.tmp 8) (.tmp 47) rfl HZ5.out (by rfl) (by rfl) (by rfl) Try.infoFl (by simp [Value.oneCell']) ?_; intro w9 R9 M9))
          )
        refine bodyPost_ret (results_cell_row2 rfl _ _ (w.heap.size + 2) _ _ _ _ rfl R9 Try.underlying90 rfl Try.infoFl) rfl ?_
        exact ⟨.slice aC W.length cC, rfl, HO5.out.rd.mods M9 (fun _ k hk hm => by have := HVC.out k (by simpa using hk); simp at hm; omega), (fun q hq => by have := HVC.out q (by simpa using hq); omega), HM5.out.comp M9 (fun k hk => by simp at hk; exact .inr (by omega))⟩
      · have hm : min (n + 1) 3 = 3 := by omega
        obtain rfl : A = (([], 3), 0) := HA.out.trans (by simp [stepF, hm])
        clear HA hm
        rcases (show n = 2 ∨ n = 3 by omega) with rfl | rfl
        all_goals
          go_wp2_with (first
            | (refine wpList_store_row (cs := #[.slice aC W.length cC, .int .i64 0]) rfl 90 (.tmp 10) (.tmp 19) rfl (heap_alloc_new w2 _) (by rfl) (by rfl) (by rfl) Try.infoFl (by simp [Value.oneCell']) ?_; intro w3 R3 M3; have HF3 := Lib.hid (fresh M3); have HM4 := Lib.hid (HM2.out.trans HF3.out); have HO3 := Lib.hid (HO2.out.mods0 HF3.out); have HZ3 := Lib.hid (HF3.out.heap HZ2.out (by simp)); have y03 := HF3.out.cell y02 (by simp); have y23 := HF3.out.cell y22 (by simp); have d0 : w3.cell? ⟨w2.heap.size, 0, none⟩ = some (.slice aC W.length cC) := (cell_blk R3 0).trans rfl; have HR3 := Lib.hid R3; have hw3 := lt_of_block R3; clear R3 M3)
            | (refine wpList_store_one rfl rfl 3 (.tmp 42) (.tmp 41) rfl HR3.out 1 rfl (u := .int .i64 3) (by rfl) (by simp) Try.infoI1 rfl ?_; go_must (intro w5 R5 M5; have HR5 : Hid (w5.heap[w2.heap.size]? = some (.cells #[.slice aC W.length cC, .int .i64 3] 90 (0, 0))) := Lib.hid R5; have d5 : w5.cell? ⟨w2.heap.size, 1, none⟩ = some (.int .i64 3) := (cell_blk HR5.out 1).trans rfl; have HM5 := Lib.hid (HM4.out.comp M5 (fun k hk => by simp at hk; exact .inr (by omega))); have HZ5 := Lib.hid (M5.heap HZ3.out (by simp; omega)); have HO5 := Lib.hid (HO3.out.mods M5 (fun k hk hm => by simp at hm; subst hm; have := HVC.out _ (by simpa using hk); omega)); clear R5 M5))
            | (show wpList _ _ _ (⟨none, .store 33 _ _, _, _, _, _⟩ :: _) _ _; go_must (refine wpList_store_one rfl rfl 33 (.tmp 46) (.const (.slice none 0 0)) rfl HR5.out 0 rfl (u := .slice none 0 0) (by rfl) (by simp) Try.infoSl rfl ?_; intro w7 R7 M7; have HR7 : Hid (w7.heap[w2.heap.size]? = some (.cells #[.slice none 0 0, .int .i64 3] 90 (0, 0))) := Lib.hid R7; have HM7 := Lib.hid (HM5.out.comp M7 (fun k hk => by simp at hk; exact .inr (by omega))); have HZ7 := Lib.hid (M7.heap HZ5.out (by simp; omega)); clear R7 M7))
            | (refine wpList_load_row rfl _ (.tmp 10) rfl w2.heap.size (by rfl) _ _ _ _ HR7.out Try.underlying90 rfl Try.infoFl ?_)
            | (show wpList _ _ _ (⟨none, .store 90 _ _, _, _, _, _⟩ :: _) _ _; go_must (refine wpList_store_row (cs := #[.slice none 0 0, .int .i64 3]) rfl 90 (.tmp 8) (.tmp 47) rfl HZ7.out (by rfl) (by rfl) (by rfl) Try.infoFl (by simp [Value.oneCell']) ?_; intro w9 R9 M9))
            )
          refine bodyPost_ret (results_cell_row2 rfl _ _ (w.heap.size + 2) _ _ _ _ rfl R9 Try.underlying90 rfl Try.infoFl) rfl ?_
          exact ⟨.slice none 0 0, rfl, Rd.nil _, (fun q hq => by cases hq), HM7.out.comp M9 (fun k hk => by simp at hk; exact .inr (by omega))⟩
set_option maxRecDepth 100000 in
set_option maxHeartbeats 4000000 in
theorem refStep14_ok (w : World) (S : Sen) (P : List Pt) (win : Value) (W : List Int) (n : Int) (r : Int) (ok : Bool) (hS : IsSen w S P) (hF : IsFlt w win W n) :
    Calls Try.prog 65 #[.agg S.cells, .agg #[win, .int .i64 n], .int .u8 r, .bool ok] w fun e w' => StepRes w (stepA (fltB S P W n) S.samples W n r ok) e w' := by
  have HS := Lib.hid hS
  have HF := Lib.hid hF
  obtain ⟨ad, cap, rfl, h1, h2, -⟩ := hF.rd.u8
  have h3 : cap ≤ 9223372036854775807 := h2
  have hlen := hF.len
  clear hS hF h2
  have R2 := heap_alloc_new ((w.alloc (.cells S.cells 32)).alloc (.cells #[.slice ad W.length cap, .int .i64 n] 90)) (.cells #[.slice none 0 0, .int .i64 0] 90)
  rw [World.size_alloc, World.size_alloc] at R2
  have R1 := heap_alloc_new (w.alloc (.cells S.cells 32)) (.cells #[.slice ad W.length cap, .int .i64 n] 90)
  rw [World.size_alloc] at R1
  have HR2 := Lib.hid R2
  have HR1 := Lib.hid (heap_alloc (o' := .cells #[.slice none 0 0, .int .i64 0] 90) R1)
  have HB := Lib.hid (SenBox.mk (heap_alloc (o' := .cells #[.slice none 0 0, .int .i64 0] 90) (heap_alloc (o' := .cells #[.slice ad W.length cap, .int .i64 n] 90) (heap_alloc_new w (.cells S.cells 32)))))
  have HM0 := Lib.hid ((((Mods.refl (S := []) (w := w)).alloc (.cells S.cells 32)).alloc (.cells #[.slice ad W.length cap, .int .i64 n] 90)).alloc (.cells #[.slice none 0 0, .int .i64 0] 90))
  obtain ⟨_, _, _, _, _, _, x27⟩ := S.restc
  clear R1 R2
  have HA := Lib.hid (show stepA (fltB S P W n) S.samples W n r ok = if fltB S P W n then (stepF S.samples W n r ok, 0) else (([], 0), 1) from rfl)
  generalize stepA (fltB S P W n) S.samples W n r ok = A at HA ⊢
  go_enter Try.func65, Try.ntmps65
  go_wp2_with (refine wpList_load_sen rfl (.tmp 4) rfl HB.out (by rfl) ?_)
  refine (refSamValid_ok _ S P _ W n (HS.out.mods0 HM0.out) (HF.out.mods0 HM0.out)).mono ?_
  rintro e w1 ⟨rfl, M1⟩
  have HM1 := Lib.hid (HM0.out.trans M1)
  have RB := (M1.heap HB.out.blk (by simp))
  have RF := (M1.heap HR1.out (by simp))
  have RZ := (M1.heap HR2.out (by simp))
  have hw1 := M1.size
  simp only [World.size_alloc] at hw1
  have y0 : w1.cell? ⟨w.heap.size, 27, none⟩ = some (.int .i64 S.samples) := (cell_blk RB 27).trans x27
  have y1 : w1.cell? ⟨w.heap.size + 1, 0, none⟩ = some (.slice ad W.length cap) := (cell_blk RF 0).trans rfl
  have y2 : w1.cell? ⟨w.heap.size + 1, 1, none⟩ = some (.int .i64 n) := (cell_blk RF 1).trans rfl
  have HZ := Lib.hid RZ
  have HF1 := Lib.hid (HF.out.mods0 HM1.out)
  clear M1 RB RF RZ HB HR1 HM0 HS HF x27 HR2
  cases hb : fltB S P W n with
  | false =>
    obtain rfl : A = (([], 0), 1) := HA.out.trans (if_neg (by rw [hb]; decide))
    clear hb HA
    go_wp2_with (refine wpList_store_row (cs := #[.slice none 0 0, .int .i64 0]) rfl 90 (.tmp 8) (.tmp 16) rfl HZ.out (by rfl) (by rfl) (by rfl) Try.infoFl (by simp [Value.oneCell']) ?_; intro w9 R9 M9)
    refine bodyPost_ret (results_cell_row2 rfl _ _ (w.heap.size + 2) _ _ _ _ rfl R9 Try.underlying90 rfl Try.infoFl) rfl ?_
    exact ⟨.slice none 0 0, rfl, Rd.nil _, (fun q hq => by cases hq), HM1.out.comp M9 (fun k hk => by simp at hk; exact .inr (by omega))⟩
  | true =>
    have hsam := flt_samples hb
    replace HA := Lib.hid (HA.out.trans (if_pos hb))
    clear hb
    cases ok with
    | true =>
      obtain rfl : A = ((nextW S.samples W r, 0), 0) := HA.out
      clear HA
      go_wp2_with fail
      refine (refCopy_ok w1 _ W HF1.out.rd (by omega)).mono ?_
      rintro e w2 ⟨vC, rfl, O2, M2⟩
      have HO2 := Lib.hid (show OwnB w2 w1.heap.size vC W from O2)
      obtain ⟨aC, cC, rfl⟩ := HO2.out.rd.len
      rw [u8s_length] at HO2 ⊢
      have HM2 := Lib.hid (HM1.out.trans M2)
      have HZ2 := Lib.hid (M2.heap HZ.out (by simp))
      have y02 := M2.cell y0 (by simp)
      have hw2 := M2.size
      have HVC := Lib.hid (show ∀ k, k ∈ (Value.slice aC W.length cC).ownBlock.toList → w1.heap.size ≤ k ∧ k < w2.heap.size from fun k hk => HO2.out.lt k (by simpa using hk))
      clear O2 M2 HZ HM1 y0 y1 y2 HF1 h3
      by_cases hk : S.samples < (W.length : Int) + 1
      · have q1 : decide (S.samples < ((W.length + 1 : Nat) : Int)) = true := decide_eq_true (by omega)
        have HNX := Lib.hid (show nextW S.samples W r = (W ++ [r]).drop 1 from if_pos hk)
        go_wp2_with (first
          | (at_builtin; refine wpList_appB (by rfl) (.tmp 20) (.tmp 22) rfl (v := .slice aC W.length cC) (by rfl) (HO2.out.mods0 (Mods.refl.alloc _)) (by rfl) (OwnB.lit w2 (Nat.le_refl _) [r] (by unfold maxLen; simp)).rd (by simp; omega) (by simp; omega) ?_; go_must (intro VB WB OB MB; obtain ⟨gB, cB, cur, hVB, hq1, hcl, hq2⟩ := owns_form OB (by simp [u8s_length]); have hcB : ¬ cB = 1 := (by rw [u8s_length, List.length_append, List.length_singleton] at hcl; omega); clear hq1 hcl hq2; simp only [u8s_length, List.length_append, List.length_cons, List.length_nil, Nat.zero_add] at hVB; subst hVB; have HOB := Lib.hid OB; have HMB := Lib.hid ((HM2.out.alloc (.cells (u8s [r]).toArray 5)).comp MB (fun k hk => .inr (by have := (HVC.out k hk).1; omega))); have HZB := Lib.hid (MB.heap (heap_alloc (o' := .cells (u8s [r]).toArray 5) HZ2.out) (fun hm => by have := (HVC.out _ hm).1; omega)); have y0B := MB.cell (((Mods.refl (S := []) (w := w2)).alloc (.cells (u8s [r]).toArray 5)).cell y02 (by simp)) (fun hm => by have := (HVC.out _ hm).1; simp at this; omega); clear OB MB))
          | (show wpList _ _ _ (⟨none, .store 90 _ _, _, _, _, _⟩ :: _) _ _; go_must (refine wpList_store_row (cs := #[.slice (some ⟨gB, 1, none⟩) W.length (cB - 1), .int .i64 0]) rfl 90 (.tmp 8) (.tmp 32) rfl HZB.out (by rfl) (by rfl) (by rfl) Try.infoFl (by simp [Value.oneCell']) ?_; intro w9 R9 M9))
          )
        refine bodyPost_ret (results_cell_row2 rfl _ _ (w.heap.size + 2) _ _ _ _ rfl R9 Try.underlying90 rfl Try.infoFl) rfl ?_
        have OR := HOB.out.rd
        rw [show W.length + 1 = (W ++ [r]).length by simp] at OR
        have OT := rd_tail OR (by simp)
        rw [show (W ++ [r]).length - 1 = W.length by simp] at OT
        have hgB := (HOB.out.lt gB rfl)
        exact ⟨.slice (some ⟨gB, 1, none⟩) W.length (cB - 1), rfl, by rw [HNX.out]; exact OT.mods M9 (fun _ k hk hm => by simp [Value.ownBlock] at hk hm; omega), (fun q hq => by simp [Value.ownBlock] at hq; omega), HMB.out.comp M9 (fun k hk => by simp at hk; exact .inr (by omega))⟩
      · have q1 : decide (S.samples < ((W.length + 1 : Nat) : Int)) = false := decide_eq_false (by omega)
        have HNX := Lib.hid (show nextW S.samples W r = W ++ [r] from if_neg hk)
        go_wp2_with (first
          | (at_builtin; refine wpList_appB (by rfl) (.tmp 20) (.tmp 22) rfl (v := .slice aC W.length cC) (by rfl) (HO2.out.mods0 (Mods.refl.alloc _)) (by rfl) (OwnB.lit w2 (Nat.le_refl _) [r] (by unfold maxLen; simp)).rd (by simp; omega) (by simp; omega) ?_; go_must (intro VB WB OB MB; obtain ⟨gB, cB, cur, hVB, hq1, hcl, hq2⟩ := owns_form OB (by simp [u8s_length]); skip; clear hq1 hcl hq2; simp only [u8s_length, List.length_append, List.length_cons, List.length_nil, Nat.zero_add] at hVB; subst hVB; have HOB := Lib.hid OB; have HMB := Lib.hid ((HM2.out.alloc (.cells (u8s [r]).toArray 5)).comp MB (fun k hk => .inr (by have := (HVC.out k hk).1; omega))); have HZB := Lib.hid (MB.heap (heap_alloc (o' := .cells (u8s [r]).toArray 5) HZ2.out) (fun hm => by have := (HVC.out _ hm).1; omega)); have y0B := MB.cell (((Mods.refl (S := []) (w := w2)).alloc (.cells (u8s [r]).toArray 5)).cell y02 (by simp)) (fun hm => by have := (HVC.out _ hm).1; simp at this; omega); clear OB MB))
          | (show wpList _ _ _ (⟨none, .store 90 _ _, _, _, _, _⟩ :: _) _ _; go_must (refine wpList_store_row (cs := #[.slice (some ⟨gB, 0, none⟩) (W.length + 1) cB, .int .i64 0]) rfl 90 (.tmp 8) (.tmp 32) rfl HZB.out (by rfl) (by rfl) (by rfl) Try.infoFl (by simp [Value.oneCell']) ?_; intro w9 R9 M9))
          )
        refine bodyPost_ret (results_cell_row2 rfl _ _ (w.heap.size + 2) _ _ _ _ rfl R9 Try.underlying90 rfl Try.infoFl) rfl ?_
        have OR := HOB.out.rd
        have hgB := (HOB.out.lt gB rfl)
        exact ⟨.slice (some ⟨gB, 0, none⟩) (W.length + 1) cB, rfl, by rw [HNX.out]; exact OR.mods M9 (fun _ k hk hm => by simp [Value.ownBlock] at hk hm; omega), (fun q hq => by simp [Value.ownBlock] at hq; omega), HMB.out.comp M9 (fun k hk => by simp at hk; exact .inr (by omega))⟩
    | false =>
      by_cases h2 : n + 1 < 3
      · have hm : min (n + 1) 3 = n + 1 := by omega
        obtain rfl : A = ((W, n + 1), 0) := HA.out.trans (by unfold stepF; simp only [hm]; rw [if_neg (by simp), if_neg (by omega)])
        have e3 : (n + 1 == 3) = false := beq_eq_false_iff_ne.2 (by omega)
        clear HA
        go_wp2_with fail
        refine (refCopy_ok w1 _ W HF1.out.rd (by omega)).mono ?_
        rintro e w2 ⟨vC, rfl, O2, M2⟩
        have HO2 := Lib.hid (show OwnB w2 w1.heap.size vC W from O2)
        obtain ⟨aC, cC, rfl⟩ := HO2.out.rd.len
        rw [u8s_length] at HO2 ⊢
        have HM2 := Lib.hid (HM1.out.trans M2)
        have HZ2 := Lib.hid (M2.heap HZ.out (by simp))
        have y02 := M2.cell y0 (by simp)
        have hw2 := M2.size
        have HVC := Lib.hid (show ∀ k, k ∈ (Value.slice aC W.length cC).ownBlock.toList → w1.heap.size ≤ k ∧ k < w2.heap.size from fun k hk => HO2.out.lt k (by simpa using hk))
        clear O2 M2 HZ HM1 y0 y1 y2 HF1 h3
        go_wp2_with (first
          | (show wpList _ _ _ (⟨none, .store 90 _ _, _, _, _, _⟩ :: _) _ _; go_must (refine wpList_store_row (cs := #[.slice aC W.length cC, .int .i64 (n + 1)]) rfl 90 (.tmp 8) (.tmp 45) rfl HZ2.out (by rfl) (by rfl) (by rfl) Try.infoFl (by simp [Value.oneCell']) ?_; intro w9 R9 M9))
          )
        refine bodyPost_ret (results_cell_row2 rfl _ _ (w.heap.size + 2) _ _ _ _ rfl R9 Try.underlying90 rfl Try.infoFl) rfl ?_
        exact ⟨.slice aC W.length cC, rfl, HO2.out.rd.mods M9 (fun _ k hk hm => by have := HVC.out k (by simpa using hk); simp at hm; omega), (fun q hq => by have := HVC.out q (by simpa using hq); omega), HM2.out.comp M9 (fun k hk => by simp at hk; exact .inr (by omega))⟩
      · have hm : min (n + 1) 3 = 3 := by omega
        obtain rfl : A = (([], 3), 0) := HA.out.trans (by simp [stepF, hm])
        clear HA hm
        rcases (show n = 2 ∨ n = 3 by omega) with rfl | rfl
        all_goals
          go_wp2_with (first
            | (show wpList _ _ _ (⟨none, .store 90 _ _, _, _, _, _⟩ :: _) _ _; go_must (refine wpList_store_row (cs := #[.slice none 0 0, .int .i64 3]) rfl 90 (.tmp 8) (.tmp 40) rfl HZ.out (by rfl) (by rfl) (by rfl) Try.infoFl (by simp [Value.oneCell']) ?_; intro w9 R9 M9))
            )
          refine bodyPost_ret (results_cell_row2 rfl _ _ (w.heap.size + 2) _ _ _ _ rfl R9 Try.underlying90 rfl Try.infoFl) rfl ?_
          exact ⟨.slice none 0 0, rfl, Rd.nil _, (fun q hq => by cases hq), HM1.out.comp M9 (fun k hk => by simp at hk; exact .inr (by omega))⟩
end Go.Proofs.Ytgjjmiaiclhidaa
