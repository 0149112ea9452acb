/- Joined texts. The reference's Decode of sensor records: contract. | The reference's Decode of a sensor record whose head is good: contract. | The reference's Decode of a discrete sensor record: contract. -/
import Derived.Test.YtijjkonephjodaaSenDecP
import Derived.Test.YtijjkonephjodaaRdd
import Derived.Test.YtijjkonephjodaaRestD
import Derived.Test.YtijjkonephjodaaRdx
namespace Go.Proofs.Ytijjkonephjodaa
open Go.RowKit

set_option maxRecDepth 100000 in
set_option maxHeartbeats 4000000 in
theorem refSenDec_err (w : World) (v : Value) (A : List Int) (hv : Rd w v (u8s A)) (hb : Bytes A) (hl : A.length ≤ 100000) (hc : A.length < 9 ∨ sum8 A ≠ 0) :
    Calls Try.prog 24 #[v] w fun e w' => SDecRes w A e w' := by
  have HV := Lib.hid hv
  have HB := Lib.hid hb
  have HL := Lib.hid hl
  have HE := Lib.hid (show ∀ W, errS A ≠ 0 → Mods [] w W → SDecRes w A (.returned (.tuple #[.agg zS.cells, .int .i64 (errS A)])) W from fun W h M => by unfold SDecRes; rw [if_neg h]; exact ⟨rfl, M⟩)
  have HU := Lib.hid (show errS A = if A.length < 9 then 4 else if sum8 A ≠ 0 then 5 else errX A.dropLast from rfl)
  obtain ⟨ad, cap, rfl, h1, h2, -⟩ := hv.u8
  have h3 : cap ≤ 9223372036854775807 := h2
  clear hv hb h2 hl
  have R0 := Lib.hid (heap_alloc_new w (.cells zS.cells 32))
  have M0 := Lib.hid ((Mods.refl (S := []) (w := w)).alloc (.cells zS.cells 32))
  have R1' : ((w.alloc (.cells zS.cells 32)).alloc (.cells zS.cells 32)).heap[w.heap.size + 1]? = some (.cells zS.cells 32 (0, 0)) := by
    have := heap_alloc_new (w.alloc (.cells zS.cells 32)) (.cells zS.cells 32)
    rwa [World.size_alloc] at this
  have RQ := Lib.hid R1'
  clear R1'
  by_cases h9 : A.length < 9
  · have HR := Lib.hid (HU.out.trans (if_pos h9))
    have d1 : decide ((A.length : Int) < 9) = true := decide_eq_true (by omega)
    clear h9 hc
    go_enter Try.func24, Try.ntmps24
    go_wp2_with (first
      | (refine wpList_store_row (cs := zS.cells) rfl 32 (.tmp 4) (.tmp 13) rfl RQ.out (by rfl) (by rfl) rfl (Sen.infoS _) zS_one ?_; intro wq Rq Mq; have RB0 := Lib.hid Rq; have RA0 := Lib.hid (Mq.heap (heap_alloc (o' := .cells zS.cells 32) R0.out) (by simp)); have MQ := Lib.hid ((M0.out.alloc (.cells zS.cells 32)).comp Mq (fun k hk => by simp at hk; exact .inr (by omega))); clear Rq Mq)
      | (refine wpList_load_sen rfl (.tmp 4) rfl (SenBox.mk RB0.out) (by rfl) ?_)
      | (refine wpList_store_row (cs := zS.cells) rfl 32 (.tmp 2) (.tmp 17) rfl RA0.out (by rfl) (by rfl) rfl (Sen.infoS _) zS_one ?_; intro wz Rz Mz))
    have HMX := MQ.out.comp Mz (fun k hk => by simp at hk; exact .inr (by omega))
    refine bodyPost_ret (results_cell_row2 rfl _ _ w.heap.size _ _ _ _ rfl Rz Try.underlying32 rfl (Sen.infoS _)) rfl ?_
    have := HE.out wz (by rw [HR.out]; decide) HMX
    rw [HR.out] at this
    exact this
  · have hs : sum8 A ≠ 0 := by rcases hc with h | h; exact absurd h h9; exact h
    have HR := Lib.hid ((HU.out.trans (if_neg h9)).trans (if_pos hs))
    have HS := Lib.hid hs
    have HN := Lib.hid (show A ≠ [] from fun h => h9 (by rw [h]; decide))
    have d1 : decide ((A.length : Int) < 9) = false := decide_eq_false (by omega)
    clear h9 hc hs
    go_enter Try.func24, Try.ntmps24
    go_wp2_with (refine wpList_store_row (cs := zS.cells) rfl 32 (.tmp 4) (.tmp 13) rfl RQ.out (by rfl) (by rfl) rfl (Sen.infoS _) zS_one ?_; intro wq Rq Mq; have RB0 := Lib.hid Rq; have RA0 := Lib.hid (Mq.heap (heap_alloc (o' := .cells zS.cells 32) R0.out) (by simp)); have MQ := Lib.hid ((M0.out.alloc (.cells zS.cells 32)).comp Mq (fun k hk => by simp at hk; exact .inr (by omega))); clear Rq Mq)
    have hwq := lt_of_block RB0.out
    refine (refOpen8_ok _ _ A (HV.out.mods0 MQ.out) HB.out HL.out).mono ?_
    rintro e w1 hx
    unfold OpenRes at hx
    rw [if_neg HN.out, if_neg HS.out] at hx
    obtain ⟨rfl, M1⟩ := hx
    have RA1 := Lib.hid (M1.heap RA0.out (by simp))
    have RB1 := Lib.hid (M1.heap RB0.out (by simp))
    have HM1 := Lib.hid (MQ.out.trans M1)
    clear M1
    go_wp2_with (first
      | (refine wpList_load_sen rfl (.tmp 4) rfl (SenBox.mk RB1.out) (by rfl) ?_)
      | (refine wpList_store_row (cs := zS.cells) rfl 32 (.tmp 2) (.tmp 25) rfl RA1.out (by rfl) (by rfl) rfl (Sen.infoS _) zS_one ?_; intro wz Rz Mz))
    have HMX := HM1.out.comp Mz (fun k hk => by simp at hk; exact .inr (by omega))
    refine bodyPost_ret (results_cell_row2 rfl _ _ w.heap.size _ _ _ _ rfl Rz Try.underlying32 rfl (Sen.infoS _)) rfl ?_
    have := HE.out wz (by rw [HR.out]; decide) HMX
    rw [HR.out] at this
    exact this
set_option maxRecDepth 100000 in
set_option maxHeartbeats 4000000 in
theorem refSenDec_form (w : World) (v : Value) (A : List Int) (hv : Rd w v (u8s A)) (hb : Bytes A) (hl : A.length ≤ 100000) (h9 : ¬ A.length < 9) (hs : sum8 A = 0) (hc : A.dropLast.getD 0 0 ≠ 1 ∨ 32 ≤ A.dropLast.getD 6 0) :
    Calls Try.prog 24 #[v] w fun e w' => SDecRes w A e w' := by
  have HV := Lib.hid hv
  have HB := Lib.hid hb
  have HL := Lib.hid hl
  have HE := Lib.hid (show ∀ W, errS A ≠ 0 → Mods [] w W → SDecRes w A (.returned (.tuple #[.agg zS.cells, .int .i64 (errS A)])) W from fun W h M => by unfold SDecRes; rw [if_neg h]; exact ⟨rfl, M⟩)
  have HU := Lib.hid (show errS A = if A.length < 9 then 4 else if sum8 A ≠ 0 then 5 else errX A.dropLast from rfl)
  obtain ⟨ad, cap, rfl, h1, h2, -⟩ := hv.u8
  have h3 : cap ≤ 9223372036854775807 := h2
  clear hv hb h2 hl
  have R0 := Lib.hid (heap_alloc_new w (.cells zS.cells 32))
  have M0 := Lib.hid ((Mods.refl (S := []) (w := w)).alloc (.cells zS.cells 32))
  have R1' : ((w.alloc (.cells zS.cells 32)).alloc (.cells zS.cells 32)).heap[w.heap.size + 1]? = some (.cells zS.cells 32 (0, 0)) := by
    have := heap_alloc_new (w.alloc (.cells zS.cells 32)) (.cells zS.cells 32)
    rwa [World.size_alloc] at this
  have RQ := Lib.hid R1'
  clear R1'
  have HF := Lib.hid hc
  clear hc
  -- hs : sum8 A = 0, h9 : ¬ A.length < 9
  have HRX := Lib.hid (show errS A = errX A.dropLast from (HU.out.trans (if_neg h9)).trans (if_neg (fun h => h hs)))
  have HS := Lib.hid hs
  have HN := Lib.hid (show A ≠ [] from fun h => h9 (by rw [h]; decide))
  have d1 : decide ((A.length : Int) < 9) = false := decide_eq_false (by omega)
  have hXl : A.dropLast.length = A.length - 1 := List.length_dropLast
  have hXb : Bytes A.dropLast := by rw [List.dropLast_eq_take]; exact HB.out.take _
  have hSD : ∀ e W, SDecRes w A e W = SDecRes w A e W := fun _ _ => rfl
  clear hSD
  have HSU : Hid (∀ e W, errX A.dropLast = 0 → (∃ pv, e = .returned (.tuple #[.agg (senX A.dropLast pv).cells, .int .i64 0]) ∧ OwnPts W w.heap.size pv (ptsX A.dropLast) ∧ Mods [] w W) → SDecRes w A e W) := Lib.hid (fun e W h0 h => by unfold SDecRes; rw [HRX.out, if_pos h0]; exact h)
  have HSE : Hid (∀ W, errX A.dropLast ≠ 0 → Mods [] w W → SDecRes w A (.returned (.tuple #[.agg zS.cells, .int .i64 (errX A.dropLast)])) W) := Lib.hid (fun W h M => by have := HE.out W (by rw [HRX.out]; exact h) M; rw [HRX.out] at this; exact this)
  have hX8 : 8 ≤ A.dropLast.length := by omega
  have hXc : A.dropLast.length ≤ 100000 := by have := HL.out; omega
  have HOP : Hid (∀ W, Mods [] w W → Calls Try.prog 59 #[.slice ad A.length cap] W (fun e w' => ∃ g c, e = .returned (.tuple #[.slice (some ⟨g, 0, none⟩) A.dropLast.length c, .int .i64 0]) ∧ OwnB w' W.heap.size (.slice (some ⟨g, 0, none⟩) A.dropLast.length c) A.dropLast ∧ Mods [] W w')) := Lib.hid (fun W M => by
    refine (refOpen8_ok _ _ A (HV.out.mods0 M) HB.out HL.out).mono ?_
    rintro e w1 hx
    unfold OpenRes at hx
    rw [if_neg HN.out, if_pos HS.out] at hx
    obtain ⟨v', rfl, O, M1⟩ := hx
    obtain ⟨g, c, cur, hv', _⟩ := owns_form O (by rw [u8s_length]; omega)
    rw [u8s_length] at hv'
    subst hv'
    exact ⟨g, c, rfl, O, M1⟩)
  clear hs h9 hXl HRX HS HN HV HE HU HL HB
  generalize A.dropLast = X at *
  go_enter Try.func24, Try.ntmps24
  go_wp2_with (refine wpList_store_row (cs := zS.cells) rfl 32 (.tmp 4) (.tmp 13) rfl RQ.out (by rfl) (by rfl) rfl (Sen.infoS _) zS_one ?_; intro wq Rq Mq; have RB0 := Lib.hid Rq; have RA0 := Lib.hid (Mq.heap (heap_alloc (o' := .cells zS.cells 32) R0.out) (by simp)); have MQ := Lib.hid ((M0.out.alloc (.cells zS.cells 32)).comp Mq (fun k hk => by simp at hk; exact .inr (by omega))); clear Rq Mq)
  have hwq := lt_of_block RB0.out
  refine (HOP.out _ MQ.out).mono ?_
  rintro e w1 ⟨g, c, rfl, O1, M1⟩
  have hg0 : w.heap.size + 2 ≤ g := by have hgl := (O1.lt g rfl).1; omega
  have HM1 := Lib.hid (MQ.out.trans M1)
  have RA1 := Lib.hid (M1.heap RA0.out (by simp))
  have HO1 := Lib.hid O1
  (have RB1 := Lib.hid (M1.heap RB0.out (by simp)))
  have HCB : Hid (∀ W, Mods [] w1 W → ∀ i, i < X.length → W.cell? ⟨g, i, none⟩ = some (.int .u8 (b8 X i : Nat))) := Lib.hid (fun W M i hi => by
    obtain ⟨_, _, he, _, _, hc⟩ := O1.rd.u8
    injection he with he1 _ _
    obtain ⟨b, o, h, hx⟩ := hc i hi
    rw [← he1] at h
    cases h
    rw [Nat.zero_add, u8_getD hXb] at hx
    exact M.cell hx (by simp))
  have hc1 : X.length ≤ c ∧ c ≤ 9223372036854775807 := by
    obtain ⟨_, _, he, h1, h2, hc⟩ := O1.rd.u8
    injection he with _ _ he3
    subst he3
    exact ⟨h1, h2⟩
  obtain ⟨hc1, hc2⟩ := hc1
  have HXB := Lib.hid hXb
  clear O1 M1 MQ RA0 HOP hXb
  have i0 : (0 : Int) < (X.length : Int) := by omega
  have i1 : (1 : Int) < (X.length : Int) := by omega
  have i2 : (2 : Int) < (X.length : Int) := by omega
  have i3 : (3 : Int) < (X.length : Int) := by omega
  have i4 : (4 : Int) < (X.length : Int) := by omega
  have i5 : (5 : Int) < (X.length : Int) := by omega
  have i6 : (6 : Int) < (X.length : Int) := by omega
  have i7 : (7 : Int) < (X.length : Int) := by omega
  have x0 := HCB.out w1 Mods.refl 0 (by omega)
  have x6 := HCB.out w1 Mods.refl 6 (by omega)
  have x7 := HCB.out w1 Mods.refl 7 (by omega)
  have HX0 := Lib.hid (u8_getD HXB.out 0)
  have HX6 := Lib.hid (u8_getD HXB.out 6)
  have b7 := b8_lt HXB.out 7
  have b6 := b8_lt HXB.out 6
  clear RB0
  have hc := HF.out
  rw [HX0.out, HX6.out] at hc
  have HR := Lib.hid (show errX X = 6 by unfold errX; rw [HX0.out, HX6.out, if_pos hc])
  by_cases hf0 : (b8 X 0 : Int) = 1
  · have hf6 : (32 : Int) ≤ (b8 X 6 : Int) := by omega
    have q0 : ((b8 X 0 : Int) != 1) = false := by simpa using hf0
    have q6 : decide ((b8 X 6 : Int) ≥ 32) = true := decide_eq_true hf6
    clear hf0 HF hc
    go_wp2_with (first
      | (refine wpList_load_sen rfl (.tmp 4) rfl (SenBox.mk RB1.out) (by rfl) ?_)
      | (refine wpList_store_row (cs := zS.cells) rfl 32 (.tmp 2) (.tmp 37) rfl RA1.out (by rfl) (by rfl) rfl (Sen.infoS _) zS_one ?_; intro wz Rz Mz))
    have HMX := HM1.out.comp Mz (fun k hk => by simp at hk; exact .inr (by omega))
    refine bodyPost_ret (results_cell_row2 rfl _ _ w.heap.size _ _ _ _ rfl Rz Try.underlying32 rfl (Sen.infoS _)) rfl ?_
    have := HSE.out wz (by rw [HR.out]; decide) HMX
    rw [HR.out] at this
    exact this
  · have q0 : ((b8 X 0 : Int) != 1) = true := by simpa using hf0
    clear hf0 HF hc
    go_wp2_with (first
      | (refine wpList_load_sen rfl (.tmp 4) rfl (SenBox.mk RB1.out) (by rfl) ?_)
      | (refine wpList_store_row (cs := zS.cells) rfl 32 (.tmp 2) (.tmp 37) rfl RA1.out (by rfl) (by rfl) rfl (Sen.infoS _) zS_one ?_; intro wz Rz Mz))
    have HMX := HM1.out.comp Mz (fun k hk => by simp at hk; exact .inr (by omega))
    refine bodyPost_ret (results_cell_row2 rfl _ _ w.heap.size _ _ _ _ rfl Rz Try.underlying32 rfl (Sen.infoS _)) rfl ?_
    have := HSE.out wz (by rw [HR.out]; decide) HMX
    rw [HR.out] at this
    exact this
end Go.Proofs.Ytijjkonephjodaa

namespace Go.Proofs.Ytijjkonephjodaa
open Go.RowKit
set_option linter.unusedVariables false

set_option maxRecDepth 100000 in
set_option maxHeartbeats 8000000 in
theorem refSenDec_dshort (w : World) (v : Value) (A : List Int) (hv : Rd w v (u8s A)) (hb : Bytes A) (hl : A.length ≤ 100000) (h9 : ¬ A.length < 9) (hs : sum8 A = 0) (hc : A.dropLast.getD 0 0 = 1 ∧ A.dropLast.getD 6 0 < 32 ∧ 8 + b8 A.dropLast 7 ≤ A.dropLast.length) (hd : dsX A.dropLast = true) (h2 : A.dropLast.length < 8 + b8 A.dropLast 7 + 2) :
    Calls Try.prog 24 #[v] w fun e w' => SDecRes w A e w' := by
  have HV := Lib.hid hv
  have HB := Lib.hid hb
  have HL := Lib.hid hl
  have HE := Lib.hid (show ∀ W, errS A ≠ 0 → Mods [] w W → SDecRes w A (.returned (.tuple #[.agg zS.cells, .int .i64 (errS A)])) W from fun W h M => by unfold SDecRes; rw [if_neg h]; exact ⟨rfl, M⟩)
  have HU := Lib.hid (show errS A = if A.length < 9 then 4 else if sum8 A ≠ 0 then 5 else errX A.dropLast from rfl)
  obtain ⟨ad, cap, rfl, h1, h2, -⟩ := hv.u8
  have h3 : cap ≤ 9223372036854775807 := h2
  clear hv hb h2 hl
  have R0 := Lib.hid (heap_alloc_new w (.cells zS.cells 32))
  have M0 := Lib.hid ((Mods.refl (S := []) (w := w)).alloc (.cells zS.cells 32))
  have R1' : ((w.alloc (.cells zS.cells 32)).alloc (.cells zS.cells 32)).heap[w.heap.size + 1]? = some (.cells zS.cells 32 (0, 0)) := by
    have := heap_alloc_new (w.alloc (.cells zS.cells 32)) (.cells zS.cells 32)
    rwa [World.size_alloc] at this
  have RQ := Lib.hid R1'
  clear R1'
  have HD := Lib.hid hd
  have H2 := Lib.hid h2
  clear hd h2
  -- hc : the head is good; up to region 9, the sensor made in block gs
  have HF := Lib.hid hc
  clear hc
  -- hs : sum8 A = 0, h9 : ¬ A.length < 9
  have HRX := Lib.hid (show errS A = errX A.dropLast from (HU.out.trans (if_neg h9)).trans (if_neg (fun h => h hs)))
  have HS := Lib.hid hs
  have HN := Lib.hid (show A ≠ [] from fun h => h9 (by rw [h]; decide))
  have d1 : decide ((A.length : Int) < 9) = false := decide_eq_false (by omega)
  have hXl : A.dropLast.length = A.length - 1 := List.length_dropLast
  have hXb : Bytes A.dropLast := by rw [List.dropLast_eq_take]; exact HB.out.take _
  have hSD : ∀ e W, SDecRes w A e W = SDecRes w A e W := fun _ _ => rfl
  clear hSD
  have HSU : Hid (∀ e W, errX A.dropLast = 0 → (∃ pv, e = .returned (.tuple #[.agg (senX A.dropLast pv).cells, .int .i64 0]) ∧ OwnPts W w.heap.size pv (ptsX A.dropLast) ∧ Mods [] w W) → SDecRes w A e W) := Lib.hid (fun e W h0 h => by unfold SDecRes; rw [HRX.out, if_pos h0]; exact h)
  have HSE : Hid (∀ W, errX A.dropLast ≠ 0 → Mods [] w W → SDecRes w A (.returned (.tuple #[.agg zS.cells, .int .i64 (errX A.dropLast)])) W) := Lib.hid (fun W h M => by have := HE.out W (by rw [HRX.out]; exact h) M; rw [HRX.out] at this; exact this)
  have hX8 : 8 ≤ A.dropLast.length := by omega
  have hXc : A.dropLast.length ≤ 100000 := by have := HL.out; omega
  have HOP : Hid (∀ W, Mods [] w W → Calls Try.prog 59 #[.slice ad A.length cap] W (fun e w' => ∃ g c, e = .returned (.tuple #[.slice (some ⟨g, 0, none⟩) A.dropLast.length c, .int .i64 0]) ∧ OwnB w' W.heap.size (.slice (some ⟨g, 0, none⟩) A.dropLast.length c) A.dropLast ∧ Mods [] W w')) := Lib.hid (fun W M => by
    refine (refOpen8_ok _ _ A (HV.out.mods0 M) HB.out HL.out).mono ?_
    rintro e w1 hx
    unfold OpenRes at hx
    rw [if_neg HN.out, if_pos HS.out] at hx
    obtain ⟨v', rfl, O, M1⟩ := hx
    obtain ⟨g, c, cur, hv', _⟩ := owns_form O (by rw [u8s_length]; omega)
    rw [u8s_length] at hv'
    subst hv'
    exact ⟨g, c, rfl, O, M1⟩)
  clear hs h9 hXl HRX HS HN HV HE HU HL HB
  generalize A.dropLast = X at *
  go_enter Try.func24, Try.ntmps24
  go_wp2_with (refine wpList_store_row (cs := zS.cells) rfl 32 (.tmp 4) (.tmp 13) rfl RQ.out (by rfl) (by rfl) rfl (Sen.infoS _) zS_one ?_; intro wq Rq Mq; have RB0 := Lib.hid Rq; have RA0 := Lib.hid (Mq.heap (heap_alloc (o' := .cells zS.cells 32) R0.out) (by simp)); have MQ := Lib.hid ((M0.out.alloc (.cells zS.cells 32)).comp Mq (fun k hk => by simp at hk; exact .inr (by omega))); clear Rq Mq)
  have hwq := lt_of_block RB0.out
  refine (HOP.out _ MQ.out).mono ?_
  rintro e w1 ⟨g, c, rfl, O1, M1⟩
  have hg0 : w.heap.size + 2 ≤ g := by have hgl := (O1.lt g rfl).1; omega
  have HM1 := Lib.hid (MQ.out.trans M1)
  have RA1 := Lib.hid (M1.heap RA0.out (by simp))
  have HO1 := Lib.hid O1
  (have RB1 := Lib.hid (M1.heap RB0.out (by simp)))
  have HCB : Hid (∀ W, Mods [] w1 W → ∀ i, i < X.length → W.cell? ⟨g, i, none⟩ = some (.int .u8 (b8 X i : Nat))) := Lib.hid (fun W M i hi => by
    obtain ⟨_, _, he, _, _, hc⟩ := O1.rd.u8
    injection he with he1 _ _
    obtain ⟨b, o, h, hx⟩ := hc i hi
    rw [← he1] at h
    cases h
    rw [Nat.zero_add, u8_getD hXb] at hx
    exact M.cell hx (by simp))
  have hc1 : X.length ≤ c ∧ c ≤ 9223372036854775807 := by
    obtain ⟨_, _, he, h1, h2, hc⟩ := O1.rd.u8
    injection he with _ _ he3
    subst he3
    exact ⟨h1, h2⟩
  obtain ⟨hc1, hc2⟩ := hc1
  have HXB := Lib.hid hXb
  clear O1 M1 MQ RA0 HOP hXb
  have i0 : (0 : Int) < (X.length : Int) := by omega
  have i1 : (1 : Int) < (X.length : Int) := by omega
  have i2 : (2 : Int) < (X.length : Int) := by omega
  have i3 : (3 : Int) < (X.length : Int) := by omega
  have i4 : (4 : Int) < (X.length : Int) := by omega
  have i5 : (5 : Int) < (X.length : Int) := by omega
  have i6 : (6 : Int) < (X.length : Int) := by omega
  have i7 : (7 : Int) < (X.length : Int) := by omega
  have x0 := HCB.out w1 Mods.refl 0 (by omega)
  have x6 := HCB.out w1 Mods.refl 6 (by omega)
  have x7 := HCB.out w1 Mods.refl 7 (by omega)
  have HX0 := Lib.hid (u8_getD HXB.out 0)
  have HX6 := Lib.hid (u8_getD HXB.out 6)
  have b7 := b8_lt HXB.out 7
  have b6 := b8_lt HXB.out 6
  clear RB0
  obtain ⟨f0, f6, f7⟩ := HF.out
  have HXX := Lib.hid (show errX X = if restErr (dsX X) (rsX X) ≠ 0 then restErr (dsX X) (rsX X) else if validB (senX X (.slice none 0 0)) (ptsX X) then 0 else 1 by unfold errX; rw [if_neg (by omega), if_neg (by omega)])
  rw [HX0.out] at f0
  rw [HX6.out] at f6
  have q0 : ((b8 X 0 : Int) != 1) = false := by simpa using f0
  have q6 : decide ((b8 X 6 : Int) ≥ 32) = false := decide_eq_false (by omega)
  clear f0 HF HX0
  go_wp2_with fail
  try dsimp only [Act.put]
  have hA1 : ((b8 X 6 : Int) % 2 == 1) = decide ((b8 X 6 : Int) % 2 = 1) := by rw [Bool.eq_iff_iff]; simp
  have hA2 : ((b8 X 6 : Int) / 2 % 2 == 1) = decide ((b8 X 6 : Int) / 2 % 2 = 1) := by rw [Bool.eq_iff_iff]; simp
  have ew6 : IntKind.i64.wrap (b8 X 6 : Int) = (b8 X 6 : Int) := IntWalk.i64_in _ (by omega)
  have eu2 : IntKind.u8.wrap ((b8 X 6 : Int) / 2) = (b8 X 6 : Int) / 2 := by rw [IntKind.wrap_u8]; omega
  have hT1 : ((b8 X 6 : Int)).tmod 2 = (b8 X 6 : Int) % 2 := Int.tmod_eq_emod_of_nonneg (by omega)
  have hT2 : ((b8 X 6 : Int) / 2).tmod 2 = (b8 X 6 : Int) / 2 % 2 := Int.tmod_eq_emod_of_nonneg (by omega)
  have hW4 : IntKind.i64.wrap ((b8 X 6 : Int) / 4) = (b8 X 6 : Int) / 4 := IntWalk.i64_in _ (by omega)
  clear q0 q6 x0 x6 x7
  have eHD : Hid (hdrS X ⟨#[]⟩ = ⟨b8 X 1, b8 X 2, b8 X 3, ⟨#[]⟩, b8 X 4, b8 X 5, decide ((b8 X 6 : Int) % 2 = 1), zC, 0, 0, 0, 0, 0, 0, 0, 0, 0, 0, 0, 0, decide ((b8 X 6 : Int) / 2 % 2 = 1), (b8 X 6 : Int) / 4⟩) := Lib.hid (by unfold hdrS; rw [HX6.out])
  refine heldStart (S := fun W => Mods [] w1 W) 35 rfl (by kernel_rfl) (Mods.refl.drew) (fun hHeld => ?_)
  refine takeD (i := 0) (d := 38) (v := ?_) rfl rfl (by kernel_rfl) (by kernel_rfl) (by kernel_rfl) (fun _ _ _ h => h) (Or.inl ⟨by rfl, ?_⟩) hHeld ?_
  rotate_left 1
  · (intro w hSw; (try dsimp only at hSw); go_simp; (try with_reducible rfl))
  simp only [List.setIfInBounds_toArray, List.set_cons_zero, List.set_cons_succ]
  refine takeD (i := 1) (d := 39) (v := ?_) rfl rfl (by kernel_rfl) (by kernel_rfl) (by kernel_rfl) (fun _ _ _ h => h) (Or.inl ⟨by rfl, ?_⟩) hHeld ?_
  rotate_left 1
  · (intro w hSw; (try dsimp only at hSw); go_simp; (try with_reducible rfl))
  simp only [List.setIfInBounds_toArray, List.set_cons_zero, List.set_cons_succ]
  refine takeD (i := 2) (d := 40) (v := .int .u8 (b8 X 1 : Nat)) rfl rfl (by kernel_rfl) (by kernel_rfl) (by kernel_rfl) (fun _ _ _ h => h) (Or.inl ⟨by rfl, fun w hSw => ?_⟩) hHeld ?_
  · have cst := HCB.out w hSw 1 (by omega)
    go_simp
  simp only [List.setIfInBounds_toArray, List.set_cons_zero, List.set_cons_succ]
  refine takeD (i := 3) (d := 41) (v := ?_) rfl rfl (by kernel_rfl) (by kernel_rfl) (by kernel_rfl) (fun _ _ _ h => h) (Or.inl ⟨by rfl, ?_⟩) hHeld ?_
  rotate_left 1
  · (intro w hSw; (try dsimp only at hSw); go_simp; (try with_reducible rfl))
  simp only [List.setIfInBounds_toArray, List.set_cons_zero, List.set_cons_succ]
  refine takeD (i := 4) (d := 42) (v := ?_) rfl rfl (by kernel_rfl) (by kernel_rfl) (by kernel_rfl) (fun _ _ _ h => h) (Or.inl ⟨by rfl, ?_⟩) hHeld ?_
  rotate_left 1
  · (intro w hSw; (try dsimp only at hSw); go_simp; (try with_reducible rfl))
  simp only [List.setIfInBounds_toArray, List.set_cons_zero, List.set_cons_succ]
  refine takeD (i := 5) (d := 43) (v := .int .u8 (b8 X 2 : Nat)) rfl rfl (by kernel_rfl) (by kernel_rfl) (by kernel_rfl) (fun _ _ _ h => h) (Or.inl ⟨by rfl, fun w hSw => ?_⟩) hHeld ?_
  · have cst := HCB.out w hSw 2 (by omega)
    go_simp
  simp only [List.setIfInBounds_toArray, List.set_cons_zero, List.set_cons_succ]
  refine takeD (i := 6) (d := 44) (v := ?_) rfl rfl (by kernel_rfl) (by kernel_rfl) (by kernel_rfl) (fun _ _ _ h => h) (Or.inl ⟨by rfl, ?_⟩) hHeld ?_
  rotate_left 1
  · (intro w hSw; (try dsimp only at hSw); go_simp; (try with_reducible rfl))
  simp only [List.setIfInBounds_toArray, List.set_cons_zero, List.set_cons_succ]
  refine takeD (i := 7) (d := 45) (v := ?_) rfl rfl (by kernel_rfl) (by kernel_rfl) (by kernel_rfl) (fun _ _ _ h => h) (Or.inl ⟨by rfl, ?_⟩) hHeld ?_
  rotate_left 1
  · (intro w hSw; (try dsimp only at hSw); go_simp; (try with_reducible rfl))
  simp only [List.setIfInBounds_toArray, List.set_cons_zero, List.set_cons_succ]
  refine takeD (i := 8) (d := 46) (v := .int .u8 (b8 X 3 : Nat)) rfl rfl (by kernel_rfl) (by kernel_rfl) (by kernel_rfl) (fun _ _ _ h => h) (Or.inl ⟨by rfl, fun w hSw => ?_⟩) hHeld ?_
  · have cst := HCB.out w hSw 3 (by omega)
    go_simp
  simp only [List.setIfInBounds_toArray, List.set_cons_zero, List.set_cons_succ]
  refine takeD (i := 9) (d := 47) (v := ?_) rfl rfl (by kernel_rfl) (by kernel_rfl) (by kernel_rfl) (fun _ _ _ h => h) (Or.inl ⟨by rfl, ?_⟩) hHeld ?_
  rotate_left 1
  · (intro w hSw; (try dsimp only at hSw); go_simp; (try with_reducible rfl))
  simp only [List.setIfInBounds_toArray, List.set_cons_zero, List.set_cons_succ]
  refine takeD (i := 10) (d := 48) (v := ?_) rfl rfl (by kernel_rfl) (by kernel_rfl) (by kernel_rfl) (fun _ _ _ h => h) (Or.inl ⟨by rfl, ?_⟩) hHeld ?_
  rotate_left 1
  · (intro w hSw; (try dsimp only at hSw); go_simp; (try with_reducible rfl))
  simp only [List.setIfInBounds_toArray, List.set_cons_zero, List.set_cons_succ]
  refine takeD (i := 11) (d := 49) (v := .int .u8 (b8 X 4 : Nat)) rfl rfl (by kernel_rfl) (by kernel_rfl) (by kernel_rfl) (fun _ _ _ h => h) (Or.inl ⟨by rfl, fun w hSw => ?_⟩) hHeld ?_
  · have cst := HCB.out w hSw 4 (by omega)
    go_simp
  simp only [List.setIfInBounds_toArray, List.set_cons_zero, List.set_cons_succ]
  refine takeD (i := 12) (d := 50) (v := ?_) rfl rfl (by kernel_rfl) (by kernel_rfl) (by kernel_rfl) (fun _ _ _ h => h) (Or.inl ⟨by rfl, ?_⟩) hHeld ?_
  rotate_left 1
  · (intro w hSw; (try dsimp only at hSw); go_simp; (try with_reducible rfl))
  simp only [List.setIfInBounds_toArray, List.set_cons_zero, List.set_cons_succ]
  refine takeD (i := 13) (d := 51) (v := ?_) rfl rfl (by kernel_rfl) (by kernel_rfl) (by kernel_rfl) (fun _ _ _ h => h) (Or.inl ⟨by rfl, ?_⟩) hHeld ?_
  rotate_left 1
  · (intro w hSw; (try dsimp only at hSw); go_simp; (try with_reducible rfl))
  simp only [List.setIfInBounds_toArray, List.set_cons_zero, List.set_cons_succ]
  refine takeD (i := 14) (d := 52) (v := .int .u8 (b8 X 5 : Nat)) rfl rfl (by kernel_rfl) (by kernel_rfl) (by kernel_rfl) (fun _ _ _ h => h) (Or.inl ⟨by rfl, fun w hSw => ?_⟩) hHeld ?_
  · have cst := HCB.out w hSw 5 (by omega)
    go_simp
  simp only [List.setIfInBounds_toArray, List.set_cons_zero, List.set_cons_succ]
  refine takeD (i := 15) (d := 53) (v := ?_) rfl rfl (by kernel_rfl) (by kernel_rfl) (by kernel_rfl) (fun _ _ _ h => h) (Or.inl ⟨by rfl, ?_⟩) hHeld ?_
  rotate_left 1
  · (intro w hSw; (try dsimp only at hSw); go_simp; (try with_reducible rfl))
  simp only [List.setIfInBounds_toArray, List.set_cons_zero, List.set_cons_succ]
  refine takeD (i := 16) (d := 54) (v := ?_) rfl rfl (by kernel_rfl) (by kernel_rfl) (by kernel_rfl) (fun _ _ _ h => h) (Or.inl ⟨by rfl, ?_⟩) hHeld ?_
  rotate_left 1
  · (intro w hSw; (try dsimp only at hSw); go_simp; (try with_reducible rfl))
  simp only [List.setIfInBounds_toArray, List.set_cons_zero, List.set_cons_succ]
  refine takeD (i := 17) (d := 55) (v := ?_) rfl rfl (by kernel_rfl) (by kernel_rfl) (by kernel_rfl) (fun _ _ _ h => h) (Or.inl ⟨by rfl, ?_⟩) hHeld ?_
  rotate_left 1
  · (intro w hSw; (try dsimp only at hSw); go_simp; (try with_reducible rfl))
  simp only [List.setIfInBounds_toArray, List.set_cons_zero, List.set_cons_succ]
  refine takeD (i := 18) (d := 56) (v := .int .u8 (b8 X 6 : Nat)) rfl rfl (by kernel_rfl) (by kernel_rfl) (by kernel_rfl) (fun _ _ _ h => h) (Or.inl ⟨by rfl, fun w hSw => ?_⟩) hHeld ?_
  · have cst := HCB.out w hSw 6 (by omega)
    go_simp
  simp only [List.setIfInBounds_toArray, List.set_cons_zero, List.set_cons_succ]
  refine takeD (i := 19) (d := 57) (v := ?_) rfl rfl (by kernel_rfl) (by kernel_rfl) (by kernel_rfl) (fun _ _ _ h => h) (Or.inl ⟨by rfl, ?_⟩) hHeld ?_
  rotate_left 1
  · (intro w hSw; (try dsimp only at hSw); go_simp; (try with_reducible rfl))
  simp only [List.setIfInBounds_toArray, List.set_cons_zero, List.set_cons_succ]
  refine takeD (i := 20) (d := 58) (v := ?_) rfl rfl (by kernel_rfl) (by kernel_rfl) (by kernel_rfl) (fun _ _ _ h => h) (Or.inl ⟨by rfl, ?_⟩) hHeld ?_
  rotate_left 1
  · (intro w hSw; (try dsimp only at hSw); go_simp; (try with_reducible rfl))
  simp only [List.setIfInBounds_toArray, List.set_cons_zero, List.set_cons_succ]
  refine takeD (i := 21) (d := 59) (v := ?_) rfl rfl (by kernel_rfl) (by kernel_rfl) (by kernel_rfl) (fun _ _ _ h => h) (Or.inl ⟨by rfl, ?_⟩) hHeld ?_
  rotate_left 1
  · (intro w hSw; (try dsimp only at hSw); go_simp; (try with_reducible rfl))
  simp only [List.setIfInBounds_toArray, List.set_cons_zero, List.set_cons_succ]
  refine takeD (i := 22) (d := 60) (v := ?_) rfl rfl (by kernel_rfl) (by kernel_rfl) (by kernel_rfl) (fun _ _ _ h => h) (Or.inl ⟨by rfl, ?_⟩) hHeld ?_
  rotate_left 1
  · (intro w hSw; (try dsimp only at hSw); go_simp; (try with_reducible rfl))
  simp only [List.setIfInBounds_toArray, List.set_cons_zero, List.set_cons_succ]
  refine takeD (i := 23) (d := 61) (v := .int .u8 (b8 X 6 : Nat)) rfl rfl (by kernel_rfl) (by kernel_rfl) (by kernel_rfl) (fun _ _ _ h => h) (Or.inl ⟨by rfl, fun w hSw => ?_⟩) hHeld ?_
  · have cst := HCB.out w hSw 6 (by omega)
    go_simp
  simp only [List.setIfInBounds_toArray, List.set_cons_zero, List.set_cons_succ]
  refine takeD (i := 24) (d := 62) (v := ?_) rfl rfl (by kernel_rfl) (by kernel_rfl) (by kernel_rfl) (fun _ _ _ h => h) (Or.inl ⟨by rfl, ?_⟩) hHeld ?_
  rotate_left 1
  · (intro w hSw; (try dsimp only at hSw); go_simp; (try with_reducible rfl))
  simp only [List.setIfInBounds_toArray, List.set_cons_zero, List.set_cons_succ]
  refine takeD (i := 25) (d := 63) (v := ?_) rfl rfl (by kernel_rfl) (by kernel_rfl) (by kernel_rfl) (fun _ _ _ h => h) (Or.inl ⟨by rfl, ?_⟩) hHeld ?_
  rotate_left 1
  · (intro w hSw; (try dsimp only at hSw); go_simp; (try with_reducible rfl))
  simp only [List.setIfInBounds_toArray, List.set_cons_zero, List.set_cons_succ]
  refine takeD (i := 26) (d := 64) (v := ?_) rfl rfl (by kernel_rfl) (by kernel_rfl) (by kernel_rfl) (fun _ _ _ h => h) (Or.inl ⟨by rfl, ?_⟩) hHeld ?_
  rotate_left 1
  · (intro w hSw; (try dsimp only at hSw); go_simp; (try with_reducible rfl))
  simp only [List.setIfInBounds_toArray, List.set_cons_zero, List.set_cons_succ]
  refine takeD (i := 27) (d := 65) (v := ?_) rfl rfl (by kernel_rfl) (by kernel_rfl) (by kernel_rfl) (fun _ _ _ h => h) (Or.inl ⟨by rfl, ?_⟩) hHeld ?_
  rotate_left 1
  · (intro w hSw; (try dsimp only at hSw); go_simp; (try with_reducible rfl))
  simp only [List.setIfInBounds_toArray, List.set_cons_zero, List.set_cons_succ]
  refine takeD (i := 28) (d := 66) (v := ?_) rfl rfl (by kernel_rfl) (by kernel_rfl) (by kernel_rfl) (fun _ _ _ h => h) (Or.inl ⟨by rfl, ?_⟩) hHeld ?_
  rotate_left 1
  · (intro w hSw; (try dsimp only at hSw); go_simp; (try with_reducible rfl))
  simp only [List.setIfInBounds_toArray, List.set_cons_zero, List.set_cons_succ]
  refine takeD (i := 29) (d := 67) (v := .int .u8 (b8 X 6 : Nat)) rfl rfl (by kernel_rfl) (by kernel_rfl) (by kernel_rfl) (fun _ _ _ h => h) (Or.inl ⟨by rfl, fun w hSw => ?_⟩) hHeld ?_
  · have cst := HCB.out w hSw 6 (by omega)
    go_simp
  simp only [List.setIfInBounds_toArray, List.set_cons_zero, List.set_cons_succ]
  refine takeD (i := 30) (d := 68) (v := ?_) rfl rfl (by kernel_rfl) (by kernel_rfl) (by kernel_rfl) (fun _ _ _ h => h) (Or.inl ⟨by rfl, ?_⟩) hHeld ?_
  rotate_left 1
  · (intro w hSw; (try dsimp only at hSw); go_simp; (try with_reducible rfl))
  simp only [List.setIfInBounds_toArray, List.set_cons_zero, List.set_cons_succ]
  refine takeD (i := 31) (d := 69) (v := ?_) rfl rfl (by kernel_rfl) (by kernel_rfl) (by kernel_rfl) (fun _ _ _ h => h) (Or.inl ⟨by rfl, ?_⟩) hHeld ?_
  rotate_left 1
  · (intro w hSw; (try dsimp only at hSw); go_simp; (try with_reducible rfl))
  simp only [List.setIfInBounds_toArray, List.set_cons_zero, List.set_cons_succ]
  refine takeD (i := 32) (d := 70) (v := ?_) rfl rfl (by kernel_rfl) (by kernel_rfl) (by kernel_rfl) (fun _ _ _ h => h) (Or.inl ⟨by rfl, ?_⟩) hHeld ?_
  rotate_left 1
  · (intro w hSw; (try dsimp only at hSw); go_simp; (try with_reducible rfl))
  simp only [List.setIfInBounds_toArray, List.set_cons_zero, List.set_cons_succ]
  refine wpAnyH_ready (rs := [33]) (by kernel_rfl) (by simp) ?_
  refine AllReadyH.cons rfl (fun K hK => ?_) AllReadyH.nil
  go_simp
  refine hK.out _ _ ?_ (fun hHeld => ?_)
  · exact hHeld.alloc _
  clear hK K
  have RG2 : (w1.drew.alloc (.cells zS.cells 32)).heap[w1.heap.size]? = some (.cells zS.cells 32 (0, 0)) := heap_alloc_new w1.drew _
  refine wpAnyH_ready (rs := [34]) (by kernel_rfl) (by simp) ?_
  refine AllReadyH.cons rfl (fun K hK => ?_) AllReadyH.nil
  refine exec_store rfl rfl rfl RG2 rfl rfl (by rfl) (Sen.infoS zS) (by simp [Value.oneCell']) (fun w3 R3 M3 => ?_)
  refine hK.out _ _ ?_ (fun hHeld => ?_)
  · exact hHeld.comp M3 (fun k hk => by simp at hk; exact .inr (by omega))
  clear hK K
  refine wpAnyH_done (by kernel_rfl) ?_ _
  have HM3 := Lib.hid (show Mods [] w1 w3 from hHeld)
  have HG3 : Hid (w3.heap[w1.heap.size]? = some (.cells (hdrS X ⟨#[]⟩).cells 32 (0, 0))) := Lib.hid (by rw [eHD.out]; refine R3.trans ?_; simp [Sen.cells, zC])
  have RA3 := Lib.hid (HM3.out.heap RA1.out (by simp))
  have RB3 := Lib.hid (HM3.out.heap RB1.out (by simp))
  have HX3 := Lib.hid (HM1.out.trans HM3.out)
  have hgs : w.heap.size + 1 < w1.heap.size := lt_of_block RB1.out
  have hgg : g < w1.heap.size := (HO1.out.lt g rfl).2
  clear hHeld R3 M3 RG2 hA1 hA2 ew6 eu2 eHD hT1 hT2 hW4
  obtain ⟨at0, hat0⟩ : ∃ at0 : Nat, at0 = 8 + b8 X 7 := ⟨_, rfl⟩
  have ew : IntKind.i64.wrap (b8 X 7 : Int) = (b8 X 7 : Int) := IntWalk.i64_in _ (by omega)
  have eAT : 8 + (b8 X 7 : Int) = (at0 : Int) := by omega
  have q8 : decide ((X.length : Int) < (at0 : Int)) = false := decide_eq_false (by omega)
  have x7 := HCB.out w3 HM3.out 7 (by omega)
  have z1 : (8 : Int) ≤ (at0 : Int) := by omega
  have z2 : (at0 : Int) ≤ (c : Int) := by omega
  have hat8 : 8 ≤ at0 := by omega
  have hatX : at0 ≤ X.length := by omega
  have HAT := Lib.hid hat0
  clear hat0
  obtain ⟨ad8, had8⟩ : ∃ ad8 : Option Addr, ad8 = if c = 8 then some ⟨g, 0, none⟩ else some ⟨g, 8, none⟩ := ⟨_, rfl⟩
  have HSL : Hid (∀ W, Mods [] w1 W → (Instr.sliceAt 33 (.slice (some ⟨g, 0, none⟩) X.length c) (some (.int .i64 8)) (some (.int .i64 (at0 : Int))) none).run Try.prog W = .ok (.slice ad8 (at0 - 8) (c - 8)) W) := Lib.hid (fun W M => by
    rw [had8]
    go_simp
    try (split <;> simp_all))
  have HCV : Hid (∀ W, Mods [] w1 W → (convert 33 9 (.slice ad8 (at0 - 8) (c - 8))).run Try.prog W = .ok (.string (nmX X)) W) := Lib.hid (fun W M => by
    have e7 : at0 - 8 = b8 X 7 := by have := HAT.out; omega
    rw [e7]
    have hR : ∀ b o, ad8 = some ⟨b, o, none⟩ → ∀ i, i < b8 X 7 → W.cell? ⟨b, o + i, none⟩ = some (.int .u8 (((X.drop 8).take (b8 X 7)).getD i 0)) := by
      intro b o h i hi
      have h5 : W.cell? ⟨g, 8 + i, none⟩ = _ := HCB.out W M (8 + i) (by omega)
      rw [had8] at h
      have hc8 : ¬ c = 8 := by omega
      rw [if_neg hc8] at h
      cases h
      rw [h5, b8_cast HXB.out, List.getD_eq_getElem?_getD, List.getD_eq_getElem?_getD, List.getElem?_take, if_pos hi, List.getElem?_drop]
    have hN : (nmX X) = strOfNums ((X.drop 8).take (b8 X 7)) := by unfold nmX; exact strOf_nums _
    rw [hN]
    obtain ⟨b, o, h⟩ : ∃ b o, ad8 = some ⟨b, o, none⟩ := by rw [had8]; split; exact ⟨_, _, rfl⟩; exact ⟨_, _, rfl⟩
    have h6 := hR b o h
    rw [h]
    exact run_convert_bytes_arg (P := Try.prog) W _ _ Try.underlying33 Try.underlying5 b o _ _ _ (by simp; omega) h6 _ Try.underlying9)
  have hsl3 := HSL.out w3 HM3.out
  have hcv3 := HCV.out w3 HM3.out
  clear had8 HSL HCV
  generalize w1.heap.size = gs at HG3 hgs hgg ⊢
  have cx3 : w3.cell? ⟨gs, 3, none⟩ = some (.string ⟨#[]⟩) := (cell_blk HG3.out 3).trans rfl
  have fx3 : w3.frozen? ⟨gs, 3, none⟩ = false := froz_blk HG3.out 3
  have cx6 : w3.cell? ⟨gs, 6, none⟩ = some (.bool (dsX X)) := (cell_blk HG3.out 6).trans rfl
  -- the world with the name
  have HG4 : Hid ((w3.setCell ⟨gs, 3, none⟩ (.string (nmX X))).heap[gs]? = some (.cells (hdrS X (nmX X)).cells 32 (0, 0))) := Lib.hid (heap_setCell (i := 3) (v := .string (nmX X)) HG3.out)
  have RA4 : Hid ((w3.setCell ⟨gs, 3, none⟩ (.string (nmX X))).heap[w.heap.size]? = some (.cells zS.cells 32 (0, 0))) := Lib.hid (heap_setCell_ne RA3.out (by show w.heap.size ≠ gs; omega))
  have RB4 : Hid ((w3.setCell ⟨gs, 3, none⟩ (.string (nmX X))).heap[w.heap.size + 1]? = some (.cells zS.cells 32 (0, 0))) := Lib.hid (heap_setCell_ne RB3.out (by show w.heap.size + 1 ≠ gs; omega))
  have HM4 := Lib.hid (HX3.out.setCell (p := ⟨gs, 3, none⟩) (.inr (by show w.heap.size ≤ gs; omega)) (.string (nmX X)))
  have HK4 := Lib.hid ((Mods.refl (S := [gs]) (w := w3)).setCell (p := ⟨gs, 3, none⟩) (.inl (by simp)) (.string (nmX X)))
  have h2 := H2.out
  rw [HD.out] at cx6
  have HR := Lib.hid (show errX X = 4 by
    rw [HXX.out, HD.out]
    have hl : (rsX X).length < 6 := by unfold rsX; rw [List.length_drop]; omega
    have he : restErr true (rsX X) = 4 := by unfold restErr; rw [if_pos rfl, if_pos hl]
    rw [he, if_pos (by decide)])
  have t2 : decide ((X.length : Int) < (at0 : Int) + 2) = true := decide_eq_true (by omega)
  clear h2 H2 HXX
  go_wp2_with (first
    | (refine wpList_load_sen rfl (.tmp 4) rfl (SenBox.mk RB4.out) (by rfl) ?_)
    | (refine wpList_store_row (cs := zS.cells) rfl 32 (.tmp 2) (.tmp 152) rfl RA4.out (by rfl) (by rfl) rfl (Sen.infoS _) zS_one ?_; intro wz Rz Mz))
  have HMX := HM4.out.comp Mz (fun k hk => by simp at hk; exact .inr (by omega))
  refine bodyPost_ret (results_cell_row2 rfl _ _ w.heap.size _ _ _ _ rfl Rz Try.underlying32 rfl (Sen.infoS _)) rfl ?_
  have := HSE.out wz (by rw [HR.out]; decide) HMX
  rw [HR.out] at this
  exact this
end Go.Proofs.Ytijjkonephjodaa

namespace Go.Proofs.Ytijjkonephjodaa
open Go.RowKit
set_option linter.unusedVariables false

theorem Rd.part {w : World} {g c : Nat} {A : List Int} (h : Rd w (.slice (some ⟨g, 0, none⟩) A.length c) (u8s A)) (i k : Nat) (hk : i + k ≤ A.length) : Rd w (.slice (some ⟨g, i, none⟩) k (c - i)) (u8s ((A.drop i).take k)) := by
  have := h.sub i (i + k) (by omega) hk
  rwa [Nat.zero_add, Nat.add_sub_cancel_left] at this
theorem leN_two {A : List Int} (hb : Bytes A) (i : Nat) (h : i + 2 ≤ A.length) : leN ((A.drop i).take 2) = (w16 A i : Nat) := by
  have e : (A.drop i).take 2 = [A.getD i 0, A.getD (i + 1) 0] := by
    refine List.ext_getElem (by simp; omega) fun j h1 h2 => ?_
    have hj : j < 2 := by simpa using h2
    match j, hj with
    | 0, _ => simp [List.getD_eq_getElem?_getD, show i < A.length by omega]
    | 1, _ => simp [List.getD_eq_getElem?_getD, show i + 1 < A.length by omega]
  rw [e, w16_eq hb]
  simp [leN]
set_option maxRecDepth 100000 in
set_option maxHeartbeats 8000000 in
theorem refSenDec_disc (w : World) (v : Value) (A : List Int) (hv : Rd w v (u8s A)) (hb : Bytes A) (hl : A.length ≤ 100000) (h9 : ¬ A.length < 9) (hs : sum8 A = 0) (hc : A.dropLast.getD 0 0 = 1 ∧ A.dropLast.getD 6 0 < 32 ∧ 8 + b8 A.dropLast 7 ≤ A.dropLast.length) (hd : dsX A.dropLast = true) (h2 : ¬ A.dropLast.length < 8 + b8 A.dropLast 7 + 2) :
    Calls Try.prog 24 #[v] w fun e w' => SDecRes w A e w' := by
  have HV := Lib.hid hv
  have HB := Lib.hid hb
  have HL := Lib.hid hl
  have HE := Lib.hid (show ∀ W, errS A ≠ 0 → Mods [] w W → SDecRes w A (.returned (.tuple #[.agg zS.cells, .int .i64 (errS A)])) W from fun W h M => by unfold SDecRes; rw [if_neg h]; exact ⟨rfl, M⟩)
  have HU := Lib.hid (show errS A = if A.length < 9 then 4 else if sum8 A ≠ 0 then 5 else errX A.dropLast from rfl)
  obtain ⟨ad, cap, rfl, h1, h2, -⟩ := hv.u8
  have h3 : cap ≤ 9223372036854775807 := h2
  clear hv hb h2 hl
  have R0 := Lib.hid (heap_alloc_new w (.cells zS.cells 32))
  have M0 := Lib.hid ((Mods.refl (S := []) (w := w)).alloc (.cells zS.cells 32))
  have R1' : ((w.alloc (.cells zS.cells 32)).alloc (.cells zS.cells 32)).heap[w.heap.size + 1]? = some (.cells zS.cells 32 (0, 0)) := by
    have := heap_alloc_new (w.alloc (.cells zS.cells 32)) (.cells zS.cells 32)
    rwa [World.size_alloc] at this
  have RQ := Lib.hid R1'
  clear R1'
  have HD := Lib.hid hd
  have H2 := Lib.hid h2
  clear hd h2
  -- hc : the head is good; up to region 9, the sensor made in block gs
  have HF := Lib.hid hc
  clear hc
  -- hs : sum8 A = 0, h9 : ¬ A.length < 9
  have HRX := Lib.hid (show errS A = errX A.dropLast from (HU.out.trans (if_neg h9)).trans (if_neg (fun h => h hs)))
  have HS := Lib.hid hs
  have HN := Lib.hid (show A ≠ [] from fun h => h9 (by rw [h]; decide))
  have d1 : decide ((A.length : Int) < 9) = false := decide_eq_false (by omega)
  have hXl : A.dropLast.length = A.length - 1 := List.length_dropLast
  have hXb : Bytes A.dropLast := by rw [List.dropLast_eq_take]; exact HB.out.take _
  have hSD : ∀ e W, SDecRes w A e W = SDecRes w A e W := fun _ _ => rfl
  clear hSD
  have HSU : Hid (∀ e W, errX A.dropLast = 0 → (∃ pv, e = .returned (.tuple #[.agg (senX A.dropLast pv).cells, .int .i64 0]) ∧ OwnPts W w.heap.size pv (ptsX A.dropLast) ∧ Mods [] w W) → SDecRes w A e W) := Lib.hid (fun e W h0 h => by unfold SDecRes; rw [HRX.out, if_pos h0]; exact h)
  have HSE : Hid (∀ W, errX A.dropLast ≠ 0 → Mods [] w W → SDecRes w A (.returned (.tuple #[.agg zS.cells, .int .i64 (errX A.dropLast)])) W) := Lib.hid (fun W h M => by have := HE.out W (by rw [HRX.out]; exact h) M; rw [HRX.out] at this; exact this)
  have hX8 : 8 ≤ A.dropLast.length := by omega
  have hXc : A.dropLast.length ≤ 100000 := by have := HL.out; omega
  have HOP : Hid (∀ W, Mods [] w W → Calls Try.prog 59 #[.slice ad A.length cap] W (fun e w' => ∃ g c, e = .returned (.tuple #[.slice (some ⟨g, 0, none⟩) A.dropLast.length c, .int .i64 0]) ∧ OwnB w' W.heap.size (.slice (some ⟨g, 0, none⟩) A.dropLast.length c) A.dropLast ∧ Mods [] W w')) := Lib.hid (fun W M => by
    refine (refOpen8_ok _ _ A (HV.out.mods0 M) HB.out HL.out).mono ?_
    rintro e w1 hx
    unfold OpenRes at hx
    rw [if_neg HN.out, if_pos HS.out] at hx
    obtain ⟨v', rfl, O, M1⟩ := hx
    obtain ⟨g, c, cur, hv', _⟩ := owns_form O (by rw [u8s_length]; omega)
    rw [u8s_length] at hv'
    subst hv'
    exact ⟨g, c, rfl, O, M1⟩)
  clear hs h9 hXl HRX HS HN HV HE HU HL HB
  generalize A.dropLast = X at *
  go_enter Try.func24, Try.ntmps24
  go_wp2_with (refine wpList_store_row (cs := zS.cells) rfl 32 (.tmp 4) (.tmp 13) rfl RQ.out (by rfl) (by rfl) rfl (Sen.infoS _) zS_one ?_; intro wq Rq Mq; have RB0 := Lib.hid Rq; have RA0 := Lib.hid (Mq.heap (heap_alloc (o' := .cells zS.cells 32) R0.out) (by simp)); have MQ := Lib.hid ((M0.out.alloc (.cells zS.cells 32)).comp Mq (fun k hk => by simp at hk; exact .inr (by omega))); clear Rq Mq)
  have hwq := lt_of_block RB0.out
  refine (HOP.out _ MQ.out).mono ?_
  rintro e w1 ⟨g, c, rfl, O1, M1⟩
  have hg0 : w.heap.size + 2 ≤ g := by have hgl := (O1.lt g rfl).1; omega
  have HM1 := Lib.hid (MQ.out.trans M1)
  have RA1 := Lib.hid (M1.heap RA0.out (by simp))
  have HO1 := Lib.hid O1
  (have RB1 := Lib.hid (M1.heap RB0.out (by simp)))
  have HCB : Hid (∀ W, Mods [] w1 W → ∀ i, i < X.length → W.cell? ⟨g, i, none⟩ = some (.int .u8 (b8 X i : Nat))) := Lib.hid (fun W M i hi => by
    obtain ⟨_, _, he, _, _, hc⟩ := O1.rd.u8
    injection he with he1 _ _
    obtain ⟨b, o, h, hx⟩ := hc i hi
    rw [← he1] at h
    cases h
    rw [Nat.zero_add, u8_getD hXb] at hx
    exact M.cell hx (by simp))
  have hc1 : X.length ≤ c ∧ c ≤ 9223372036854775807 := by
    obtain ⟨_, _, he, h1, h2, hc⟩ := O1.rd.u8
    injection he with _ _ he3
    subst he3
    exact ⟨h1, h2⟩
  obtain ⟨hc1, hc2⟩ := hc1
  have HXB := Lib.hid hXb
  clear O1 M1 MQ RA0 HOP hXb
  have i0 : (0 : Int) < (X.length : Int) := by omega
  have i1 : (1 : Int) < (X.length : Int) := by omega
  have i2 : (2 : Int) < (X.length : Int) := by omega
  have i3 : (3 : Int) < (X.length : Int) := by omega
  have i4 : (4 : Int) < (X.length : Int) := by omega
  have i5 : (5 : Int) < (X.length : Int) := by omega
  have i6 : (6 : Int) < (X.length : Int) := by omega
  have i7 : (7 : Int) < (X.length : Int) := by omega
  have x0 := HCB.out w1 Mods.refl 0 (by omega)
  have x6 := HCB.out w1 Mods.refl 6 (by omega)
  have x7 := HCB.out w1 Mods.refl 7 (by omega)
  have HX0 := Lib.hid (u8_getD HXB.out 0)
  have HX6 := Lib.hid (u8_getD HXB.out 6)
  have b7 := b8_lt HXB.out 7
  have b6 := b8_lt HXB.out 6
  clear RB0
  obtain ⟨f0, f6, f7⟩ := HF.out
  have HXX := Lib.hid (show errX X = if restErr (dsX X) (rsX X) ≠ 0 then restErr (dsX X) (rsX X) else if validB (senX X (.slice none 0 0)) (ptsX X) then 0 else 1 by unfold errX; rw [if_neg (by omega), if_neg (by omega)])
  rw [HX0.out] at f0
  rw [HX6.out] at f6
  have q0 : ((b8 X 0 : Int) != 1) = false := by simpa using f0
  have q6 : decide ((b8 X 6 : Int) ≥ 32) = false := decide_eq_false (by omega)
  clear f0 HF HX0
  go_wp2_with fail
  try dsimp only [Act.put]
  have hA1 : ((b8 X 6 : Int) % 2 == 1) = decide ((b8 X 6 : Int) % 2 = 1) := by rw [Bool.eq_iff_iff]; simp
  have hA2 : ((b8 X 6 : Int) / 2 % 2 == 1) = decide ((b8 X 6 : Int) / 2 % 2 = 1) := by rw [Bool.eq_iff_iff]; simp
  have ew6 : IntKind.i64.wrap (b8 X 6 : Int) = (b8 X 6 : Int) := IntWalk.i64_in _ (by omega)
  have eu2 : IntKind.u8.wrap ((b8 X 6 : Int) / 2) = (b8 X 6 : Int) / 2 := by rw [IntKind.wrap_u8]; omega
  have hT1 : ((b8 X 6 : Int)).tmod 2 = (b8 X 6 : Int) % 2 := Int.tmod_eq_emod_of_nonneg (by omega)
  have hT2 : ((b8 X 6 : Int) / 2).tmod 2 = (b8 X 6 : Int) / 2 % 2 := Int.tmod_eq_emod_of_nonneg (by omega)
  have hW4 : IntKind.i64.wrap ((b8 X 6 : Int) / 4) = (b8 X 6 : Int) / 4 := IntWalk.i64_in _ (by omega)
  clear q0 q6 x0 x6 x7
  have eHD : Hid (hdrS X ⟨#[]⟩ = ⟨b8 X 1, b8 X 2, b8 X 3, ⟨#[]⟩, b8 X 4, b8 X 5, decide ((b8 X 6 : Int) % 2 = 1), zC, 0, 0, 0, 0, 0, 0, 0, 0, 0, 0, 0, 0, decide ((b8 X 6 : Int) / 2 % 2 = 1), (b8 X 6 : Int) / 4⟩) := Lib.hid (by unfold hdrS; rw [HX6.out])
  refine heldStart (S := fun W => Mods [] w1 W) 35 rfl (by kernel_rfl) (Mods.refl.drew) (fun hHeld => ?_)
  refine takeD (i := 0) (d := 38) (v := ?_) rfl rfl (by kernel_rfl) (by kernel_rfl) (by kernel_rfl) (fun _ _ _ h => h) (Or.inl ⟨by rfl, ?_⟩) hHeld ?_
  rotate_left 1
  · (intro w hSw; (try dsimp only at hSw); go_simp; (try with_reducible rfl))
  simp only [List.setIfInBounds_toArray, List.set_cons_zero, List.set_cons_succ]
  refine takeD (i := 1) (d := 39) (v := ?_) rfl rfl (by kernel_rfl) (by kernel_rfl) (by kernel_rfl) (fun _ _ _ h => h) (Or.inl ⟨by rfl, ?_⟩) hHeld ?_
  rotate_left 1
  · (intro w hSw; (try dsimp only at hSw); go_simp; (try with_reducible rfl))
  simp only [List.setIfInBounds_toArray, List.set_cons_zero, List.set_cons_succ]
  refine takeD (i := 2) (d := 40) (v := .int .u8 (b8 X 1 : Nat)) rfl rfl (by kernel_rfl) (by kernel_rfl) (by kernel_rfl) (fun _ _ _ h => h) (Or.inl ⟨by rfl, fun w hSw => ?_⟩) hHeld ?_
  · have cst := HCB.out w hSw 1 (by omega)
    go_simp
  simp only [List.setIfInBounds_toArray, List.set_cons_zero, List.set_cons_succ]
  refine takeD (i := 3) (d := 41) (v := ?_) rfl rfl (by kernel_rfl) (by kernel_rfl) (by kernel_rfl) (fun _ _ _ h => h) (Or.inl ⟨by rfl, ?_⟩) hHeld ?_
  rotate_left 1
  · (intro w hSw; (try dsimp only at hSw); go_simp; (try with_reducible rfl))
  simp only [List.setIfInBounds_toArray, List.set_cons_zero, List.set_cons_succ]
  refine takeD (i := 4) (d := 42) (v := ?_) rfl rfl (by kernel_rfl) (by kernel_rfl) (by kernel_rfl) (fun _ _ _ h => h) (Or.inl ⟨by rfl, ?_⟩) hHeld ?_
  rotate_left 1
  · (intro w hSw; (try dsimp only at hSw); go_simp; (try with_reducible rfl))
  simp only [List.setIfInBounds_toArray, List.set_cons_zero, List.set_cons_succ]
  refine takeD (i := 5) (d := 43) (v := .int .u8 (b8 X 2 : Nat)) rfl rfl (by kernel_rfl) (by kernel_rfl) (by kernel_rfl) (fun _ _ _ h => h) (Or.inl ⟨by rfl, fun w hSw => ?_⟩) hHeld ?_
  · have cst := HCB.out w hSw 2 (by omega)
    go_simp
  simp only [List.setIfInBounds_toArray, List.set_cons_zero, List.set_cons_succ]
  refine takeD (i := 6) (d := 44) (v := ?_) rfl rfl (by kernel_rfl) (by kernel_rfl) (by kernel_rfl) (fun _ _ _ h => h) (Or.inl ⟨by rfl, ?_⟩) hHeld ?_
  rotate_left 1
  · (intro w hSw; (try dsimp only at hSw); go_simp; (try with_reducible rfl))
  simp only [List.setIfInBounds_toArray, List.set_cons_zero, List.set_cons_succ]
  refine takeD (i := 7) (d := 45) (v := ?_) rfl rfl (by kernel_rfl) (by kernel_rfl) (by kernel_rfl) (fun _ _ _ h => h) (Or.inl ⟨by rfl, ?_⟩) hHeld ?_
  rotate_left 1
  · (intro w hSw; (try dsimp only at hSw); go_simp; (try with_reducible rfl))
  simp only [List.setIfInBounds_toArray, List.set_cons_zero, List.set_cons_succ]
  refine takeD (i := 8) (d := 46) (v := .int .u8 (b8 X 3 : Nat)) rfl rfl (by kernel_rfl) (by kernel_rfl) (by kernel_rfl) (fun _ _ _ h => h) (Or.inl ⟨by rfl, fun w hSw => ?_⟩) hHeld ?_
  · have cst := HCB.out w hSw 3 (by omega)
    go_simp
  simp only [List.setIfInBounds_toArray, List.set_cons_zero, List.set_cons_succ]
  refine takeD (i := 9) (d := 47) (v := ?_) rfl rfl (by kernel_rfl) (by kernel_rfl) (by kernel_rfl) (fun _ _ _ h => h) (Or.inl ⟨by rfl, ?_⟩) hHeld ?_
  rotate_left 1
  · (intro w hSw; (try dsimp only at hSw); go_simp; (try with_reducible rfl))
  simp only [List.setIfInBounds_toArray, List.set_cons_zero, List.set_cons_succ]
  refine takeD (i := 10) (d := 48) (v := ?_) rfl rfl (by kernel_rfl) (by kernel_rfl) (by kernel_rfl) (fun _ _ _ h => h) (Or.inl ⟨by rfl, ?_⟩) hHeld ?_
  rotate_left 1
  · (intro w hSw; (try dsimp only at hSw); go_simp; (try with_reducible rfl))
  simp only [List.setIfInBounds_toArray, List.set_cons_zero, List.set_cons_succ]
  refine takeD (i := 11) (d := 49) (v := .int .u8 (b8 X 4 : Nat)) rfl rfl (by kernel_rfl) (by kernel_rfl) (by kernel_rfl) (fun _ _ _ h => h) (Or.inl ⟨by rfl, fun w hSw => ?_⟩) hHeld ?_
  · have cst := HCB.out w hSw 4 (by omega)
    go_simp
  simp only [List.setIfInBounds_toArray, List.set_cons_zero, List.set_cons_succ]
  refine takeD (i := 12) (d := 50) (v := ?_) rfl rfl (by kernel_rfl) (by kernel_rfl) (by kernel_rfl) (fun _ _ _ h => h) (Or.inl ⟨by rfl, ?_⟩) hHeld ?_
  rotate_left 1
  · (intro w hSw; (try dsimp only at hSw); go_simp; (try with_reducible rfl))
  simp only [List.setIfInBounds_toArray, List.set_cons_zero, List.set_cons_succ]
  refine takeD (i := 13) (d := 51) (v := ?_) rfl rfl (by kernel_rfl) (by kernel_rfl) (by kernel_rfl) (fun _ _ _ h => h) (Or.inl ⟨by rfl, ?_⟩) hHeld ?_
  rotate_left 1
  · (intro w hSw; (try dsimp only at hSw); go_simp; (try with_reducible rfl))
  simp only [List.setIfInBounds_toArray, List.set_cons_zero, List.set_cons_succ]
  refine takeD (i := 14) (d := 52) (v := .int .u8 (b8 X 5 : Nat)) rfl rfl (by kernel_rfl) (by kernel_rfl) (by kernel_rfl) (fun _ _ _ h => h) (Or.inl ⟨by rfl, fun w hSw => ?_⟩) hHeld ?_
  · have cst := HCB.out w hSw 5 (by omega)
    go_simp
  simp only [List.setIfInBounds_toArray, List.set_cons_zero, List.set_cons_succ]
  refine takeD (i := 15) (d := 53) (v := ?_) rfl rfl (by kernel_rfl) (by kernel_rfl) (by kernel_rfl) (fun _ _ _ h => h) (Or.inl ⟨by rfl, ?_⟩) hHeld ?_
  rotate_left 1
  · (intro w hSw; (try dsimp only at hSw); go_simp; (try with_reducible rfl))
  simp only [List.setIfInBounds_toArray, List.set_cons_zero, List.set_cons_succ]
  refine takeD (i := 16) (d := 54) (v := ?_) rfl rfl (by kernel_rfl) (by kernel_rfl) (by kernel_rfl) (fun _ _ _ h => h) (Or.inl ⟨by rfl, ?_⟩) hHeld ?_
  rotate_left 1
  · (intro w hSw; (try dsimp only at hSw); go_simp; (try with_reducible rfl))
  simp only [List.setIfInBounds_toArray, List.set_cons_zero, List.set_cons_succ]
  refine takeD (i := 17) (d := 55) (v := ?_) rfl rfl (by kernel_rfl) (by kernel_rfl) (by kernel_rfl) (fun _ _ _ h => h) (Or.inl ⟨by rfl, ?_⟩) hHeld ?_
  rotate_left 1
  · (intro w hSw; (try dsimp only at hSw); go_simp; (try with_reducible rfl))
  simp only [List.setIfInBounds_toArray, List.set_cons_zero, List.set_cons_succ]
  refine takeD (i := 18) (d := 56) (v := .int .u8 (b8 X 6 : Nat)) rfl rfl (by kernel_rfl) (by kernel_rfl) (by kernel_rfl) (fun _ _ _ h => h) (Or.inl ⟨by rfl, fun w hSw => ?_⟩) hHeld ?_
  · have cst := HCB.out w hSw 6 (by omega)
    go_simp
  simp only [List.setIfInBounds_toArray, List.set_cons_zero, List.set_cons_succ]
  refine takeD (i := 19) (d := 57) (v := ?_) rfl rfl (by kernel_rfl) (by kernel_rfl) (by kernel_rfl) (fun _ _ _ h => h) (Or.inl ⟨by rfl, ?_⟩) hHeld ?_
  rotate_left 1
  · (intro w hSw; (try dsimp only at hSw); go_simp; (try with_reducible rfl))
  simp only [List.setIfInBounds_toArray, List.set_cons_zero, List.set_cons_succ]
  refine takeD (i := 20) (d := 58) (v := ?_) rfl rfl (by kernel_rfl) (by kernel_rfl) (by kernel_rfl) (fun _ _ _ h => h) (Or.inl ⟨by rfl, ?_⟩) hHeld ?_
  rotate_left 1
  · (intro w hSw; (try dsimp only at hSw); go_simp; (try with_reducible rfl))
  simp only [List.setIfInBounds_toArray, List.set_cons_zero, List.set_cons_succ]
  refine takeD (i := 21) (d := 59) (v := ?_) rfl rfl (by kernel_rfl) (by kernel_rfl) (by kernel_rfl) (fun _ _ _ h => h) (Or.inl ⟨by rfl, ?_⟩) hHeld ?_
  rotate_left 1
  · (intro w hSw; (try dsimp only at hSw); go_simp; (try with_reducible rfl))
  simp only [List.setIfInBounds_toArray, List.set_cons_zero, List.set_cons_succ]
  refine takeD (i := 22) (d := 60) (v := ?_) rfl rfl (by kernel_rfl) (by kernel_rfl) (by kernel_rfl) (fun _ _ _ h => h) (Or.inl ⟨by rfl, ?_⟩) hHeld ?_
  rotate_left 1
  · (intro w hSw; (try dsimp only at hSw); go_simp; (try with_reducible rfl))
  simp only [List.setIfInBounds_toArray, List.set_cons_zero, List.set_cons_succ]
  refine takeD (i := 23) (d := 61) (v := .int .u8 (b8 X 6 : Nat)) rfl rfl (by kernel_rfl) (by kernel_rfl) (by kernel_rfl) (fun _ _ _ h => h) (Or.inl ⟨by rfl, fun w hSw => ?_⟩) hHeld ?_
  · have cst := HCB.out w hSw 6 (by omega)
    go_simp
  simp only [List.setIfInBounds_toArray, List.set_cons_zero, List.set_cons_succ]
  refine takeD (i := 24) (d := 62) (v := ?_) rfl rfl (by kernel_rfl) (by kernel_rfl) (by kernel_rfl) (fun _ _ _ h => h) (Or.inl ⟨by rfl, ?_⟩) hHeld ?_
  rotate_left 1
  · (intro w hSw; (try dsimp only at hSw); go_simp; (try with_reducible rfl))
  simp only [List.setIfInBounds_toArray, List.set_cons_zero, List.set_cons_succ]
  refine takeD (i := 25) (d := 63) (v := ?_) rfl rfl (by kernel_rfl) (by kernel_rfl) (by kernel_rfl) (fun _ _ _ h => h) (Or.inl ⟨by rfl, ?_⟩) hHeld ?_
  rotate_left 1
  · (intro w hSw; (try dsimp only at hSw); go_simp; (try with_reducible rfl))
  simp only [List.setIfInBounds_toArray, List.set_cons_zero, List.set_cons_succ]
  refine takeD (i := 26) (d := 64) (v := ?_) rfl rfl (by kernel_rfl) (by kernel_rfl) (by kernel_rfl) (fun _ _ _ h => h) (Or.inl ⟨by rfl, ?_⟩) hHeld ?_
  rotate_left 1
  · (intro w hSw; (try dsimp only at hSw); go_simp; (try with_reducible rfl))
  simp only [List.setIfInBounds_toArray, List.set_cons_zero, List.set_cons_succ]
  refine takeD (i := 27) (d := 65) (v := ?_) rfl rfl (by kernel_rfl) (by kernel_rfl) (by kernel_rfl) (fun _ _ _ h => h) (Or.inl ⟨by rfl, ?_⟩) hHeld ?_
  rotate_left 1
  · (intro w hSw; (try dsimp only at hSw); go_simp; (try with_reducible rfl))
  simp only [List.setIfInBounds_toArray, List.set_cons_zero, List.set_cons_succ]
  refine takeD (i := 28) (d := 66) (v := ?_) rfl rfl (by kernel_rfl) (by kernel_rfl) (by kernel_rfl) (fun _ _ _ h => h) (Or.inl ⟨by rfl, ?_⟩) hHeld ?_
  rotate_left 1
  · (intro w hSw; (try dsimp only at hSw); go_simp; (try with_reducible rfl))
  simp only [List.setIfInBounds_toArray, List.set_cons_zero, List.set_cons_succ]
  refine takeD (i := 29) (d := 67) (v := .int .u8 (b8 X 6 : Nat)) rfl rfl (by kernel_rfl) (by kernel_rfl) (by kernel_rfl) (fun _ _ _ h => h) (Or.inl ⟨by rfl, fun w hSw => ?_⟩) hHeld ?_
  · have cst := HCB.out w hSw 6 (by omega)
    go_simp
  simp only [List.setIfInBounds_toArray, List.set_cons_zero, List.set_cons_succ]
  refine takeD (i := 30) (d := 68) (v := ?_) rfl rfl (by kernel_rfl) (by kernel_rfl) (by kernel_rfl) (fun _ _ _ h => h) (Or.inl ⟨by rfl, ?_⟩) hHeld ?_
  rotate_left 1
  · (intro w hSw; (try dsimp only at hSw); go_simp; (try with_reducible rfl))
  simp only [List.setIfInBounds_toArray, List.set_cons_zero, List.set_cons_succ]
  refine takeD (i := 31) (d := 69) (v := ?_) rfl rfl (by kernel_rfl) (by kernel_rfl) (by kernel_rfl) (fun _ _ _ h => h) (Or.inl ⟨by rfl, ?_⟩) hHeld ?_
  rotate_left 1
  · (intro w hSw; (try dsimp only at hSw); go_simp; (try with_reducible rfl))
  simp only [List.setIfInBounds_toArray, List.set_cons_zero, List.set_cons_succ]
  refine takeD (i := 32) (d := 70) (v := ?_) rfl rfl (by kernel_rfl) (by kernel_rfl) (by kernel_rfl) (fun _ _ _ h => h) (Or.inl ⟨by rfl, ?_⟩) hHeld ?_
  rotate_left 1
  · (intro w hSw; (try dsimp only at hSw); go_simp; (try with_reducible rfl))
  simp only [List.setIfInBounds_toArray, List.set_cons_zero, List.set_cons_succ]
  refine wpAnyH_ready (rs := [33]) (by kernel_rfl) (by simp) ?_
  refine AllReadyH.cons rfl (fun K hK => ?_) AllReadyH.nil
  go_simp
  refine hK.out _ _ ?_ (fun hHeld => ?_)
  · exact hHeld.alloc _
  clear hK K
  have RG2 : (w1.drew.alloc (.cells zS.cells 32)).heap[w1.heap.size]? = some (.cells zS.cells 32 (0, 0)) := heap_alloc_new w1.drew _
  refine wpAnyH_ready (rs := [34]) (by kernel_rfl) (by simp) ?_
  refine AllReadyH.cons rfl (fun K hK => ?_) AllReadyH.nil
  refine exec_store rfl rfl rfl RG2 rfl rfl (by rfl) (Sen.infoS zS) (by simp [Value.oneCell']) (fun w3 R3 M3 => ?_)
  refine hK.out _ _ ?_ (fun hHeld => ?_)
  · exact hHeld.comp M3 (fun k hk => by simp at hk; exact .inr (by omega))
  clear hK K
  refine wpAnyH_done (by kernel_rfl) ?_ _
  have HM3 := Lib.hid (show Mods [] w1 w3 from hHeld)
  have HG3 : Hid (w3.heap[w1.heap.size]? = some (.cells (hdrS X ⟨#[]⟩).cells 32 (0, 0))) := Lib.hid (by rw [eHD.out]; refine R3.trans ?_; simp [Sen.cells, zC])
  have RA3 := Lib.hid (HM3.out.heap RA1.out (by simp))
  have RB3 := Lib.hid (HM3.out.heap RB1.out (by simp))
  have HX3 := Lib.hid (HM1.out.trans HM3.out)
  have hgs : w.heap.size + 1 < w1.heap.size := lt_of_block RB1.out
  have hgg : g < w1.heap.size := (HO1.out.lt g rfl).2
  clear hHeld R3 M3 RG2 hA1 hA2 ew6 eu2 eHD hT1 hT2 hW4
  obtain ⟨at0, hat0⟩ : ∃ at0 : Nat, at0 = 8 + b8 X 7 := ⟨_, rfl⟩
  have ew : IntKind.i64.wrap (b8 X 7 : Int) = (b8 X 7 : Int) := IntWalk.i64_in _ (by omega)
  have eAT : 8 + (b8 X 7 : Int) = (at0 : Int) := by omega
  have q8 : decide ((X.length : Int) < (at0 : Int)) = false := decide_eq_false (by omega)
  have x7 := HCB.out w3 HM3.out 7 (by omega)
  have z1 : (8 : Int) ≤ (at0 : Int) := by omega
  have z2 : (at0 : Int) ≤ (c : Int) := by omega
  have hat8 : 8 ≤ at0 := by omega
  have hatX : at0 ≤ X.length := by omega
  have HAT := Lib.hid hat0
  clear hat0
  obtain ⟨ad8, had8⟩ : ∃ ad8 : Option Addr, ad8 = if c = 8 then some ⟨g, 0, none⟩ else some ⟨g, 8, none⟩ := ⟨_, rfl⟩
  have HSL : Hid (∀ W, Mods [] w1 W → (Instr.sliceAt 33 (.slice (some ⟨g, 0, none⟩) X.length c) (some (.int .i64 8)) (some (.int .i64 (at0 : Int))) none).run Try.prog W = .ok (.slice ad8 (at0 - 8) (c - 8)) W) := Lib.hid (fun W M => by
    rw [had8]
    go_simp
    try (split <;> simp_all))
  have HCV : Hid (∀ W, Mods [] w1 W → (convert 33 9 (.slice ad8 (at0 - 8) (c - 8))).run Try.prog W = .ok (.string (nmX X)) W) := Lib.hid (fun W M => by
    have e7 : at0 - 8 = b8 X 7 := by have := HAT.out; omega
    rw [e7]
    have hR : ∀ b o, ad8 = some ⟨b, o, none⟩ → ∀ i, i < b8 X 7 → W.cell? ⟨b, o + i, none⟩ = some (.int .u8 (((X.drop 8).take (b8 X 7)).getD i 0)) := by
      intro b o h i hi
      have h5 : W.cell? ⟨g, 8 + i, none⟩ = _ := HCB.out W M (8 + i) (by omega)
      rw [had8] at h
      have hc8 : ¬ c = 8 := by omega
      rw [if_neg hc8] at h
      cases h
      rw [h5, b8_cast HXB.out, List.getD_eq_getElem?_getD, List.getD_eq_getElem?_getD, List.getElem?_take, if_pos hi, List.getElem?_drop]
    have hN : (nmX X) = strOfNums ((X.drop 8).take (b8 X 7)) := by unfold nmX; exact strOf_nums _
    rw [hN]
    obtain ⟨b, o, h⟩ : ∃ b o, ad8 = some ⟨b, o, none⟩ := by rw [had8]; split; exact ⟨_, _, rfl⟩; exact ⟨_, _, rfl⟩
    have h6 := hR b o h
    rw [h]
    exact run_convert_bytes_arg (P := Try.prog) W _ _ Try.underlying33 Try.underlying5 b o _ _ _ (by simp; omega) h6 _ Try.underlying9)
  have hsl3 := HSL.out w3 HM3.out
  have hcv3 := HCV.out w3 HM3.out
  clear had8 HSL HCV
  generalize w1.heap.size = gs at HG3 hgs hgg ⊢
  have cx3 : w3.cell? ⟨gs, 3, none⟩ = some (.string ⟨#[]⟩) := (cell_blk HG3.out 3).trans rfl
  have fx3 : w3.frozen? ⟨gs, 3, none⟩ = false := froz_blk HG3.out 3
  have cx6 : w3.cell? ⟨gs, 6, none⟩ = some (.bool (dsX X)) := (cell_blk HG3.out 6).trans rfl
  -- the world with the name
  have HG4 : Hid ((w3.setCell ⟨gs, 3, none⟩ (.string (nmX X))).heap[gs]? = some (.cells (hdrS X (nmX X)).cells 32 (0, 0))) := Lib.hid (heap_setCell (i := 3) (v := .string (nmX X)) HG3.out)
  have RA4 : Hid ((w3.setCell ⟨gs, 3, none⟩ (.string (nmX X))).heap[w.heap.size]? = some (.cells zS.cells 32 (0, 0))) := Lib.hid (heap_setCell_ne RA3.out (by show w.heap.size ≠ gs; omega))
  have RB4 : Hid ((w3.setCell ⟨gs, 3, none⟩ (.string (nmX X))).heap[w.heap.size + 1]? = some (.cells zS.cells 32 (0, 0))) := Lib.hid (heap_setCell_ne RB3.out (by show w.heap.size + 1 ≠ gs; omega))
  have HM4 := Lib.hid (HX3.out.setCell (p := ⟨gs, 3, none⟩) (.inr (by show w.heap.size ≤ gs; omega)) (.string (nmX X)))
  have HK4 := Lib.hid ((Mods.refl (S := [gs]) (w := w3)).setCell (p := ⟨gs, 3, none⟩) (.inl (by simp)) (.string (nmX X)))
  have h2 : at0 + 2 ≤ X.length := by have := H2.out; have := HAT.out; omega
  rw [HD.out] at cx6
  have t2 : decide ((X.length : Int) < (at0 : Int) + 2) = false := decide_eq_false (by omega)
  have hcne : ¬ c = at0 := by omega
  have y0 : (0 : Int) ≤ (at0 : Int) := by omega
  have y1 : (at0 : Int) + 2 ≤ (c : Int) := by omega
  have y2 : ((at0 : Int) + 2).toNat = at0 + 2 := by omega
  have HW : Hid (∀ W, Mods [gs] w3 W → ∀ i, i + 2 ≤ X.length → Calls Try.prog 61 #[.slice (some ⟨g, i, none⟩) 2 (c - i)] W fun e w' => e = .returned (.int .u64 (w16 X i : Nat)) ∧ W = w') := Lib.hid (fun W M i hi => by
    have hr := ((HO1.out.rd.mods0 HM3.out).mods M (fun _ q hq => by simp [Value.ownBlock] at hq; subst hq; simp; omega)).part i 2 hi
    have := refNumber_ok' W _ _ hr ((HXB.out.drop i).take 2) (by simp; omega)
    rwa [leN_two HXB.out i hi] at this)
  clear H2
  go_wp2_with fail
  have H6 := Lib.hid (show (rsX X).length = X.length - at0 by unfold rsX; rw [List.length_drop, HAT.out])
  refine (HW.out _ HK4.out at0 (by omega)).mono ?_
  rintro e wn ⟨rfl, rfl⟩
  generalize w3.setCell ⟨gs, 3, none⟩ (.string (nmX X)) = w4 at HG4 RA4 RB4 HM4 HK4 ⊢
  clear cx3 fx3 cx6 hsl3 hcv3 x7 RA3 RB3 HG3 y0 y1 y2 q8 t2 z1 z2
  have hu16 : ∀ i, IntKind.u16.wrap ((w16 X i : Nat) : Int) = ((w16 X i : Nat) : Int) := fun i => by have := w16_lt HXB.out i; rw [IntKind.wrap_u16]; omega
  have hua := hu16 at0
  have HU16 := Lib.hid hu16
  clear hu16
  have cx : w4.cell? ⟨gs, 23, none⟩ = some (.int .u16 ((0 : Nat) : Int)) := (cell_blk HG4.out 23).trans rfl
  have fx : w4.frozen? ⟨gs, 23, none⟩ = false := froz_blk HG4.out 23
  have HG5 : Hid ((w4.setCell ⟨gs, 23, none⟩ (.int .u16 (((w16 X at0) : Nat) : Int))).heap[gs]? = some (.cells ({ hdrS X (nmX X) with states := w16 X at0 } : Sen).cells 32 (0, 0))) := Lib.hid (heap_setCell (i := 23) (v := .int .u16 (((w16 X at0) : Nat) : Int)) HG4.out)
  have RA5 : Hid ((w4.setCell ⟨gs, 23, none⟩ (.int .u16 (((w16 X at0) : Nat) : Int))).heap[w.heap.size]? = some (.cells zS.cells 32 (0, 0))) := Lib.hid (heap_setCell_ne RA4.out (by show w.heap.size ≠ gs; omega))
  have RB5 : Hid ((w4.setCell ⟨gs, 23, none⟩ (.int .u16 (((w16 X at0) : Nat) : Int))).heap[w.heap.size + 1]? = some (.cells zS.cells 32 (0, 0))) := Lib.hid (heap_setCell_ne RB4.out (by show w.heap.size + 1 ≠ gs; omega))
  have HM5 := Lib.hid (HM4.out.setCell (p := ⟨gs, 23, none⟩) (.inr (by show w.heap.size ≤ gs; omega)) (.int .u16 (((w16 X at0) : Nat) : Int)))
  have HK5 := Lib.hid (HK4.out.setCell (p := ⟨gs, 23, none⟩) (.inl (by simp)) (.int .u16 (((w16 X at0) : Nat) : Int)))
  obtain ⟨a1, ha1⟩ : ∃ a1 : Nat, a1 = at0 + 2 := ⟨_, rfl⟩
  have eA1 : (at0 : Int) + 2 = (a1 : Int) := by omega
  have HA1 := Lib.hid ha1
  have l0 : (0 : Int) ≤ (a1 : Int) := by omega
  by_cases hlt : X.length < a1 + 4
  · have HR := Lib.hid (show errX X = 4 by
      have he : restErr true (rsX X) = 4 := by unfold restErr; rw [if_pos rfl, if_pos (by rw [H6.out]; omega)]
      rw [HXX.out, HD.out, he, if_pos (by decide)])
    have t4 : decide ((X.length : Int) < (a1 : Int) + 4) = true := decide_eq_true (by omega)
    clear hlt ha1 HXX
    go_wp2_with (first
      | (refine wpList_load_sen rfl (.tmp 4) rfl (SenBox.mk RB5.out) (by rfl) ?_)
      | (refine wpList_store_row (cs := zS.cells) rfl 32 (.tmp 2) (.tmp 168) rfl RA5.out (by rfl) (by rfl) rfl (Sen.infoS _) zS_one ?_; intro wz Rz Mz))
    have HMX := HM5.out.comp Mz (fun k hk => by simp at hk; exact .inr (by omega))
    refine bodyPost_ret (results_cell_row2 rfl _ _ w.heap.size _ _ _ _ rfl Rz Try.underlying32 rfl (Sen.infoS _)) rfl ?_
    have := HSE.out wz (by rw [HR.out]; decide) HMX
    rw [HR.out] at this
    exact this
  · by_cases hgt : a1 + 4 < X.length
    · have HR := Lib.hid (show errX X = 6 by
        have he : restErr true (rsX X) = 6 := by unfold restErr; rw [if_pos rfl, if_neg (by rw [H6.out]; omega), if_pos (by rw [H6.out]; omega)]
        rw [HXX.out, HD.out, he, if_pos (by decide)])
      have t4 : decide ((X.length : Int) < (a1 : Int) + 4) = false := decide_eq_false (by omega)
      have t5 : decide ((X.length : Int) > (a1 : Int) + 4) = true := decide_eq_true (by omega)
      clear hlt ha1 HXX hgt
      go_wp2_with (first
        | (refine wpList_load_sen rfl (.tmp 4) rfl (SenBox.mk RB5.out) (by rfl) ?_)
        | (refine wpList_store_row (cs := zS.cells) rfl 32 (.tmp 2) (.tmp 174) rfl RA5.out (by rfl) (by rfl) rfl (Sen.infoS _) zS_one ?_; intro wz Rz Mz))
      have HMX := HM5.out.comp Mz (fun k hk => by simp at hk; exact .inr (by omega))
      refine bodyPost_ret (results_cell_row2 rfl _ _ w.heap.size _ _ _ _ rfl Rz Try.underlying32 rfl (Sen.infoS _)) rfl ?_
      have := HSE.out wz (by rw [HR.out]; decide) HMX
      rw [HR.out] at this
      exact this
    · have hX6 : X.length = a1 + 4 := by omega
      have he0 : restErr (dsX X) (rsX X) = 0 := by
        rw [HD.out]
        unfold restErr
        rw [if_pos rfl, if_neg (by rw [H6.out]; omega), if_neg (by rw [H6.out]; omega)]
      have HE0 := Lib.hid he0
      have t4 : decide ((X.length : Int) < (a1 : Int) + 4) = false := decide_eq_false (by omega)
      have t5 : decide ((X.length : Int) > (a1 : Int) + 4) = false := decide_eq_false (by omega)
      have y1 : (a1 : Int) + 2 ≤ (c : Int) := by omega
      have y2 : ((a1 : Int) + 2).toNat = a1 + 2 := by omega
      have k1 : ¬ c = a1 := by omega
      have hl6 : a1 + 4 ≤ X.length := by omega
      have hc6 : a1 + 4 ≤ c := by omega
      clear hlt hgt ha1 hX6 he0
      go_wp2_with fail
      refine (HW.out _ HK5.out a1 (by omega)).mono ?_
      rintro e wn ⟨rfl, rfl⟩
      clear cx fx hua
      generalize w4.setCell ⟨gs, 23, none⟩ (.int .u16 ((w16 X at0 : Nat) : Int)) = w5 at HG5 RA5 RB5 HM5 HK5 ⊢
      have cx : w5.cell? ⟨gs, 24, none⟩ = some (.int .u16 ((0 : Nat) : Int)) := (cell_blk HG5.out 24).trans rfl
      have fx : w5.frozen? ⟨gs, 24, none⟩ = false := froz_blk HG5.out 24
      have HG6 : Hid ((w5.setCell ⟨gs, 24, none⟩ (.int .u16 (((w16 X a1) : Nat) : Int))).heap[gs]? = some (.cells ({ hdrS X (nmX X) with states := w16 X at0, asrt := w16 X a1 } : Sen).cells 32 (0, 0))) := Lib.hid (heap_setCell (i := 24) (v := .int .u16 (((w16 X a1) : Nat) : Int)) HG5.out)
      have RA6 : Hid ((w5.setCell ⟨gs, 24, none⟩ (.int .u16 (((w16 X a1) : Nat) : Int))).heap[w.heap.size]? = some (.cells zS.cells 32 (0, 0))) := Lib.hid (heap_setCell_ne RA5.out (by show w.heap.size ≠ gs; omega))
      have RB6 : Hid ((w5.setCell ⟨gs, 24, none⟩ (.int .u16 (((w16 X a1) : Nat) : Int))).heap[w.heap.size + 1]? = some (.cells zS.cells 32 (0, 0))) := Lib.hid (heap_setCell_ne RB5.out (by show w.heap.size + 1 ≠ gs; omega))
      have HM6 := Lib.hid (HM5.out.setCell (p := ⟨gs, 24, none⟩) (.inr (by show w.heap.size ≤ gs; omega)) (.int .u16 (((w16 X a1) : Nat) : Int)))
      have HK6 := Lib.hid (HK5.out.setCell (p := ⟨gs, 24, none⟩) (.inl (by simp)) (.int .u16 (((w16 X a1) : Nat) : Int)))
      have hub := HU16.out a1
      have y3 : (a1 : Int) + 2 ≤ (a1 : Int) + 4 := by omega
      have y4 : ((a1 : Int) + 4).toNat = a1 + 4 := by omega
      have y5 : (a1 : Int) + 4 ≤ (c : Int) := by omega
      have y6 : (0 : Int) ≤ (a1 : Int) + 2 := by omega
      have k2 : ¬ c = a1 + 2 := by omega
      have l2 : a1 + 4 - (a1 + 2) = 2 := by omega
      clear t4 t5 y1 k1
      go_wp2_with fail
      refine (HW.out _ HK6.out (a1 + 2) (by omega)).mono ?_
      rintro e wn ⟨rfl, rfl⟩
      clear cx fx hub y3 y4 y5 y6 k2 l2 y2
      generalize w5.setCell ⟨gs, 24, none⟩ (.int .u16 ((w16 X a1 : Nat) : Int)) = w6 at HG6 RA6 RB6 HM6 HK6 ⊢
      have cx : w6.cell? ⟨gs, 25, none⟩ = some (.int .u16 ((0 : Nat) : Int)) := (cell_blk HG6.out 25).trans rfl
      have fx : w6.frozen? ⟨gs, 25, none⟩ = false := froz_blk HG6.out 25
      have HG7 : Hid ((w6.setCell ⟨gs, 25, none⟩ (.int .u16 (((w16 X (a1 + 2)) : Nat) : Int))).heap[gs]? = some (.cells ({ hdrS X (nmX X) with states := w16 X at0, asrt := w16 X a1, deas := w16 X (a1 + 2) } : Sen).cells 32 (0, 0))) := Lib.hid (heap_setCell (i := 25) (v := .int .u16 (((w16 X (a1 + 2)) : Nat) : Int)) HG6.out)
      have RA7 : Hid ((w6.setCell ⟨gs, 25, none⟩ (.int .u16 (((w16 X (a1 + 2)) : Nat) : Int))).heap[w.heap.size]? = some (.cells zS.cells 32 (0, 0))) := Lib.hid (heap_setCell_ne RA6.out (by show w.heap.size ≠ gs; omega))
      have RB7 : Hid ((w6.setCell ⟨gs, 25, none⟩ (.int .u16 (((w16 X (a1 + 2)) : Nat) : Int))).heap[w.heap.size + 1]? = some (.cells zS.cells 32 (0, 0))) := Lib.hid (heap_setCell_ne RB6.out (by show w.heap.size + 1 ≠ gs; omega))
      have HM7 := Lib.hid (HM6.out.setCell (p := ⟨gs, 25, none⟩) (.inr (by show w.heap.size ≤ gs; omega)) (.int .u16 (((w16 X (a1 + 2)) : Nat) : Int)))
      have HK7 := Lib.hid (HK6.out.setCell (p := ⟨gs, 25, none⟩) (.inl (by simp)) (.int .u16 (((w16 X (a1 + 2)) : Nat) : Int)))
      have huc := HU16.out (a1 + 2)
      have hw16 : ∀ k, w16 (rsX X) k = w16 X (at0 + k) := fun k => by
        unfold rsX w16
        rw [← HAT.out]
        simp only [List.getD_eq_getElem?_getD, List.getElem?_drop, Nat.add_assoc]
      have hsx : ∀ pv, senX X pv = { hdrS X (nmX X) with states := w16 X at0, asrt := w16 X a1, deas := w16 X (a1 + 2) } := fun pv => by
        unfold senX restS
        rw [if_pos (show (hdrS X (nmX X)).disc = true from HD.out), hw16, hw16, hw16, HA1.out]
        rfl
      have hpx : ptsX X = [] := by unfold ptsX restP; rw [if_pos HD.out]
      have HSX := Lib.hid (hsx (.slice none 0 0))
      have HPX := Lib.hid hpx
      have HIS : Hid (∀ W, IsSen W (senX X (.slice none 0 0)) (ptsX X)) := Lib.hid (fun W => senX_is HXB.out HE0.out (by rw [hpx]; exact RdPts.nil _))
      have HXY := Lib.hid (show errX X = if validB (senX X (.slice none 0 0)) (ptsX X) then 0 else 1 by rw [HXX.out, if_neg (fun h => h HE0.out)])
      rw [← HSX.out] at HG7
      clear hsx hw16 hpx HXX
      have hone : (senX X (.slice none 0 0)).conv.pts.oneCell' = true := (HIS.out w).conv.rd.one
      generalize hSZ : senX X (.slice none 0 0) = SZ at HG7 HIS HXY hone
      have HSZ := Lib.hid hSZ
      clear hSZ
      go_wp2_with (refine wpList_load_sen rfl (.tmp 7) rfl (SenBox.mk HG7.out) (by rfl) ?_)
      clear cx fx huc
      generalize w6.setCell ⟨gs, 25, none⟩ (.int .u16 ((w16 X (a1 + 2) : Nat) : Int)) = w7 at HG7 RA7 RB7 HM7 HK7 ⊢
      refine (refValid_ok w7 SZ (ptsX X) (HIS.out w7)).mono ?_
      rintro e w8 ⟨rfl, M8⟩
      have HM8 := Lib.hid (HM7.out.trans M8)
      have HG8 := Lib.hid (M8.heap HG7.out (by simp))
      have RA8 := Lib.hid (M8.heap RA7.out (by simp))
      have RB8 := Lib.hid (M8.heap RB7.out (by simp))
      clear M8
      cases hvb : validB SZ (ptsX X) with
      | false =>
        have HR := Lib.hid (show errX X = 1 by rw [HXY.out, hvb]; rfl)
        clear hvb
        go_wp2_with (first
          | (refine wpList_load_sen rfl (.tmp 4) rfl (SenBox.mk RB8.out) (by rfl) ?_)
          | (refine wpList_store_row (cs := zS.cells) rfl 32 (.tmp 2) (.tmp 195) rfl RA8.out (by rfl) (by rfl) rfl (Sen.infoS _) zS_one ?_; intro wz Rz Mz))
        have HMX := HM8.out.comp Mz (fun k hk => by simp at hk; exact .inr (by omega))
        refine bodyPost_ret (results_cell_row2 rfl _ _ w.heap.size _ _ _ _ rfl Rz Try.underlying32 rfl (Sen.infoS _)) rfl ?_
        have := HSE.out wz (by rw [HR.out]; decide) HMX
        rw [HR.out] at this
        exact this
      | true =>
        have HR := Lib.hid (show errX X = 0 by rw [HXY.out, hvb]; rfl)
        clear hvb
        go_wp2_with (first
          | (refine wpList_load_sen rfl (.tmp 7) rfl (SenBox.mk HG8.out) (by rfl) ?_)
          | (refine wpList_store_row (cs := SZ.cells) rfl 32 (.tmp 2) (.tmp 196) rfl RA8.out (by rfl) (by rfl) rfl (Sen.infoS _) (Sen.one _ hone) ?_; intro wz Rz Mz))
        have HMX := HM8.out.comp Mz (fun k hk => by simp at hk; exact .inr (by omega))
        refine bodyPost_ret (results_cell_row2 rfl _ _ w.heap.size _ _ _ _ rfl Rz Try.underlying32 rfl (Sen.infoS _)) rfl ?_
        refine HSU.out _ _ HR.out ⟨.slice none 0 0, by rw [HSZ.out]; rfl, ?_, HMX⟩
        rw [HPX.out]
        exact OwnPts.nil _ _
end Go.Proofs.Ytijjkonephjodaa
