/- sensor.Decode: contract. -/
import Derived.Test.YtgjjmiaiclhidaaRestB
import Derived.Test.YtgjjmiaiclhidaaSenDecP
namespace Go.Proofs.Ytgjjmiaiclhidaa
open Go.RowKit

set_option maxRecDepth 100000 in
set_option maxHeartbeats 4000000 in
theorem senDec_err (w : World) (v : Value) (A : List Int) (hv : Rd w v (u8s A)) (hb : Bytes A) (hl : A.length ≤ 100000) (hc : A.length < 9 ∨ sum8 A ≠ 0) :
    Calls Try.prog 34 #[v] w fun e w' => SDecRes w A e w' := by
  have HV := Lib.hid hv
  have HB := Lib.hid hb
  have HL := Lib.hid hl
  have HE := Lib.hid (show ∀ W, errS A ≠ 0 → Mods [] w W → SDecRes w A (.returned (.tuple #[.agg zS.cells, .int .i64 (errS A)])) W from fun W h M => by unfold SDecRes; rw [if_neg h]; exact ⟨rfl, M⟩)
  have HU := Lib.hid (show errS A = if A.length < 9 then 4 else if sum8 A ≠ 0 then 5 else errX A.dropLast from rfl)
  obtain ⟨ad, cap, rfl, h1, h2, -⟩ := hv.u8
  have h3 : cap ≤ 9223372036854775807 := h2
  clear hv hb h2 hl
  have R0 := Lib.hid (heap_alloc_new w (.cells zS.cells 32))
  have M0 := Lib.hid ((Mods.refl (S := []) (w := w)).alloc (.cells zS.cells 32))
  by_cases h9 : A.length < 9
  · have HR := Lib.hid (HU.out.trans (if_pos h9))
    have d1 : decide ((A.length : Int) < 9) = true := decide_eq_true (by omega)
    clear h9 hc
    go_enter Try.func34, Try.ntmps34
    go_wp2_with (refine wpList_store_row (cs := zS.cells) rfl 32 (.tmp 2) (.tmp 10) rfl R0.out (by rfl) (by rfl) rfl (Sen.infoS _) zS_one ?_; intro wz Rz Mz)
    have HMX := M0.out.comp Mz (fun k hk => by simp at hk; exact .inr (by omega))
    refine bodyPost_ret (results_cell_row2 rfl _ _ w.heap.size _ _ _ _ rfl Rz Try.underlying32 rfl (Sen.infoS _)) rfl ?_
    have := HE.out wz (by rw [HR.out]; decide) HMX
    rw [HR.out] at this
    exact this
  · have hs : sum8 A ≠ 0 := by rcases hc with h | h; exact absurd h h9; exact h
    have HR := Lib.hid ((HU.out.trans (if_neg h9)).trans (if_pos hs))
    have HS := Lib.hid hs
    have HN := Lib.hid (show A ≠ [] from fun h => h9 (by rw [h]; decide))
    have d1 : decide ((A.length : Int) < 9) = false := decide_eq_false (by omega)
    clear h9 hc hs
    go_enter Try.func34, Try.ntmps34
    go_wp2_with fail
    refine (open8_ok _ _ A (HV.out.mods0 M0.out) HB.out HL.out).mono ?_
    rintro e w1 hx
    unfold OpenRes at hx
    rw [if_neg HN.out, if_neg HS.out] at hx
    obtain ⟨rfl, M1⟩ := hx
    have R1 := Lib.hid (M1.heap R0.out (by simp))
    have HM1 := Lib.hid (M0.out.trans M1)
    clear M1
    go_wp2_with (refine wpList_store_row (cs := zS.cells) rfl 32 (.tmp 2) (.tmp 18) rfl R1.out (by rfl) (by rfl) rfl (Sen.infoS _) zS_one ?_; intro wz Rz Mz)
    have HMX := HM1.out.comp Mz (fun k hk => by simp at hk; exact .inr (by omega))
    refine bodyPost_ret (results_cell_row2 rfl _ _ w.heap.size _ _ _ _ rfl Rz Try.underlying32 rfl (Sen.infoS _)) rfl ?_
    have := HE.out wz (by rw [HR.out]; decide) HMX
    rw [HR.out] at this
    exact this
set_option maxRecDepth 100000 in
set_option maxHeartbeats 4000000 in
theorem senDec_form (w : World) (v : Value) (A : List Int) (hv : Rd w v (u8s A)) (hb : Bytes A) (hl : A.length ≤ 100000) (h9 : ¬ A.length < 9) (hs : sum8 A = 0) (hc : A.dropLast.getD 0 0 ≠ 1 ∨ 32 ≤ A.dropLast.getD 6 0 ∨ A.dropLast.length < 8 + b8 A.dropLast 7) :
    Calls Try.prog 34 #[v] w fun e w' => SDecRes w A e w' := by
  have HV := Lib.hid hv
  have HB := Lib.hid hb
  have HL := Lib.hid hl
  have HE := Lib.hid (show ∀ W, errS A ≠ 0 → Mods [] w W → SDecRes w A (.returned (.tuple #[.agg zS.cells, .int .i64 (errS A)])) W from fun W h M => by unfold SDecRes; rw [if_neg h]; exact ⟨rfl, M⟩)
  have HU := Lib.hid (show errS A = if A.length < 9 then 4 else if sum8 A ≠ 0 then 5 else errX A.dropLast from rfl)
  obtain ⟨ad, cap, rfl, h1, h2, -⟩ := hv.u8
  have h3 : cap ≤ 9223372036854775807 := h2
  clear hv hb h2 hl
  have R0 := Lib.hid (heap_alloc_new w (.cells zS.cells 32))
  have M0 := Lib.hid ((Mods.refl (S := []) (w := w)).alloc (.cells zS.cells 32))
  have HF := Lib.hid hc
  clear hc
  -- hs : sum8 A = 0, h9 : ¬ A.length < 9
  have HRX := Lib.hid (show errS A = errX A.dropLast from (HU.out.trans (if_neg h9)).trans (if_neg (fun h => h hs)))
  have HS := Lib.hid hs
  have HN := Lib.hid (show A ≠ [] from fun h => h9 (by rw [h]; decide))
  have d1 : decide ((A.length : Int) < 9) = false := decide_eq_false (by omega)
  have hXl : A.dropLast.length = A.length - 1 := List.length_dropLast
  have hXb : Bytes A.dropLast := by rw [List.dropLast_eq_take]; exact HB.out.take _
  have hSD : ∀ e W, SDecRes w A e W = SDecRes w A e W := fun _ _ => rfl
  clear hSD
  have HSU : Hid (∀ e W, errX A.dropLast = 0 → (∃ pv, e = .returned (.tuple #[.agg (senX A.dropLast pv).cells, .int .i64 0]) ∧ OwnPts W w.heap.size pv (ptsX A.dropLast) ∧ Mods [] w W) → SDecRes w A e W) := Lib.hid (fun e W h0 h => by unfold SDecRes; rw [HRX.out, if_pos h0]; exact h)
  have HSE : Hid (∀ W, errX A.dropLast ≠ 0 → Mods [] w W → SDecRes w A (.returned (.tuple #[.agg zS.cells, .int .i64 (errX A.dropLast)])) W) := Lib.hid (fun W h M => by have := HE.out W (by rw [HRX.out]; exact h) M; rw [HRX.out] at this; exact this)
  have hX8 : 8 ≤ A.dropLast.length := by omega
  have hXc : A.dropLast.length ≤ 100000 := by have := HL.out; omega
  have HOP : Hid (∀ W, Mods [] w W → Calls Try.prog 82 #[.slice ad A.length cap] W (fun e w' => ∃ g c, e = .returned (.tuple #[.slice (some ⟨g, 0, none⟩) A.dropLast.length c, .int .i64 0]) ∧ OwnB w' W.heap.size (.slice (some ⟨g, 0, none⟩) A.dropLast.length c) A.dropLast ∧ Mods [] W w')) := Lib.hid (fun W M => by
    refine (open8_ok _ _ A (HV.out.mods0 M) HB.out HL.out).mono ?_
    rintro e w1 hx
    unfold OpenRes at hx
    rw [if_neg HN.out, if_pos HS.out] at hx
    obtain ⟨v', rfl, O, M1⟩ := hx
    obtain ⟨g, c, cur, hv', _⟩ := owns_form O (by rw [u8s_length]; omega)
    rw [u8s_length] at hv'
    subst hv'
    exact ⟨g, c, rfl, O, M1⟩)
  clear hs h9 hXl HRX HS HN HV HE HU HL HB
  generalize A.dropLast = X at *
  go_enter Try.func34, Try.ntmps34
  go_wp2_with fail
  refine (HOP.out _ M0.out).mono ?_
  rintro e w1 ⟨g, c, rfl, O1, M1⟩
  have hg0 : w.heap.size + 1 ≤ g := by have hgl := (O1.lt g rfl).1; (simpa using hgl)
  have HM1 := Lib.hid (M0.out.trans M1)
  have R1 := Lib.hid (M1.heap R0.out (by simp))
  have HO1 := Lib.hid O1
  skip
  have HCB : Hid (∀ W, Mods [] w1 W → ∀ i, i < X.length → W.cell? ⟨g, i, none⟩ = some (.int .u8 (b8 X i : Nat))) := Lib.hid (fun W M i hi => by
    obtain ⟨_, _, he, _, _, hc⟩ := O1.rd.u8
    injection he with he1 _ _
    obtain ⟨b, o, h, hx⟩ := hc i hi
    rw [← he1] at h
    cases h
    rw [Nat.zero_add, u8_getD hXb] at hx
    exact M.cell hx (by simp))
  have hc1 : X.length ≤ c ∧ c ≤ 9223372036854775807 := by
    obtain ⟨_, _, he, h1, h2, hc⟩ := O1.rd.u8
    injection he with _ _ he3
    subst he3
    exact ⟨h1, h2⟩
  obtain ⟨hc1, hc2⟩ := hc1
  have HXB := Lib.hid hXb
  clear O1 M1 M0 R0 HOP hXb
  have i0 : (0 : Int) < (X.length : Int) := by omega
  have i1 : (1 : Int) < (X.length : Int) := by omega
  have i2 : (2 : Int) < (X.length : Int) := by omega
  have i3 : (3 : Int) < (X.length : Int) := by omega
  have i4 : (4 : Int) < (X.length : Int) := by omega
  have i5 : (5 : Int) < (X.length : Int) := by omega
  have i6 : (6 : Int) < (X.length : Int) := by omega
  have i7 : (7 : Int) < (X.length : Int) := by omega
  have x0 := HCB.out w1 Mods.refl 0 (by omega)
  have x6 := HCB.out w1 Mods.refl 6 (by omega)
  have x7 := HCB.out w1 Mods.refl 7 (by omega)
  have HX0 := Lib.hid (u8_getD HXB.out 0)
  have HX6 := Lib.hid (u8_getD HXB.out 6)
  have b7 := b8_lt HXB.out 7
  have b6 := b8_lt HXB.out 6
  have hc := HF.out
  rw [HX0.out, HX6.out] at hc
  by_cases hf : (b8 X 0 : Int) ≠ 1 ∨ (32 : Int) ≤ (b8 X 6 : Int)
  · have HR := Lib.hid (show errX X = 6 by unfold errX; rw [HX0.out, HX6.out, if_pos hf])
    clear hc
    by_cases hf0 : (b8 X 0 : Int) = 1
    · have hf6 : (32 : Int) ≤ (b8 X 6 : Int) := by omega
      have q0 : ((b8 X 0 : Int) != 1) = false := by simpa using hf0
      have q6 : decide ((b8 X 6 : Int) ≥ 32) = true := decide_eq_true hf6
      clear hf hf0 HF
      go_wp2_with (refine wpList_store_row (cs := zS.cells) rfl 32 (.tmp 2) (.tmp 30) rfl R1.out (by rfl) (by rfl) rfl (Sen.infoS _) zS_one ?_; intro wz Rz Mz)
      have HMX := HM1.out.comp Mz (fun k hk => by simp at hk; exact .inr (by omega))
      refine bodyPost_ret (results_cell_row2 rfl _ _ w.heap.size _ _ _ _ rfl Rz Try.underlying32 rfl (Sen.infoS _)) rfl ?_
      have := HSE.out wz (by rw [HR.out]; decide) HMX
      rw [HR.out] at this
      exact this
    · have q0 : ((b8 X 0 : Int) != 1) = true := by simpa using hf0
      clear hf hf0 HF
      go_wp2_with (refine wpList_store_row (cs := zS.cells) rfl 32 (.tmp 2) (.tmp 30) rfl R1.out (by rfl) (by rfl) rfl (Sen.infoS _) zS_one ?_; intro wz Rz Mz)
      have HMX := HM1.out.comp Mz (fun k hk => by simp at hk; exact .inr (by omega))
      refine bodyPost_ret (results_cell_row2 rfl _ _ w.heap.size _ _ _ _ rfl Rz Try.underlying32 rfl (Sen.infoS _)) rfl ?_
      have := HSE.out wz (by rw [HR.out]; decide) HMX
      rw [HR.out] at this
      exact this
  · have hl8 : X.length < 8 + b8 X 7 := by omega
    have HR := Lib.hid (show errX X = 4 by unfold errX; rw [HX0.out, HX6.out, if_neg hf, if_pos hl8])
    have q0 : ((b8 X 0 : Int) != 1) = false := by simp; omega
    have q6 : decide ((b8 X 6 : Int) ≥ 32) = false := decide_eq_false (by omega)
    have ew : IntKind.i64.wrap (b8 X 7 : Int) = (b8 X 7 : Int) := IntWalk.i64_in _ (by omega)
    have q8 : decide ((X.length : Int) < 8 + (b8 X 7 : Int)) = true := decide_eq_true (by omega)
    clear hc hf HF hl8
    go_wp2_with (refine wpList_store_row (cs := zS.cells) rfl 32 (.tmp 2) (.tmp 40) rfl R1.out (by rfl) (by rfl) rfl (Sen.infoS _) zS_one ?_; intro wz Rz Mz)
    have HMX := HM1.out.comp Mz (fun k hk => by simp at hk; exact .inr (by omega))
    refine bodyPost_ret (results_cell_row2 rfl _ _ w.heap.size _ _ _ _ rfl Rz Try.underlying32 rfl (Sen.infoS _)) rfl ?_
    have := HSE.out wz (by rw [HR.out]; decide) HMX
    rw [HR.out] at this
    exact this
theorem RestRes.val {w w' : World} {S : Sen} {B : List Int} {e : Ending} (hp : S.conv.pts.oneCell' = true) (h : RestRes w S B e w') : ∃ S4 : Sen, e = .returned (.tuple #[.agg S4.cells, .int .i64 (restErr S.disc B)]) ∧ S4.conv.pts.oneCell' = true ∧ (restErr S.disc B = 0 → ∃ pv, S4 = restS S B pv ∧ OwnPts w' w.heap.size pv (restP S.disc B)) ∧ Mods [] w w' := by
  unfold RestRes at h
  by_cases h0 : restErr S.disc B = 0
  · rw [if_pos h0] at h
    obtain ⟨pv, rfl, O, M⟩ := h
    refine ⟨restS S B pv, by rw [h0], ?_, fun _ => ⟨pv, rfl, O⟩, M⟩
    unfold restS
    split
    · exact hp
    · show (decC B pv).pts.oneCell' = true
      have : (decC B pv).pts = pv := by unfold decC; split <;> rfl
      rw [this]
      exact O.rd.one
  · rw [if_neg h0] at h
    obtain ⟨⟨S', h1, rfl⟩, M⟩ := h
    exact ⟨S', rfl, h1, fun h => absurd h h0, M⟩
set_option maxRecDepth 100000 in
set_option maxHeartbeats 8000000 in
theorem senDec_main (w : World) (v : Value) (A : List Int) (hv : Rd w v (u8s A)) (hb : Bytes A) (hl : A.length ≤ 100000) (h9 : ¬ A.length < 9) (hs : sum8 A = 0) (hc : A.dropLast.getD 0 0 = 1 ∧ A.dropLast.getD 6 0 < 32 ∧ 8 + b8 A.dropLast 7 ≤ A.dropLast.length) :
    Calls Try.prog 34 #[v] w fun e w' => SDecRes w A e w' := by
  have HV := Lib.hid hv
  have HB := Lib.hid hb
  have HL := Lib.hid hl
  have HE := Lib.hid (show ∀ W, errS A ≠ 0 → Mods [] w W → SDecRes w A (.returned (.tuple #[.agg zS.cells, .int .i64 (errS A)])) W from fun W h M => by unfold SDecRes; rw [if_neg h]; exact ⟨rfl, M⟩)
  have HU := Lib.hid (show errS A = if A.length < 9 then 4 else if sum8 A ≠ 0 then 5 else errX A.dropLast from rfl)
  obtain ⟨ad, cap, rfl, h1, h2, -⟩ := hv.u8
  have h3 : cap ≤ 9223372036854775807 := h2
  clear hv hb h2 hl
  have R0 := Lib.hid (heap_alloc_new w (.cells zS.cells 32))
  have M0 := Lib.hid ((Mods.refl (S := []) (w := w)).alloc (.cells zS.cells 32))
  have HF := Lib.hid hc
  clear hc
  -- hs : sum8 A = 0, h9 : ¬ A.length < 9
  have HRX := Lib.hid (show errS A = errX A.dropLast from (HU.out.trans (if_neg h9)).trans (if_neg (fun h => h hs)))
  have HS := Lib.hid hs
  have HN := Lib.hid (show A ≠ [] from fun h => h9 (by rw [h]; decide))
  have d1 : decide ((A.length : Int) < 9) = false := decide_eq_false (by omega)
  have hXl : A.dropLast.length = A.length - 1 := List.length_dropLast
  have hXb : Bytes A.dropLast := by rw [List.dropLast_eq_take]; exact HB.out.take _
  have hSD : ∀ e W, SDecRes w A e W = SDecRes w A e W := fun _ _ => rfl
  clear hSD
  have HSU : Hid (∀ e W, errX A.dropLast = 0 → (∃ pv, e = .returned (.tuple #[.agg (senX A.dropLast pv).cells, .int .i64 0]) ∧ OwnPts W w.heap.size pv (ptsX A.dropLast) ∧ Mods [] w W) → SDecRes w A e W) := Lib.hid (fun e W h0 h => by unfold SDecRes; rw [HRX.out, if_pos h0]; exact h)
  have HSE : Hid (∀ W, errX A.dropLast ≠ 0 → Mods [] w W → SDecRes w A (.returned (.tuple #[.agg zS.cells, .int .i64 (errX A.dropLast)])) W) := Lib.hid (fun W h M => by have := HE.out W (by rw [HRX.out]; exact h) M; rw [HRX.out] at this; exact this)
  have hX8 : 8 ≤ A.dropLast.length := by omega
  have hXc : A.dropLast.length ≤ 100000 := by have := HL.out; omega
  have HOP : Hid (∀ W, Mods [] w W → Calls Try.prog 82 #[.slice ad A.length cap] W (fun e w' => ∃ g c, e = .returned (.tuple #[.slice (some ⟨g, 0, none⟩) A.dropLast.length c, .int .i64 0]) ∧ OwnB w' W.heap.size (.slice (some ⟨g, 0, none⟩) A.dropLast.length c) A.dropLast ∧ Mods [] W w')) := Lib.hid (fun W M => by
    refine (open8_ok _ _ A (HV.out.mods0 M) HB.out HL.out).mono ?_
    rintro e w1 hx
    unfold OpenRes at hx
    rw [if_neg HN.out, if_pos HS.out] at hx
    obtain ⟨v', rfl, O, M1⟩ := hx
    obtain ⟨g, c, cur, hv', _⟩ := owns_form O (by rw [u8s_length]; omega)
    rw [u8s_length] at hv'
    subst hv'
    exact ⟨g, c, rfl, O, M1⟩)
  clear hs h9 hXl HRX HS HN HV HE HU HL HB
  generalize A.dropLast = X at *
  go_enter Try.func34, Try.ntmps34
  go_wp2_with fail
  refine (HOP.out _ M0.out).mono ?_
  rintro e w1 ⟨g, c, rfl, O1, M1⟩
  have hg0 : w.heap.size + 1 ≤ g := by have hgl := (O1.lt g rfl).1; (simpa using hgl)
  have HM1 := Lib.hid (M0.out.trans M1)
  have R1 := Lib.hid (M1.heap R0.out (by simp))
  have HO1 := Lib.hid O1
  skip
  have HCB : Hid (∀ W, Mods [] w1 W → ∀ i, i < X.length → W.cell? ⟨g, i, none⟩ = some (.int .u8 (b8 X i : Nat))) := Lib.hid (fun W M i hi => by
    obtain ⟨_, _, he, _, _, hc⟩ := O1.rd.u8
    injection he with he1 _ _
    obtain ⟨b, o, h, hx⟩ := hc i hi
    rw [← he1] at h
    cases h
    rw [Nat.zero_add, u8_getD hXb] at hx
    exact M.cell hx (by simp))
  have hc1 : X.length ≤ c ∧ c ≤ 9223372036854775807 := by
    obtain ⟨_, _, he, h1, h2, hc⟩ := O1.rd.u8
    injection he with _ _ he3
    subst he3
    exact ⟨h1, h2⟩
  obtain ⟨hc1, hc2⟩ := hc1
  have HXB := Lib.hid hXb
  clear O1 M1 M0 R0 HOP hXb
  have i0 : (0 : Int) < (X.length : Int) := by omega
  have i1 : (1 : Int) < (X.length : Int) := by omega
  have i2 : (2 : Int) < (X.length : Int) := by omega
  have i3 : (3 : Int) < (X.length : Int) := by omega
  have i4 : (4 : Int) < (X.length : Int) := by omega
  have i5 : (5 : Int) < (X.length : Int) := by omega
  have i6 : (6 : Int) < (X.length : Int) := by omega
  have i7 : (7 : Int) < (X.length : Int) := by omega
  have x0 := HCB.out w1 Mods.refl 0 (by omega)
  have x6 := HCB.out w1 Mods.refl 6 (by omega)
  have x7 := HCB.out w1 Mods.refl 7 (by omega)
  have HX0 := Lib.hid (u8_getD HXB.out 0)
  have HX6 := Lib.hid (u8_getD HXB.out 6)
  have b7 := b8_lt HXB.out 7
  have b6 := b8_lt HXB.out 6
  obtain ⟨f0, f6, f7⟩ := HF.out
  have HXX := Lib.hid (show errX X = if restErr (dsX X) (rsX X) ≠ 0 then restErr (dsX X) (rsX X) else if validB (senX X (.slice none 0 0)) (ptsX X) then 0 else 1 by unfold errX; rw [if_neg (by omega), if_neg (by omega)])
  have HH6 : Hid (X.getD 6 0 / 4 = X.getD 6 0 / 4) := Lib.hid rfl
  rw [HX0.out] at f0
  rw [HX6.out] at f6
  have q0 : ((b8 X 0 : Int) != 1) = false := by simpa using f0
  have q6 : decide ((b8 X 6 : Int) ≥ 32) = false := decide_eq_false (by omega)
  have ew : IntKind.i64.wrap (b8 X 7 : Int) = (b8 X 7 : Int) := IntWalk.i64_in _ (by omega)
  have q8 : decide ((X.length : Int) < 8 + (b8 X 7 : Int)) = false := decide_eq_false (by omega)
  clear f0 HF HX0 HH6
  go_wp2_with fail
  try dsimp only [Act.put]
  have z0 : (0 : Int) ≤ 8 + (b8 X 7 : Int) := by omega
  have z1 : (8 : Int) ≤ 8 + (b8 X 7 : Int) := by omega
  have z2 : 8 + (b8 X 7 : Int) ≤ (c : Int) := by omega
  have z3 : (8 + (b8 X 7 : Int)).toNat = 8 + b8 X 7 := by omega
  have z4 : 8 + (b8 X 7 : Int) ≤ (X.length : Int) := by omega
  obtain ⟨N, hN⟩ : ∃ N : Nat, N = b8 X 7 := ⟨_, rfl⟩
  obtain ⟨nm, hnm⟩ : ∃ nm, nm = nmX X := ⟨_, rfl⟩
  obtain ⟨ad8, had8⟩ : ∃ ad8 : Option Addr, ad8 = if c = 8 then some ⟨g, 0, none⟩ else some ⟨g, 8, none⟩ := ⟨_, rfl⟩
  have HSL : Hid (∀ W, Mods [] w1 W → (Instr.sliceAt 33 (.slice (some ⟨g, 0, none⟩) X.length c) (some (.int .i64 8)) (some (.int .i64 (8 + (b8 X 7 : Int)))) none).run Try.prog W = .ok (.slice ad8 (b8 X 7) (c - 8)) W) := Lib.hid (fun W M => by
    rw [had8]
    go_simp
    try (split <;> simp_all))
  have HCV : Hid (∀ W, Mods [] w1 W → (convert 33 9 (.slice ad8 (b8 X 7) (c - 8))).run Try.prog W = .ok (.string (nmX X)) W) := Lib.hid (fun W M => by
    have hr := (HO1.out.rd.mods0 M)
    have hR : ∀ b o, ad8 = some ⟨b, o, none⟩ → ∀ i, i < b8 X 7 → W.cell? ⟨b, o + i, none⟩ = some (.int .u8 (((X.drop 8).take (b8 X 7)).getD i 0)) := by
      intro b o h i hi
      have h5 : W.cell? ⟨g, 8 + i, none⟩ = _ := HCB.out W M (8 + i) (by omega)
      rw [had8] at h
      have hc8 : ¬ c = 8 := by omega
      rw [if_neg hc8] at h
      cases h
      rw [h5, b8_cast HXB.out, List.getD_eq_getElem?_getD, List.getD_eq_getElem?_getD, List.getElem?_take, if_pos hi, List.getElem?_drop]
    have hN : (nmX X) = strOfNums ((X.drop 8).take (b8 X 7)) := by unfold nmX; exact strOf_nums _
    rw [hN]
    obtain ⟨b, o, h⟩ : ∃ b o, ad8 = some ⟨b, o, none⟩ := by rw [had8]; split; exact ⟨_, _, rfl⟩; exact ⟨_, _, rfl⟩
    have h6 := hR b o h
    rw [h]
    exact run_convert_bytes_arg (P := Try.prog) W _ _ Try.underlying33 Try.underlying5 b o _ _ _ (by simp; omega) h6 _ Try.underlying9)
  have hA1 := and1_u8 (b8 X 6) b6
  have hA2 := and2_u8 (b8 X 6) b6
  have ew8 : IntKind.u8.wrap ((b8 X 6 : Int) / 4) = (b8 X 6 : Int) / 4 := by rw [IntKind.wrap_u8]; omega
  have ew6 : IntKind.i64.wrap ((b8 X 6 : Int) / 4) = (b8 X 6 : Int) / 4 := IntWalk.i64_in _ (by omega)
  clear hN hnm N nm x0 x6 x7 q0 q6 q8 ew had8
  have eHD : Hid (hdrS X (nmX X) = ⟨b8 X 1, b8 X 2, b8 X 3, nmX X, b8 X 4, b8 X 5, decide ((b8 X 6 : Int) % 2 = 1), zC, 0, 0, 0, 0, 0, 0, 0, 0, 0, 0, 0, 0, decide ((b8 X 6 : Int) / 2 % 2 = 1), (b8 X 6 : Int) / 4⟩) := Lib.hid (by unfold hdrS; rw [HX6.out])
  refine heldStart (S := fun W => Mods [] w1 W) 38 rfl (by kernel_rfl) (Mods.refl.drew) (fun hHeld => ?_)
  refine takeD (i := 0) (d := 41) (v := ?_) rfl rfl (by kernel_rfl) (by kernel_rfl) (by kernel_rfl) (fun _ _ _ h => h) (Or.inl ⟨by rfl, ?_⟩) hHeld ?_
  rotate_left 1
  · (intro w hSw; (try dsimp only at hSw); go_simp; (try with_reducible rfl))
  simp only [List.setIfInBounds_toArray, List.set_cons_zero, List.set_cons_succ]
  refine takeD (i := 1) (d := 42) (v := ?_) rfl rfl (by kernel_rfl) (by kernel_rfl) (by kernel_rfl) (fun _ _ _ h => h) (Or.inl ⟨by rfl, ?_⟩) hHeld ?_
  rotate_left 1
  · (intro w hSw; (try dsimp only at hSw); go_simp; (try with_reducible rfl))
  simp only [List.setIfInBounds_toArray, List.set_cons_zero, List.set_cons_succ]
  refine takeD (i := 2) (d := 43) (v := .int .u8 (b8 X 1 : Nat)) rfl rfl (by kernel_rfl) (by kernel_rfl) (by kernel_rfl) (fun _ _ _ h => h) (Or.inl ⟨by rfl, fun w hSw => ?_⟩) hHeld ?_
  · have cst := HCB.out w hSw 1 (by omega)
    go_simp
  simp only [List.setIfInBounds_toArray, List.set_cons_zero, List.set_cons_succ]
  refine takeD (i := 3) (d := 44) (v := ?_) rfl rfl (by kernel_rfl) (by kernel_rfl) (by kernel_rfl) (fun _ _ _ h => h) (Or.inl ⟨by rfl, ?_⟩) hHeld ?_
  rotate_left 1
  · (intro w hSw; (try dsimp only at hSw); go_simp; (try with_reducible rfl))
  simp only [List.setIfInBounds_toArray, List.set_cons_zero, List.set_cons_succ]
  refine takeD (i := 4) (d := 45) (v := ?_) rfl rfl (by kernel_rfl) (by kernel_rfl) (by kernel_rfl) (fun _ _ _ h => h) (Or.inl ⟨by rfl, ?_⟩) hHeld ?_
  rotate_left 1
  · (intro w hSw; (try dsimp only at hSw); go_simp; (try with_reducible rfl))
  simp only [List.setIfInBounds_toArray, List.set_cons_zero, List.set_cons_succ]
  refine takeD (i := 5) (d := 46) (v := .int .u8 (b8 X 2 : Nat)) rfl rfl (by kernel_rfl) (by kernel_rfl) (by kernel_rfl) (fun _ _ _ h => h) (Or.inl ⟨by rfl, fun w hSw => ?_⟩) hHeld ?_
  · have cst := HCB.out w hSw 2 (by omega)
    go_simp
  simp only [List.setIfInBounds_toArray, List.set_cons_zero, List.set_cons_succ]
  refine takeD (i := 6) (d := 47) (v := ?_) rfl rfl (by kernel_rfl) (by kernel_rfl) (by kernel_rfl) (fun _ _ _ h => h) (Or.inl ⟨by rfl, ?_⟩) hHeld ?_
  rotate_left 1
  · (intro w hSw; (try dsimp only at hSw); go_simp; (try with_reducible rfl))
  simp only [List.setIfInBounds_toArray, List.set_cons_zero, List.set_cons_succ]
  refine takeD (i := 7) (d := 48) (v := ?_) rfl rfl (by kernel_rfl) (by kernel_rfl) (by kernel_rfl) (fun _ _ _ h => h) (Or.inl ⟨by rfl, ?_⟩) hHeld ?_
  rotate_left 1
  · (intro w hSw; (try dsimp only at hSw); go_simp; (try with_reducible rfl))
  simp only [List.setIfInBounds_toArray, List.set_cons_zero, List.set_cons_succ]
  refine takeD (i := 8) (d := 49) (v := .int .u8 (b8 X 3 : Nat)) rfl rfl (by kernel_rfl) (by kernel_rfl) (by kernel_rfl) (fun _ _ _ h => h) (Or.inl ⟨by rfl, fun w hSw => ?_⟩) hHeld ?_
  · have cst := HCB.out w hSw 3 (by omega)
    go_simp
  simp only [List.setIfInBounds_toArray, List.set_cons_zero, List.set_cons_succ]
  refine takeD (i := 9) (d := 50) (v := ?_) rfl rfl (by kernel_rfl) (by kernel_rfl) (by kernel_rfl) (fun _ _ _ h => h) (Or.inl ⟨by rfl, ?_⟩) hHeld ?_
  rotate_left 1
  · (intro w hSw; (try dsimp only at hSw); go_simp; (try with_reducible rfl))
  simp only [List.setIfInBounds_toArray, List.set_cons_zero, List.set_cons_succ]
  refine takeD (i := 10) (d := 51) (v := ?_) rfl rfl (by kernel_rfl) (by kernel_rfl) (by kernel_rfl) (fun _ _ _ h => h) (Or.inl ⟨by rfl, ?_⟩) hHeld ?_
  rotate_left 1
  · (intro w hSw; (try dsimp only at hSw); go_simp; (try with_reducible rfl))
  simp only [List.setIfInBounds_toArray, List.set_cons_zero, List.set_cons_succ]
  refine takeD (i := 11) (d := 52) (v := .slice ad8 (b8 X 7) (c - 8)) rfl rfl (by kernel_rfl) (by kernel_rfl) (by kernel_rfl) (fun _ _ _ h => h) (Or.inl ⟨by rfl, fun w hSw => ?_⟩) hHeld ?_
  · have cst := HSL.out w hSw
    go_simp
  simp only [List.setIfInBounds_toArray, List.set_cons_zero, List.set_cons_succ]
  refine takeD (i := 12) (d := 53) (v := .string (nmX X)) rfl rfl (by kernel_rfl) (by kernel_rfl) (by kernel_rfl) (fun _ _ _ h => h) (Or.inl ⟨by rfl, fun w hSw => ?_⟩) hHeld ?_
  · have cst := HCV.out w hSw
    go_simp
  simp only [List.setIfInBounds_toArray, List.set_cons_zero, List.set_cons_succ]
  refine takeD (i := 13) (d := 54) (v := ?_) rfl rfl (by kernel_rfl) (by kernel_rfl) (by kernel_rfl) (fun _ _ _ h => h) (Or.inl ⟨by rfl, ?_⟩) hHeld ?_
  rotate_left 1
  · (intro w hSw; (try dsimp only at hSw); go_simp; (try with_reducible rfl))
  simp only [List.setIfInBounds_toArray, List.set_cons_zero, List.set_cons_succ]
  refine takeD (i := 14) (d := 55) (v := ?_) rfl rfl (by kernel_rfl) (by kernel_rfl) (by kernel_rfl) (fun _ _ _ h => h) (Or.inl ⟨by rfl, ?_⟩) hHeld ?_
  rotate_left 1
  · (intro w hSw; (try dsimp only at hSw); go_simp; (try with_reducible rfl))
  simp only [List.setIfInBounds_toArray, List.set_cons_zero, List.set_cons_succ]
  refine takeD (i := 15) (d := 56) (v := .int .u8 (b8 X 4 : Nat)) rfl rfl (by kernel_rfl) (by kernel_rfl) (by kernel_rfl) (fun _ _ _ h => h) (Or.inl ⟨by rfl, fun w hSw => ?_⟩) hHeld ?_
  · have cst := HCB.out w hSw 4 (by omega)
    go_simp
  simp only [List.setIfInBounds_toArray, List.set_cons_zero, List.set_cons_succ]
  refine takeD (i := 16) (d := 57) (v := ?_) rfl rfl (by kernel_rfl) (by kernel_rfl) (by kernel_rfl) (fun _ _ _ h => h) (Or.inl ⟨by rfl, ?_⟩) hHeld ?_
  rotate_left 1
  · (intro w hSw; (try dsimp only at hSw); go_simp; (try with_reducible rfl))
  simp only [List.setIfInBounds_toArray, List.set_cons_zero, List.set_cons_succ]
  refine takeD (i := 17) (d := 58) (v := ?_) rfl rfl (by kernel_rfl) (by kernel_rfl) (by kernel_rfl) (fun _ _ _ h => h) (Or.inl ⟨by rfl, ?_⟩) hHeld ?_
  rotate_left 1
  · (intro w hSw; (try dsimp only at hSw); go_simp; (try with_reducible rfl))
  simp only [List.setIfInBounds_toArray, List.set_cons_zero, List.set_cons_succ]
  refine takeD (i := 18) (d := 59) (v := .int .u8 (b8 X 5 : Nat)) rfl rfl (by kernel_rfl) (by kernel_rfl) (by kernel_rfl) (fun _ _ _ h => h) (Or.inl ⟨by rfl, fun w hSw => ?_⟩) hHeld ?_
  · have cst := HCB.out w hSw 5 (by omega)
    go_simp
  simp only [List.setIfInBounds_toArray, List.set_cons_zero, List.set_cons_succ]
  refine takeD (i := 19) (d := 60) (v := ?_) rfl rfl (by kernel_rfl) (by kernel_rfl) (by kernel_rfl) (fun _ _ _ h => h) (Or.inl ⟨by rfl, ?_⟩) hHeld ?_
  rotate_left 1
  · (intro w hSw; (try dsimp only at hSw); go_simp; (try with_reducible rfl))
  simp only [List.setIfInBounds_toArray, List.set_cons_zero, List.set_cons_succ]
  refine takeD (i := 20) (d := 61) (v := ?_) rfl rfl (by kernel_rfl) (by kernel_rfl) (by kernel_rfl) (fun _ _ _ h => h) (Or.inl ⟨by rfl, ?_⟩) hHeld ?_
  rotate_left 1
  · (intro w hSw; (try dsimp only at hSw); go_simp; (try with_reducible rfl))
  simp only [List.setIfInBounds_toArray, List.set_cons_zero, List.set_cons_succ]
  refine takeD (i := 21) (d := 62) (v := ?_) rfl rfl (by kernel_rfl) (by kernel_rfl) (by kernel_rfl) (fun _ _ _ h => h) (Or.inl ⟨by rfl, ?_⟩) hHeld ?_
  rotate_left 1
  · (intro w hSw; (try dsimp only at hSw); go_simp; (try with_reducible rfl))
  simp only [List.setIfInBounds_toArray, List.set_cons_zero, List.set_cons_succ]
  refine takeD (i := 22) (d := 63) (v := .int .u8 (b8 X 6 : Nat)) rfl rfl (by kernel_rfl) (by kernel_rfl) (by kernel_rfl) (fun _ _ _ h => h) (Or.inl ⟨by rfl, fun w hSw => ?_⟩) hHeld ?_
  · have cst := HCB.out w hSw 6 (by omega)
    go_simp
  simp only [List.setIfInBounds_toArray, List.set_cons_zero, List.set_cons_succ]
  refine takeD (i := 23) (d := 64) (v := ?_) rfl rfl (by kernel_rfl) (by kernel_rfl) (by kernel_rfl) (fun _ _ _ h => h) (Or.inl ⟨by rfl, ?_⟩) hHeld ?_
  rotate_left 1
  · (intro w hSw; (try dsimp only at hSw); go_simp; (try with_reducible rfl))
  simp only [List.setIfInBounds_toArray, List.set_cons_zero, List.set_cons_succ]
  refine takeD (i := 24) (d := 65) (v := ?_) rfl rfl (by kernel_rfl) (by kernel_rfl) (by kernel_rfl) (fun _ _ _ h => h) (Or.inl ⟨by rfl, ?_⟩) hHeld ?_
  rotate_left 1
  · (intro w hSw; (try dsimp only at hSw); go_simp; (try with_reducible rfl))
  simp only [List.setIfInBounds_toArray, List.set_cons_zero, List.set_cons_succ]
  refine takeD (i := 25) (d := 66) (v := ?_) rfl rfl (by kernel_rfl) (by kernel_rfl) (by kernel_rfl) (fun _ _ _ h => h) (Or.inl ⟨by rfl, ?_⟩) hHeld ?_
  rotate_left 1
  · (intro w hSw; (try dsimp only at hSw); go_simp; (try with_reducible rfl))
  simp only [List.setIfInBounds_toArray, List.set_cons_zero, List.set_cons_succ]
  refine takeD (i := 26) (d := 67) (v := ?_) rfl rfl (by kernel_rfl) (by kernel_rfl) (by kernel_rfl) (fun _ _ _ h => h) (Or.inl ⟨by rfl, ?_⟩) hHeld ?_
  rotate_left 1
  · (intro w hSw; (try dsimp only at hSw); go_simp; (try with_reducible rfl))
  simp only [List.setIfInBounds_toArray, List.set_cons_zero, List.set_cons_succ]
  refine takeD (i := 27) (d := 68) (v := .int .u8 (b8 X 6 : Nat)) rfl rfl (by kernel_rfl) (by kernel_rfl) (by kernel_rfl) (fun _ _ _ h => h) (Or.inl ⟨by rfl, fun w hSw => ?_⟩) hHeld ?_
  · have cst := HCB.out w hSw 6 (by omega)
    go_simp
  simp only [List.setIfInBounds_toArray, List.set_cons_zero, List.set_cons_succ]
  refine takeD (i := 28) (d := 69) (v := ?_) rfl rfl (by kernel_rfl) (by kernel_rfl) (by kernel_rfl) (fun _ _ _ h => h) (Or.inl ⟨by rfl, ?_⟩) hHeld ?_
  rotate_left 1
  · (intro w hSw; (try dsimp only at hSw); go_simp; (try with_reducible rfl))
  simp only [List.setIfInBounds_toArray, List.set_cons_zero, List.set_cons_succ]
  refine takeD (i := 29) (d := 70) (v := ?_) rfl rfl (by kernel_rfl) (by kernel_rfl) (by kernel_rfl) (fun _ _ _ h => h) (Or.inl ⟨by rfl, ?_⟩) hHeld ?_
  rotate_left 1
  · (intro w hSw; (try dsimp only at hSw); go_simp; (try with_reducible rfl))
  simp only [List.setIfInBounds_toArray, List.set_cons_zero, List.set_cons_succ]
  refine takeD (i := 30) (d := 71) (v := ?_) rfl rfl (by kernel_rfl) (by kernel_rfl) (by kernel_rfl) (fun _ _ _ h => h) (Or.inl ⟨by rfl, ?_⟩) hHeld ?_
  rotate_left 1
  · (intro w hSw; (try dsimp only at hSw); go_simp; (try with_reducible rfl))
  simp only [List.setIfInBounds_toArray, List.set_cons_zero, List.set_cons_succ]
  refine takeD (i := 31) (d := 72) (v := ?_) rfl rfl (by kernel_rfl) (by kernel_rfl) (by kernel_rfl) (fun _ _ _ h => h) (Or.inl ⟨by rfl, ?_⟩) hHeld ?_
  rotate_left 1
  · (intro w hSw; (try dsimp only at hSw); go_simp; (try with_reducible rfl))
  simp only [List.setIfInBounds_toArray, List.set_cons_zero, List.set_cons_succ]
  refine takeD (i := 32) (d := 73) (v := .int .u8 (b8 X 6 : Nat)) rfl rfl (by kernel_rfl) (by kernel_rfl) (by kernel_rfl) (fun _ _ _ h => h) (Or.inl ⟨by rfl, fun w hSw => ?_⟩) hHeld ?_
  · have cst := HCB.out w hSw 6 (by omega)
    go_simp
  simp only [List.setIfInBounds_toArray, List.set_cons_zero, List.set_cons_succ]
  refine takeD (i := 33) (d := 74) (v := ?_) rfl rfl (by kernel_rfl) (by kernel_rfl) (by kernel_rfl) (fun _ _ _ h => h) (Or.inl ⟨by rfl, ?_⟩) hHeld ?_
  rotate_left 1
  · (intro w hSw; (try dsimp only at hSw); go_simp; (try with_reducible rfl))
  simp only [List.setIfInBounds_toArray, List.set_cons_zero, List.set_cons_succ]
  refine takeD (i := 34) (d := 75) (v := ?_) rfl rfl (by kernel_rfl) (by kernel_rfl) (by kernel_rfl) (fun _ _ _ h => h) (Or.inl ⟨by rfl, ?_⟩) hHeld ?_
  rotate_left 1
  · (intro w hSw; (try dsimp only at hSw); go_simp; (try with_reducible rfl))
  simp only [List.setIfInBounds_toArray, List.set_cons_zero, List.set_cons_succ]
  refine takeD (i := 35) (d := 76) (v := ?_) rfl rfl (by kernel_rfl) (by kernel_rfl) (by kernel_rfl) (fun _ _ _ h => h) (Or.inl ⟨by rfl, ?_⟩) hHeld ?_
  rotate_left 1
  · (intro w hSw; (try dsimp only at hSw); go_simp; (try with_reducible rfl))
  simp only [List.setIfInBounds_toArray, List.set_cons_zero, List.set_cons_succ]
  refine wpAnyH_ready (rs := [36]) (by kernel_rfl) (by simp) ?_
  refine AllReadyH.cons rfl (fun K hK => ?_) AllReadyH.nil
  go_simp
  refine hK.out _ _ ?_ (fun hHeld => ?_)
  · exact hHeld.alloc _
  clear hK K
  have RG2 : (w1.drew.alloc (.cells zS.cells 32)).heap[w1.heap.size]? = some (.cells zS.cells 32 (0, 0)) := heap_alloc_new w1.drew _
  refine wpAnyH_ready (rs := [37]) (by kernel_rfl) (by simp) ?_
  refine AllReadyH.cons rfl (fun K hK => ?_) AllReadyH.nil
  refine exec_store rfl rfl rfl RG2 rfl rfl (by rfl) (Sen.infoS (⟨b8 X 1, b8 X 2, b8 X 3, nmX X, b8 X 4, b8 X 5, decide ((b8 X 6 : Int) % 2 = 1), zC, 0, 0, 0, 0, 0, 0, 0, 0, 0, 0, 0, 0, decide ((b8 X 6 : Int) / 2 % 2 = 1), (b8 X 6 : Int) / 4⟩ : Sen)) (by simp [Value.oneCell']) (fun w3 R3 M3 => ?_)
  refine hK.out _ _ ?_ (fun hHeld => ?_)
  · exact hHeld.comp M3 (fun k hk => by simp at hk; exact .inr (by omega))
  clear hK K
  refine wpAnyH_done (by kernel_rfl) ?_ _
  have HM3 := Lib.hid (show Mods [] w1 w3 from hHeld)
  have HG3 : Hid (w3.heap[w1.heap.size]? = some (.cells (hdrS X (nmX X)).cells 32 (0, 0))) := Lib.hid (by rw [eHD.out]; refine R3.trans ?_; simp [Sen.cells, zC])
  have HR3 := Lib.hid (HM3.out.heap R1.out (by simp))
  have HX3 := Lib.hid (HM1.out.trans HM3.out)
  have hgs : w.heap.size < w1.heap.size := lt_of_block R1.out
  have hpt : (hdrS X (nmX X)).conv.pts.oneCell' = true := rfl
  have hdd : (hdrS X (nmX X)).disc = dsX X := rfl
  obtain ⟨adE, hadE⟩ : ∃ adE : Option Addr, adE = if c = 8 + b8 X 7 then some ⟨g, 0, none⟩ else some ⟨g, 8 + b8 X 7, none⟩ := ⟨_, rfl⟩
  have HRD : Hid (∀ W, Mods [w1.heap.size] w3 W → Rd W (.slice adE (X.length - (8 + b8 X 7)) (c - (8 + b8 X 7))) (u8s (rsX X))) := Lib.hid (fun W M => by
    have hr := (HO1.out.rd.mods0 HM3.out).mods M (fun _ q hq => by have := (HO1.out.lt q hq).2; simp; omega)
    obtain ⟨_, _, he, q1, q2, hc⟩ := hr.u8
    injection he with he1 _ he3
    subst he1 he3
    have hl : (rsX X).length = X.length - (8 + b8 X 7) := by unfold rsX; rw [List.length_drop]
    refine ⟨adE, c - (8 + b8 X 7), by rw [u8s_length, hl], by rw [u8s_length, hl]; omega, by unfold maxLen at *; omega, fun i hi => ?_⟩
    rw [u8s_length, hl] at hi
    have hne : ¬ c = 8 + b8 X 7 := by omega
    refine ⟨g, 8 + b8 X 7, by rw [hadE, if_neg hne], ?_⟩
    obtain ⟨b', o', h', hx⟩ := hc (8 + b8 X 7 + i) (by omega)
    cases h'
    rw [Nat.zero_add] at hx
    rw [hx, u8s_getD _ _ (by rw [hl]; omega)]
    unfold rsX
    rw [List.getD_eq_getElem?_getD, List.getD_eq_getElem?_getD, List.getElem?_drop])
  have HSE2 : Hid (∀ W, Mods [w1.heap.size] w3 W → (Instr.sliceAt 33 (.slice (some ⟨g, 0, none⟩) X.length c) (some (.int .i64 (8 + (b8 X 7 : Int)))) none none).run Try.prog W = .ok (.slice adE (X.length - (8 + b8 X 7)) (c - (8 + b8 X 7))) W) := Lib.hid (fun W M => by
    rw [hadE]
    go_simp
    try (split <;> simp_all))
  have HRB := Lib.hid (show Bytes (rsX X) from HXB.out.drop _)
  clear hHeld R3 M3 RG2 HSL HCV hA1 hA2 ew6 ew8 eHD HCB hadE
  generalize w1.heap.size = gs at HG3 hgs HRD HSE2 ⊢
  have HSX : Hid (∀ pv, senX X pv = restS (hdrS X (nmX X)) (rsX X) pv) := Lib.hid (fun _ => rfl)
  generalize hdrS X (nmX X) = SH at HG3 hpt hdd HSX ⊢
  go_wp2_with fail
  try dsimp only [Act.put]
  refine heldStart (S := fun W => Mods [gs] w3 W) 10 rfl (by kernel_rfl) (Mods.refl.drew) (fun hHeld => ?_)
  refine takeD (i := 1) (d := 79) (v := ?_) rfl rfl (by kernel_rfl) (by kernel_rfl) (by kernel_rfl) (fun _ _ _ h => h) (Or.inl ⟨by rfl, ?_⟩) hHeld ?_
  rotate_left 1
  · (intro w hSw; (try dsimp only at hSw); go_simp; (try with_reducible rfl))
  simp only [List.setIfInBounds_toArray, List.set_cons_zero, List.set_cons_succ]
  refine takeD (i := 2) (d := 80) (v := ?_) rfl rfl (by kernel_rfl) (by kernel_rfl) (by kernel_rfl) (fun _ _ _ h => h) (Or.inl ⟨by rfl, ?_⟩) hHeld ?_
  rotate_left 1
  · (intro w hSw; (try dsimp only at hSw); go_simp; (try with_reducible rfl))
  simp only [List.setIfInBounds_toArray, List.set_cons_zero, List.set_cons_succ]
  refine takeD (i := 3) (d := 81) (v := .slice adE (X.length - (8 + b8 X 7)) (c - (8 + b8 X 7))) rfl rfl (by kernel_rfl) (by kernel_rfl) (by kernel_rfl) (fun _ _ _ h => h) (Or.inl ⟨by rfl, fun w hSw => ?_⟩) hHeld ?_
  · have cst := HSE2.out w hSw
    go_simp
  simp only [List.setIfInBounds_toArray, List.set_cons_zero, List.set_cons_succ]
  refine wpAnyH_ready (rs := [0]) (by kernel_rfl) (by simp) ?_
  refine AllReadyH.cons rfl (fun K hK => ?_) AllReadyH.nil
  refine exec_load_row (by rfl) rfl rfl rfl (show w3.drew.heap[gs]? = _ from HG3.out) Try.underlying32 rfl (Sen.infoS SH) ?_
  refine hK.out _ _ hHeld (fun hHeld => ?_)
  clear hK K
  simp only [List.setIfInBounds_toArray, List.set_cons_zero, List.set_cons_succ]
  refine wpAnyH_ready (rs := [4]) (by kernel_rfl) (by simp) ?_
  refine AllReadyH.cons rfl (fun K hK => ?_) AllReadyH.nil
  go_simp
  go_wp2_with (go_at_call 83; refine (rest_ok _ SH _ (rsX X) (HRD.out _ hHeld) HRB.out hpt).mono ?_; intro e w4 h4; obtain ⟨S4, rfl, one4, hz4, M4⟩ := h4.val hpt)
  refine hK.out _ _ ?_ (fun hHeld => ?_)
  · exact (show Mods [gs] w3 _ from hHeld).comp0 M4
  clear hK K
  refine takeD (i := 5) (d := 77) (v := ?_) rfl rfl (by kernel_rfl) (by kernel_rfl) (by kernel_rfl) (fun _ _ _ h => h) (Or.inl ⟨by rfl, ?_⟩) hHeld ?_
  rotate_left 1
  · (intro w hSw; (try dsimp only at hSw); go_simp; (try with_reducible rfl))
  simp only [List.setIfInBounds_toArray, List.set_cons_zero, List.set_cons_succ]
  refine takeD (i := 6) (d := 83) (v := ?_) rfl rfl (by kernel_rfl) (by kernel_rfl) (by kernel_rfl) (fun _ _ _ h => h) (Or.inl ⟨by rfl, ?_⟩) hHeld ?_
  rotate_left 1
  · (intro w hSw; (try dsimp only at hSw); go_simp; (try with_reducible rfl))
  simp only [List.setIfInBounds_toArray, List.set_cons_zero, List.set_cons_succ]
  refine takeD (i := 7) (d := 84) (v := ?_) rfl rfl (by kernel_rfl) (by kernel_rfl) (by kernel_rfl) (fun _ _ _ h => h) (Or.inl ⟨by rfl, ?_⟩) hHeld ?_
  rotate_left 1
  · (intro w hSw; (try dsimp only at hSw); go_simp; (try with_reducible rfl))
  simp only [List.setIfInBounds_toArray, List.set_cons_zero, List.set_cons_succ]
  refine wpAnyH_ready (rs := [8]) (by kernel_rfl) (by simp) ?_
  refine AllReadyH.cons rfl (fun K hK => ?_) AllReadyH.nil
  refine exec_store rfl rfl rfl (M4.heap (show w3.drew.heap[gs]? = _ from HG3.out) (by simp)) rfl rfl (by rfl) (Sen.infoS S4) (Sen.one S4 one4) (fun w5 R5 M5 => ?_)
  refine hK.out _ _ ((show Mods [gs] w3 w4 from hHeld).trans M5) (fun hHeld => ?_)
  clear hK K
  refine takeD (i := 9) (d := 4) (v := ?_) rfl rfl (by kernel_rfl) (by kernel_rfl) (by kernel_rfl) (fun _ _ _ h => h) (Or.inl ⟨by rfl, ?_⟩) hHeld ?_
  rotate_left 1
  · (intro w hSw; (try dsimp only at hSw); go_simp; (try with_reducible rfl))
  simp only [List.setIfInBounds_toArray, List.set_cons_zero, List.set_cons_succ]
  refine wpAnyH_done (by kernel_rfl) ?_ _
  have HX5 := Lib.hid (show Mods [] w w5 from HX3.out.comp (show Mods [gs] w3 w5 from hHeld) (fun k hk => by simp at hk; exact .inr (by omega)))
  have HG5 := Lib.hid R5
  have HR5 := Lib.hid ((show Mods [gs] w3 w5 from hHeld).heap HR3.out (by simp; omega))
  have HZ4 := Lib.hid hz4
  have HM5 := Lib.hid M5
  have hgl : gs < w3.heap.size := lt_of_block HG3.out
  clear hHeld R5 M5 M4 HG3 HR3 hz4 h4
  rw [hdd] at HZ4
  by_cases hre : restErr (dsX X) (rsX X) = 0
  · obtain ⟨pv, h4, OP⟩ := HZ4.out hre
    have hsx : S4 = senX X pv := by rw [HSX.out, h4]
    have OP5 := Lib.hid (show OwnPts w5 w3.heap.size pv (ptsX X) from OwnPts.mods OP HM5.out (by simp; exact hgl))
    have HIS := Lib.hid (show IsSen w5 S4 (ptsX X) by rw [hsx]; exact senX_is HXB.out hre OP5.out.rd)
    have HXY := Lib.hid (show errX X = if validB S4 (ptsX X) then 0 else 1 by
      rw [HXX.out, if_neg (fun h => h hre), hsx]
      rw [show validB (senX X pv) (ptsX X) = validB (senX X (.slice none 0 0)) (ptsX X) from senX_valid X pv _])
    have HSS := Lib.hid hsx
    rw [hre]
    clear h4 OP hsx HZ4 HXX
    go_wp2_with (refine wpList_load_sen rfl (.tmp 6) rfl (SenBox.mk HG5.out) (by rfl) ?_)
    refine (valid_ok w5 S4 (ptsX X) HIS.out).mono ?_
    rintro e w6 ⟨rfl, M6⟩
    have HX6 := Lib.hid (HX5.out.trans M6)
    have HG6 := Lib.hid (M6.heap HG5.out (by simp))
    have HR6 := Lib.hid (M6.heap HR5.out (by simp))
    have OP6 := Lib.hid (OP5.out.mods M6 (by simp))
    clear M6 HX5 HG5 HR5 OP5
    cases hvb : validB S4 (ptsX X) with
    | false =>
      have HR := Lib.hid (show errX X = 1 by rw [HXY.out, hvb]; rfl)
      clear hvb HXY
      go_wp2_with (refine wpList_store_row (cs := zS.cells) rfl 32 (.tmp 2) (.tmp 94) rfl HR6.out (by rfl) (by rfl) rfl (Sen.infoS _) zS_one ?_; intro wz Rz Mz)
      have HMX := HX6.out.comp Mz (fun k hk => by simp at hk; exact .inr (by omega))
      refine bodyPost_ret (results_cell_row2 rfl _ _ w.heap.size _ _ _ _ rfl Rz Try.underlying32 rfl (Sen.infoS _)) rfl ?_
      have := HSE.out wz (by rw [HR.out]; decide) HMX
      rw [HR.out] at this
      exact this
    | true =>
      have HR := Lib.hid (show errX X = 0 by rw [HXY.out, hvb]; rfl)
      clear hvb HXY
      go_wp2_with (first
        | (refine wpList_load_sen rfl (.tmp 6) rfl (SenBox.mk HG6.out) (by rfl) ?_)
        | (refine wpList_store_row (cs := S4.cells) rfl 32 (.tmp 2) (.tmp 95) rfl HR6.out (by rfl) (by rfl) rfl (Sen.infoS _) (Sen.one _ one4) ?_; intro wz Rz Mz))
      have HMX := HX6.out.comp Mz (fun k hk => by simp at hk; exact .inr (by omega))
      refine bodyPost_ret (results_cell_row2 rfl _ _ w.heap.size _ _ _ _ rfl Rz Try.underlying32 rfl (Sen.infoS _)) rfl ?_
      refine HSU.out _ _ HR.out ⟨pv, by rw [HSS.out]; rfl, (OP6.out.mods Mz (by simp; have := HX3.out.size; have := hgs; omega)).down HX3.out.size, HMX⟩
  · have HR := Lib.hid (show errX X = restErr (dsX X) (rsX X) by rw [HXX.out, if_pos hre])
    have hne : (restErr (dsX X) (rsX X) != 0) = true := by simpa using hre
    have HNE := Lib.hid hre
    clear hre HZ4 HXX
    generalize restErr (dsX X) (rsX X) = er at *
    go_wp2_with (refine wpList_store_row (cs := zS.cells) rfl 32 (.tmp 2) (.tmp 88) rfl HR5.out (by rfl) (by rfl) rfl (Sen.infoS _) zS_one ?_; intro wz Rz Mz)
    have HMX := HX5.out.comp Mz (fun k hk => by simp at hk; exact .inr (by omega))
    refine bodyPost_ret (results_cell_row2 rfl _ _ w.heap.size _ _ _ _ rfl Rz Try.underlying32 rfl (Sen.infoS _)) rfl ?_
    have := HSE.out wz (by rw [HR.out]; exact HNE.out) HMX
    rw [HR.out] at this
    exact this
theorem senDec_ok (w : World) (v : Value) (A : List Int) (hv : Rd w v (u8s A)) (hb : Bytes A) (hl : A.length ≤ 100000) :
    Calls Try.prog 34 #[v] w fun e w' => SDecRes w A e w' := by
  by_cases h9 : A.length < 9
  · exact senDec_err w v A hv hb hl (.inl h9)
  · by_cases hs : sum8 A = 0
    · by_cases hc : A.dropLast.getD 0 0 = 1 ∧ A.dropLast.getD 6 0 < 32 ∧ 8 + b8 A.dropLast 7 ≤ A.dropLast.length
      · exact senDec_main w v A hv hb hl h9 hs hc
      · exact senDec_form w v A hv hb hl h9 hs (by omega)
    · exact senDec_err w v A hv hb hl (.inr hs)
end Go.Proofs.Ytgjjmiaiclhidaa
