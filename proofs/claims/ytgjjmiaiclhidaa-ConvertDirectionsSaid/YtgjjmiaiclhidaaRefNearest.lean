/- The reference's Nearest: contract. -/
import Derived.Test.YtgjjmiaiclhidaaNearest
namespace Go.Proofs.Ytgjjmiaiclhidaa
open Go.RowKit

theorem prL_zero (C : Conv) (P : List Pt) : prL C P 0 = [] := rfl
def bRaw : Option Pt → Int
  | none => 0
  | some b => b.raw
def bFar (v : Int) : Option Pt → Int
  | none => -1
  | some b => absd v b
theorem bFar_none {v : Int} {o : Option Pt} : o = none → bFar v o = -1 := fun h => by rw [h]; rfl
theorem nearB_eq (o : Option Pt) : nearB o = if o = none then (0, 8) else (bRaw o, 0) := by cases o <;> rfl
theorem bFar_neg (v : Int) (o : Option Pt) : bFar v o < 0 ↔ o = none := by
  cases o with
  | none => simp [bFar]
  | some b => have := absd_nonneg v b; simp [bFar]; omega
theorem best_step {C : Conv} {P : List Pt} {v : Int} (k : Nat) {rr : Nat} (hr : rr = rawAt C.sgn k) :
    bestL v (prL C P (k + 1)) = if (valI C P rr).2 = 0 then (if bFar v (bestL v (prL C P k)) < 0 ∨ absd v ⟨rr, (valI C P rr).1⟩ < bFar v (bestL v (prL C P k)) then some ⟨rr, (valI C P rr).1⟩ else bestL v (prL C P k)) else bestL v (prL C P k) := by
  subst hr
  show bestL v (prL C P k ++ prOf C P k) = _
  unfold prOf
  by_cases h0 : (valI C P (rawAt C.sgn k)).2 = 0
  · rw [if_pos h0, if_pos h0, bestL_snoc]
    cases ho : bestL v (prL C P k) with
    | none => exact (if_pos (Or.inl (show bFar v none < 0 from by show (-1 : Int) < 0; decide))).symm
    | some b =>
      have h1 := absd_nonneg v b
      by_cases h : absd v ⟨rawAt C.sgn k, (valI C P (rawAt C.sgn k)).1⟩ < absd v b
      · exact (congrArg some (if_pos h)).trans (if_pos (Or.inr h)).symm
      · exact (congrArg some (if_neg h)).trans (if_neg (by intro h2; rcases h2 with h2 | h2; exact absurd h1 (Int.not_le.2 h2); exact h h2)).symm
  · rw [if_neg h0, if_neg h0, List.append_nil]
set_option maxRecDepth 100000 in
set_option maxHeartbeats 4000000 in
theorem refNearest_ok (w : World) (C : Conv) (P : List Pt) (v : Int) (hC : IsConv w C P) :
    Calls Try.prog 54 #[.agg C.cells, .int .i64 v] w fun e w' => e = .returned (.tuple #[.int .u8 (nearI C P v).1, .int .i64 (nearI C P v).2]) ∧ Mods [] w w' := by
  have HC := Lib.hid hC
  have HR0 := Lib.hid (heap_alloc_new w (.cells C.cells 26))
  have HM0 := Lib.hid ((Mods.refl (S := []) (w := w)).alloc (.cells C.cells 26))
  have HN := Lib.hid (nearI_eq C P v)
  have CV := Lib.hid (fun W (M : Mods [] w W) => refConvValid_ok W C P (HC.out.mods0 M))
  clear hC
  generalize nearI C P v = N at HN ⊢
  cases hb : convB C P with
  | false =>
    rw [hb] at CV
    have HR := Lib.hid (HN.out.trans (if_neg (by rw [hb]; decide)))
    clear hb
    go_enter Try.func54, Try.ntmps54
    go_wp2_with (refine wpList_load_conv rfl (.tmp 2) rfl HR0.out (by rfl) ?_)
    refine (CV.out _ HM0.out).mono ?_
    rintro e w1 ⟨rfl, M1⟩
    go_wp2_with fail
    go_ret2
    exact ⟨ret_two HR.out, HM0.out.trans M1⟩
  | true =>
    rw [hb] at CV
    have HB := Lib.hid hb
    replace HN := Lib.hid (HN.out.trans (if_pos hb))
    have HVV := Lib.hid (fun W (M : Mods [] w W) r hr => show Calls Try.prog 44 #[.agg C.cells, .int .u8 (r : Nat)] W fun e w' => e = .returned (.tuple #[.int .i64 (valI C P r).1, .int .i64 (valI C P r).2]) ∧ Mods [] W w' from by
      have := refValue_ok W C P r (HC.out.mods0 M) hr
      have e : valueI C P r = valI C P r := if_pos hb
      rwa [e] at this)
    have HVB := Lib.hid (fun r => valI_bd hb r)
    clear hb
    have hcl := clampI_bd v
    have CC := Lib.hid (fun W => refClamp_ok v W)
    have HST := Lib.hid (fun k => best_step (C := C) (P := P) (v := clampI v) k rfl)
    have HL := Lib.hid (fun W => least_ok C.sgn W)
    have hl0 : leastI C.sgn = -128 ∨ leastI C.sgn = 0 := by unfold leastI; split <;> simp
    generalize clampI v = cv at *
    go_enter Try.func54, Try.ntmps54
    go_wp2_with (refine wpList_load_conv rfl (.tmp 2) rfl HR0.out (by rfl) ?_)
    refine (CV.out _ HM0.out).mono ?_
    rintro e w1 ⟨rfl, M1⟩
    have HM1 := Lib.hid (HM0.out.trans M1)
    have HR1 := Lib.hid (M1.heap HR0.out (by simp))
    clear M1
    go_wp2_with fail
    refine (CC.out _).mono ?_
    rintro e w' ⟨rfl, rfl⟩
    go_wp2_with fail
    clear CV CC HR0 HM0
    generalize w.heap.size = g at HR1 ⊢
    go_loopw [7, 8, 9] (fun b f i wr => ∃ k : Nat, k ≤ 256 ∧ i = .int .i64 k ∧ b = .int .u8 (bRaw (bestL cv (prL C P k))) ∧ f = .int .i64 (bFar cv (bestL cv (prL C P k))) ∧ Mods [] w1 wr) (fun _ _ i _ => 256 - (intOf i).toNat)
    case atStart => exact ⟨0, by omega, rfl, rfl, rfl, Mods.refl⟩
    case round =>
      obtain ⟨k, hk, rfl, rfl, rfl, M⟩ := hrel
      by_cases hlt : k < 256
      · have HG := Lib.hid (M.heap HR1.out (by simp))
        have z1 : wr.cell? ⟨g, 1, none⟩ = some (.bool C.sgn) := (cell_blk HG.out 1).trans rfl
        have i1 : (k : Int) < 256 := by omega
        have HM := Lib.hid M
        have hrl := rawAt_lt C.sgn k
        have HRW := Lib.hid (show rawI (leastI C.sgn + (k : Int)) = rawAt C.sgn k from rfl)
        have HRA := Lib.hid (fun W => raw_ok (leastI C.sgn + (k : Int)) (by omega) (by omega) W)
        rw [HRW.out] at HRA
        have HV1 := Lib.hid (HVV.out wr (HM1.out.trans M) (rawAt C.sgn k) hrl)
        have hvb := HVB.out (rawAt C.sgn k)
        have HS := Lib.hid (HST.out k)
        have HAB := Lib.hid (show ∀ x, absd cv ⟨rawAt C.sgn k, x⟩ = max (x - cv) (cv - x) from fun _ => rfl)
        clear M
        generalize (valI C P (rawAt C.sgn k)).1 = x1 at *
        generalize (valI C P (rawAt C.sgn k)).2 = x2 at *
        generalize rawAt C.sgn k = rr at *
        generalize hbo : bestL cv (prL C P k) = bo at *
        obtain ⟨hv1, hv2⟩ := hvb
        have hwl : IntKind.i64.wrap (leastI C.sgn + (k : Int)) = leastI C.sgn + (k : Int) := IntWalk.i64_in _ (by omega)
        by_cases h0 : x2 = 0
        · have e0 : (x2 != 0) = false := by simpa using h0
          replace HS := Lib.hid (HS.out.trans (if_pos h0))
          have HA := Lib.hid (HAB.out x1)
          generalize hAD : absd cv ⟨rr, x1⟩ = ad at *
          have HAD := Lib.hid hAD
          clear h0 HAB hbo hAD
          have hmx : (if x1 - cv < cv - x1 then cv - x1 else x1 - cv) = ad := by rw [HA.out]; split <;> omega
          have hw1 : IntKind.i64.wrap (x1 - cv) = x1 - cv := IntWalk.i64_in _ (by omega)
          have hw2 : IntKind.i64.wrap (cv - x1) = cv - x1 := IntWalk.i64_in _ (by omega)
          by_cases hf : bFar cv bo < 0
          · have d1 : decide (bFar cv bo < 0) = true := decide_eq_true hf
            have HS2 := Lib.hid (HS.out.trans (if_pos (.inl hf)))
            clear hf
            generalize bFar cv bo = fb at *
            generalize bRaw bo = rb at *
            go_wp2_with fail
            refine (HL.out _).mono ?_
            rintro e w' ⟨rfl, rfl⟩
            go_wp2_with fail
            refine (HRA.out _).mono ?_
            rintro e w' ⟨rfl, rfl⟩
            go_wp2_with (refine wpList_load_conv rfl (.tmp 2) rfl HG.out (by rfl) ?_)
            refine HV1.out.mono ?_
            rintro e w2 ⟨rfl, M2⟩
            have HM2 := Lib.hid (HM.out.trans M2)
            clear M2 z1
            go_wp2_with fail
            exact ⟨⟨k + 1, by omega, by go_num, by rw [HS2.out]; rfl, by rw [HS2.out]; exact congrArg (Value.int _) HAD.out.symm, HM2.out⟩, by simp only [intOf]; omega⟩
          · have d1 : decide (bFar cv bo < 0) = false := decide_eq_false hf
            by_cases hd : ad < bFar cv bo
            · have d2 : decide (ad < bFar cv bo) = true := decide_eq_true hd
              have HS2 := Lib.hid (HS.out.trans (if_pos (.inr hd)))
              clear hf hd
              generalize bFar cv bo = fb at *
              generalize bRaw bo = rb at *
              go_wp2_with fail
              refine (HL.out _).mono ?_
              rintro e w' ⟨rfl, rfl⟩
              go_wp2_with fail
              refine (HRA.out _).mono ?_
              rintro e w' ⟨rfl, rfl⟩
              go_wp2_with (refine wpList_load_conv rfl (.tmp 2) rfl HG.out (by rfl) ?_)
              refine HV1.out.mono ?_
              rintro e w2 ⟨rfl, M2⟩
              have HM2 := Lib.hid (HM.out.trans M2)
              clear M2 z1
              go_wp2_with fail
              exact ⟨⟨k + 1, by omega, by go_num, by rw [HS2.out]; rfl, by rw [HS2.out]; exact congrArg (Value.int _) HAD.out.symm, HM2.out⟩, by simp only [intOf]; omega⟩
            · have d2 : decide (ad < bFar cv bo) = false := decide_eq_false hd
              have HS2 := Lib.hid (HS.out.trans (if_neg (fun h => h.elim hf hd)))
              clear hf hd
              obtain ⟨fb, hfb⟩ : ∃ fb, fb = bFar cv bo := ⟨_, rfl⟩
              obtain ⟨rb, hrb⟩ : ∃ rb, rb = bRaw bo := ⟨_, rfl⟩
              have HFB := Lib.hid hfb
              have HRB := Lib.hid hrb
              rw [← hfb] at d1 d2
              rw [← hfb, ← hrb]
              clear hfb hrb
              go_wp2_with fail
              refine (HL.out _).mono ?_
              rintro e w' ⟨rfl, rfl⟩
              go_wp2_with fail
              refine (HRA.out _).mono ?_
              rintro e w' ⟨rfl, rfl⟩
              go_wp2_with (refine wpList_load_conv rfl (.tmp 2) rfl HG.out (by rfl) ?_)
              refine HV1.out.mono ?_
              rintro e w2 ⟨rfl, M2⟩
              have HM2 := Lib.hid (HM.out.trans M2)
              clear M2 z1
              go_wp2_with fail
              exact ⟨⟨k + 1, by omega, by go_num, by rw [HS2.out, ← HRB.out], by rw [HS2.out, ← HFB.out], HM2.out⟩, by simp only [intOf]; omega⟩
        · have e0 : (x2 != 0) = true := by simpa using h0
          have HS2 := Lib.hid (HS.out.trans (if_neg h0))
          obtain ⟨fb, hfb⟩ : ∃ fb, fb = bFar cv bo := ⟨_, rfl⟩
          obtain ⟨rb, hrb⟩ : ∃ rb, rb = bRaw bo := ⟨_, rfl⟩
          have HFB := Lib.hid hfb
          have HRB := Lib.hid hrb
          rw [← hfb, ← hrb]
          clear hfb hrb h0 hbo HAB
          go_wp2_with fail
          refine (HL.out _).mono ?_
          rintro e w' ⟨rfl, rfl⟩
          go_wp2_with fail
          refine (HRA.out _).mono ?_
          rintro e w' ⟨rfl, rfl⟩
          go_wp2_with (refine wpList_load_conv rfl (.tmp 2) rfl HG.out (by rfl) ?_)
          refine HV1.out.mono ?_
          rintro e w2 ⟨rfl, M2⟩
          have HM2 := Lib.hid (HM.out.trans M2)
          clear M2 z1
          go_wp2_with fail
          exact ⟨⟨k + 1, by omega, by go_num, by rw [HS2.out, ← HRB.out], by rw [HS2.out, ← HFB.out], HM2.out⟩, by simp only [intOf]; omega⟩
      · obtain rfl : k = 256 := by omega
        have i1 : ¬ ((256 : Nat) : Int) < 256 := by omega
        obtain ⟨bo, hbo⟩ : ∃ bo, bo = bestL cv (prL C P 256) := ⟨_, rfl⟩
        have HBO := Lib.hid (show N = nearB bo by rw [hbo]; exact HN.out)
        rw [← hbo]
        clear hbo
        have hfn := bFar_neg cv bo
        by_cases ho : bo = none
        · have d1 : decide (bFar cv bo < 0) = true := decide_eq_true (hfn.2 ho)
          have HR := Lib.hid (show N = (0, 8) by rw [HBO.out, ho]; rfl)
          clear ho hfn
          generalize bFar cv bo = fb at *
          generalize bRaw bo = rb at *
          go_wp2_with fail
          go_ret2
          exact ⟨ret_two HR.out, HM1.out.trans M⟩
        · have d1 : decide (bFar cv bo < 0) = false := decide_eq_false (fun h => ho (hfn.1 h))
          have HR := Lib.hid (show N = (bRaw bo, 0) by rw [HBO.out, nearB_eq, if_neg ho])
          clear ho hfn
          generalize bFar cv bo = fb at *
          generalize bRaw bo = rb at *
          go_wp2_with fail
          go_ret2
          exact ⟨ret_two HR.out, HM1.out.trans M⟩
end Go.Proofs.Ytgjjmiaiclhidaa
