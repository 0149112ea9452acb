/- SamplingSteps: the walk. -/
import Derived.Test.YtgjjmiaiclhidaaSamL
import Derived.Test.YtgjjmiaiclhidaaTwoS
import Derived.Test.YtgjjmiaiclhidaaMadeB
import Derived.Test.YtgjjmiaiclhidaaAwakeM
import Derived.Test.YtgjjmiaiclhidaaSamRR
import Derived.Test.YtgjjmiaiclhidaaSamR
import Derived.Test.YtgjjmiaiclhidaaMadeSen
import Derived.Test.YtgjjmiaiclhidaaValD
import Derived.Test.YtgjjmiaiclhidaaBaseG
namespace Go.Proofs.Ytgjjmiaiclhidaa
open Go.RowKit

/-- What a reading is. -/
def RdV (b sgn : Bool) (W : List Int) (x : Int) (y : Bool) : Prop := if b = true then IsMed sgn W x ∧ y = true else x = 0 ∧ y = false
theorem ReadRes.val {w w' : World} {b sgn : Bool} {W : List Int} {e : Ending} (h : ReadRes w b sgn W e w') : ∃ x y, e = .returned (.tuple #[.int .u8 x, .bool y]) ∧ RdV b sgn W x y ∧ Mods [] w w' := by
  unfold ReadRes at h
  unfold RdV
  cases b with
  | true => obtain ⟨m, he, hm, M⟩ := h; exact ⟨m, true, he, ⟨hm, rfl⟩, M⟩
  | false => exact ⟨0, false, h.1, ⟨rfl, rfl⟩, h.2⟩
theorem RdV.uniq {b sgn : Bool} {W : List Int} (hb : ∀ x ∈ W, 0 ≤ x ∧ x ≤ 255) {x x' : Int} {y y' : Bool} (h : RdV b sgn W x y) (h' : RdV b sgn W x' y') : x' = x ∧ y' = y := by
  unfold RdV at h h'
  cases b with
  | true => exact ⟨med_uniq hb h'.1 h.1, h'.2.trans h.2.symm⟩
  | false => exact ⟨h'.1.trans h.1.symm, h'.2.trans h.2.symm⟩
theorem SenIn.mods0 {w w' : World} {S : Sen} {P : List Pt} (h : SenIn w S P) (M : Mods [] w w') : SenIn w' S P := ⟨h.rd.mods0 M, h.nums, h.name⟩
theorem FltIn.mods0 {w w' : World} {win : Value} {W : List Int} {n : Int} (h : FltIn w win W n) (M : Mods [] w w') : FltIn w' win W n := ⟨h.rd.mods0 M, h.byt, h.n⟩
theorem fltC_one {win : Value} (n : Int) (h : win.oneCell' = true) : (fltC win n).all (·.oneCell') = true := by
  have e : (Value.int .i64 n).oneCell' = true := rfl
  simp [fltC, h, e]
theorem Rd.one {w : World} {v : Value} {l : List Value} (h : Rd w v l) : v.oneCell' = true := by obtain ⟨ad, cap, rfl, _⟩ := h; rfl
set_option maxRecDepth 100000 in
set_option maxHeartbeats 8000000 in
theorem samplingSteps_walk (w : World) (S0 : Sen) (P0 : List Pt) (hS0 : SenIn w S0 P0) (win : Value) (W0 : List Int) (m0 : Int) (hF0 : FltIn w win W0 m0) (v : Value) (L : List Int) (hv : Rd w v (i64s L)) (hb : ∀ i, -9223372036854775808 ≤ L.getD i 0 ∧ L.getD i 0 ≤ 9223372036854775807) (r : Int) (hr : 0 ≤ r ∧ r ≤ 255) (ok : Bool) :
    Calls Try.prog 16 #[.agg S0.cells, .agg #[win, .int .i64 m0], v, .int .u8 r, .bool ok] w fun e w' => e = .returned (.bool true) ∧ Mods [] w w' := by
  have HI := Lib.hid hS0
  have HF := Lib.hid hF0
  have HR := Lib.hid hr
  have BB := Lib.hid ((SenBox.new w S0).mods0 (Mods.refl.alloc (.cells #[win, .int .i64 m0] 90)))
  have BF : Hid (((w.alloc (.cells S0.cells 32)).alloc (.cells #[win, .int .i64 m0] 90)).heap[w.heap.size + 1]? = some (.cells #[win, .int .i64 m0] 90 (0, 0))) := Lib.hid (by
    have := heap_alloc_new (w.alloc (.cells S0.cells 32)) (.cells #[win, .int .i64 m0] 90)
    rwa [World.size_alloc] at this)
  have M0 := Lib.hid (((Mods.refl (S := []) (w := w)).alloc (.cells S0.cells 32)).alloc (.cells #[win, .int .i64 m0] 90))
  have hLT : light14 S0 P0 W0 = decide (S0.name.size ≤ 100 ∧ P0.length ≤ 40 ∧ W0.length ≤ 40) := rfl
  clear hS0 hF0 hr
  by_cases hl0 : S0.name.size ≤ 100 ∧ P0.length ≤ 40 ∧ W0.length ≤ 40
  · have HLT := Lib.hid (hLT.trans (decide_eq_true hl0))
    clear hLT
    have HL := Lib.hid (light_ok w v L hv)
    have HV := Lib.hid hv
    have HB := Lib.hid hb
    clear hv hb
    by_cases hl : L.length ≤ 600
    · skip
      have HLL := Lib.hid (decide_eq_true hl)
      have HLM := Lib.hid (fun W (M : Mods [] w W) => light_ok W v L (HV.out.mods0 M))
      go_enter Try.func16, Try.ntmps16
      go_wp2_with (first
        | (refine wpList_load_sen rfl (.tmp 5) rfl BB.out (by rfl) ?_)
        | (refine wpList_load_row rfl 90 (.tmp 6) rfl (w.heap.size + 1) (by rfl) _ _ _ _ BF.out Try.underlying90 rfl Try.infoFl ?_))
      refine (light14_ok _ S0 P0 win W0 m0 (HI.out.mods0 M0.out) (HF.out.mods0 M0.out)).mono ?_
      rw [HLT.out]
      rintro e w0 ⟨rfl, Mx⟩
      have HX := Lib.hid (M0.out.trans Mx)
      have HB0 := Lib.hid (BB.out.mods0 Mx)
      have HF0 := Lib.hid (Mx.heap BF.out (by simp))
      clear Mx
      go_wp2_with fail
      refine (HLM.out _ HX.out).mono ?_
      rw [HLL.out]
      rintro e w' ⟨rfl, rfl⟩
      go_wp2_with fail
      refine (roll_ok _ v L (HV.out.mods0 HX.out) (by omega) HB.out).mono ?_
      rintro e w1 ⟨rfl, D1, M1, z1⟩
      have hgb := lt_of_block HB0.out.blk
      have hgf := lt_of_block HF0.out
      have hwb := HX.out.size
      have HM1 := Lib.hid (HX.out.trans M1)
      have HB1 := Lib.hid (HB0.out.mods0 M1)
      have HFF1 := Lib.hid (M1.heap HF0.out (by simp))
      generalize w0.heap.size = b at D1 z1 hgb hgf hwb ⊢
      have HWS := Lib.hid (rfl : w.heap.size = w.heap.size)
      have HIq := Lib.hid (HI.out.is (by omega) (by omega))
      have HFq := Lib.hid (HF.out.is (by omega))
      have hgs : w.heap.size < b := hgb
      generalize hg0 : w.heap.size = g0 at HB1 HFF1 HWS hgb hgf ⊢
      have HG0 := Lib.hid hg0
      clear hg0 HB0 HF0 BB BF HLM HX M0 HI HF HLT hl0 HV HB
      have HD1 := Lib.hid D1
      clear D1 M1
      go_wp2_with fail
      refine (sensor_ok w1 b v L 0 HD1.out 1 (by omega)).mono ?_
      rintro e w2 ⟨S1, P1, n2, rfl, IS1, VS1, OP1, PL1, SN1, D2, M2⟩
      have HM2 := Lib.hid (HM1.out.comp M2 (fun q hq => by simp at hq; subst hq; exact .inr (by have := HG0.out; omega)))
      have HB2 := Lib.hid (HB1.out.mods M2 (by simp; omega))
      have HFF2 := Lib.hid (M2.heap HFF1.out (by simp; omega))
      have HN1 := Lib.hid (show ∀ q, S1.conv.pts.ownBlock = some q → q ≠ b ∧ q ≠ w2.heap.size from fun q hq => by have h1 := OP1.own q hq; have := HD1.out.lt; omega)
      have HNX := Lib.hid (show ∀ q, S1.conv.pts.ownBlock = some q → q < w2.heap.size from fun q hq => (OP1.own q hq).2)
      have hvl := Lib.hid HD1.out.vlt
      have hgx1 := M2.size
      have HI1 := Lib.hid IS1
      have hone := Lib.hid IS1.conv.rd.one
      have HD2 := Lib.hid D2
      have hb2 := D2.lt
      clear M2 D2 IS1 VS1 OP1 PL1 SN1 HB1 HFF1 HM1 HD1
      go_wp2_with (refine wpList_store_row (cs := S1.cells) rfl 32 (.tmp 12) (.tmp 39) rfl (heap_alloc_new w2 _) (by rfl) (by rfl) (by rfl) (Sen.infoS _) (Sen.one _ hone.out) ?_; intro w3 R3 M3; have HF3 := Lib.hid (fresh M3); have HX3 := Lib.hid R3; clear R3 M3)
      have HM3 := Lib.hid (HM2.out.trans HF3.out)
      have HD3 := Lib.hid (HD2.out.mods0 HF3.out)
      have HI3 := Lib.hid (HI1.out.mods0 HF3.out)
      have HB3 := Lib.hid (HB2.out.mods0 HF3.out)
      have HFF3 := Lib.hid (HF3.out.heap HFF2.out (by simp))
      have hx3 := lt_of_block HX3.out
      generalize w2.heap.size = gx at HX3 hb2 hx3 HN1 HNX hgx1 ⊢
      clear HM2 HD2 HI1 HB2 HFF2 HF3
      refine (bytesM_ok w3 b v L n2 HD3.out 6 (by omega)).mono ?_
      rintro e w4 ⟨ug, Ag, n4, rfl, OB, BYT, LEN, D4, M4⟩
      obtain ⟨au, cu, rfl⟩ := OB.rd.len
      rw [u8s_length] at OB ⊢
      have HBY := Lib.hid BYT
      have HOB := Lib.hid OB
      have HLE := Lib.hid LEN
      have HD4 := Lib.hid D4
      have HM4 := Lib.hid (HM3.out.comp M4 (fun q hq => by simp at hq; subst hq; exact .inr (by have := HG0.out; omega)))
      have HB4 := Lib.hid (HB3.out.mods M4 (by simp; omega))
      have HFF4 := Lib.hid (M4.heap HFF3.out (by simp; omega))
      have HX4 := Lib.hid (M4.heap HX3.out (by simp; omega))
      have HI4 := Lib.hid (HI3.out.mods M4 (fun _ q hq => by simpa using (HN1.out q hq).1))
      clear OB BYT LEN D4 M4 HM3 HB3 HFF3 HX3 HI3 HD3
      go_wp2_with fail
      refine (next_ok w4 b v L n4 HD4.out 6 (by omega) (by omega)).mono ?_
      rintro e w5 ⟨r5, n5, rfl, r50, r51, D5, M5⟩
      have HD5 := Lib.hid D5
      have HOB5 := Lib.hid (HOB.out.mods M5 (fun q hq => by have := (HOB.out.lt q hq).1; simp; omega))
      have HM5 := Lib.hid (HM4.out.comp M5 (fun q hq => by simp at hq; subst hq; exact .inr (by have := HG0.out; omega)))
      have HB5 := Lib.hid (HB4.out.mods M5 (by simp; omega))
      have HFF5 := Lib.hid (M5.heap HFF4.out (by simp; omega))
      have HX5 := Lib.hid (M5.heap HX4.out (by simp; omega))
      have HI5 := Lib.hid (HI4.out.mods M5 (fun _ q hq => by simpa using (HN1.out q hq).1))
      have hb5 := D5.lt
      clear D5 M5 HM4 HB4 HFF4 HX4 HI4 HD4 HOB
      go_wp2_with (refine wpList_store_row (cs := fltC (.slice au Ag.length cu) (r5 - 1)) rfl 90 (.tmp 13) (.tmp 45) rfl (heap_alloc_new w5 _) (by rfl) (by rfl) (by rfl) Try.infoFl (fltC_one _ rfl) ?_; intro w6 R6 M6; have HF6 := Lib.hid (fresh M6); have HG6 := Lib.hid R6; clear R6 M6)
      have HM6 := Lib.hid (HM5.out.trans HF6.out)
      have HD6 := Lib.hid (HD5.out.mods0 HF6.out)
      have HI6 := Lib.hid (HI5.out.mods0 HF6.out)
      have HB6 := Lib.hid (HB5.out.mods0 HF6.out)
      have HFF6 := Lib.hid (HF6.out.heap HFF5.out (by simp))
      have HX6 := Lib.hid (HF6.out.heap HX5.out (by simp))
      have HOB6 := Lib.hid (HOB5.out.mods0 HF6.out)
      have hx6 := lt_of_block HX5.out
      have hff := lt_of_block HFF5.out
      have HOG := Lib.hid (show ∀ q, (Value.slice au Ag.length cu).ownBlock = some q → q ≠ w5.heap.size from fun q hq => by have := (HOB5.out.lt q hq).2; omega)
      generalize w5.heap.size = gg at HG6 hb5 hx6 hff HOG ⊢
      clear HM5 HD5 HI5 HB5 HFF5 HX5 HF6 HOB5
      refine (bool_ok w6 b v L n5 HD6.out 2 (by omega) (by omega)).mono ?_
      rintro e w7 ⟨q7, n7, rfl, D7, M7⟩
      have HD7 := Lib.hid D7
      have HOB7 := Lib.hid (HOB6.out.mods M7 (fun q hq => by have := (HOB6.out.lt q hq).1; simp; omega))
      have HG7 := Lib.hid (M7.heap HG6.out (by simp; omega))
      have HM7 := Lib.hid (HM6.out.comp M7 (fun q hq => by simp at hq; subst hq; exact .inr (by have := HG0.out; omega)))
      have HB7 := Lib.hid (HB6.out.mods M7 (by simp; omega))
      have HFF7 := Lib.hid (M7.heap HFF6.out (by simp; omega))
      have HX7 := Lib.hid (M7.heap HX6.out (by simp; omega))
      have HI7 := Lib.hid (HI6.out.mods M7 (fun _ q hq => by simpa using (HN1.out q hq).1))
      clear D7 M7 HM6 HB6 HFF6 HX6 HI6 HD6 HOB6 HG6
      have hr5 : I64 (r5 - 1) := i64_small (by omega)
      cases q7 with
      | false =>
        have HX := HM7
        have HB0 := HB7
        have HB1 := Lib.hid (show SenBox w7 gx S1 from ⟨HX7.out⟩)
        have HI0 := Lib.hid (HIq.out.mods0 HM7.out)
        have HI1 := HI7
        have HFI0 := Lib.hid (HFq.out.mods0 HM7.out)
        have HFI1 := Lib.hid (show IsFlt w7 (.slice au Ag.length cu) Ag (r5 - 1) from ⟨HOB7.out.rd, HBY.out, by have := HLE.out; omega, hr5⟩)
        have HF0 := HFF7
        have HBG := HG7
        clear HM7 HB7 HX7 HI7 HFF7 HG7 HD7 HOB7 HIq HFq HN1 hone hr5 HOG hvl
        generalize hugE : (Value.slice au Ag.length cu) = ug at HFI1 HBG
        clear hugE
        go_wp2_with (first
        | (refine wpList_load_sen rfl (.tmp 5) rfl HB0.out (by rfl) ?_)
        | (refine wpList_load_sen rfl (.tmp 12) rfl HB1.out (by rfl) ?_)
        | (refine wpList_twoS rfl (.tmp 52) (.tmp 53) rfl 54 rfl S0 S1 rfl rfl ?_; intro cells hcells))
        have M5 := (Mods.refl (S := []) (w := w7)).alloc (.cells cells 32)
        have HI0 := Lib.hid (HI0.out.mods0 M5)
        have HI1 := Lib.hid (HI1.out.mods0 M5)
        have HFI0 := Lib.hid (HFI0.out.mods0 M5)
        have HFI1 := Lib.hid (HFI1.out.mods0 M5)
        have HF0 := Lib.hid (M5.heap HF0.out (by simp))
        have HBG := Lib.hid (M5.heap HBG.out (by simp))
        have HM5 := Lib.hid (HX.out.trans M5)
        have HR5 := Lib.hid (heap_alloc_new w7 (.cells cells 32))
        generalize w7.alloc (.cells cells 32) = w5 at HI0 HI1 HFI0 HFI1 HF0 HBG HM5 HR5 ⊢
        generalize w7.heap.size = gq at HR5 ⊢
        clear M5 HB0 HB1 HX
        have HSQ : Hid (∀ q, q < 2 → ∃ S P, IsSen w5 S P ∧ ∀ j, j < 28 → cells[q * 28 + j]? = S.cells[j]?) := Lib.hid (fun q hq => by
          match q, hq with
          | 0, _ => exact ⟨S0, P0, HI0.out, fun j hj => (hcells j hj).1⟩
          | 1, _ => exact ⟨S1, P1, HI1.out, fun j hj => (hcells j hj).2⟩)
        clear hcells HI0 HI1
        go_loopw [56] (fun i wr => ∃ q : Nat, q ≤ 2 ∧ i = .int .i64 q ∧ Mods [] w5 wr) (fun i _ => 2 - (intOf i).toNat)
        case atStart => exact ⟨0, by omega, rfl, Mods.refl⟩
        case round =>
          obtain ⟨q, hq, rfl, M⟩ := hrel
          by_cases hq2 : q < 2
          · obtain ⟨S, P, IS, hg⟩ := HSQ.out q hq2
            have hone := Lib.hid IS.conv.rd.one
            have HIS := Lib.hid (IS.mods0 M)
            have HRG := Lib.hid (show wr.rangeAt gq (q * 28) S.cells.toList from fun j u hu => by
              have hj : j < 28 := (List.getElem?_eq_some_iff.1 hu).1
              have h4 : w5.cell? ⟨gq, q * 28 + j, none⟩ = some u := by rw [cell_blk HR5.out, hg j hj, ← hu]; simp
              exact M.cell h4 (by simp))
            have HM := Lib.hid M
            have HF0r := Lib.hid (M.heap HF0.out (by simp))
            have HBGr := Lib.hid (M.heap HBG.out (by simp))
            have i1 : (0 : Int) ≤ (q : Int) := by omega
            have i2 : (q : Int) < 2 := by omega
            clear M IS hg
            go_wp2_with (first
              | (refine wpList_store_row (cs := S.cells) rfl 32 (.tmp 15) (.tmp 59) rfl (heap_alloc_new wr _) (by rfl) (by rfl) (by rfl) (Sen.infoS _) (Sen.one _ hone.out) ?_; intro w6 R6 M6; have HB6 := Lib.hid (show SenBox w6 wr.heap.size S from ⟨R6⟩); have HF6 := Lib.hid (fresh M6); clear R6 M6)
              | (refine wpList_load_mid rfl 32 (.tmp 58) rfl gq (q * 28) (by rfl) S.cells.toList _ HRG.out Try.underlying32 rfl (Sen.infoS S) ?_)
              | (refine wpList_load_row rfl 90 (.tmp 6) rfl (g0 + 1) (by rfl) _ _ _ _ (HF6.out.heap HF0r.out (by simp)) Try.underlying90 rfl Try.infoFl ?_)
              | (refine wpList_load_row rfl 90 (.tmp 13) rfl gg (by rfl) _ _ _ _ (HF6.out.heap HBGr.out (by simp)) Try.underlying90 rfl Try.infoFl ?_)
              | (refine wpList_threeF rfl (.tmp 60) (.tmp 61) (.tmp 62) rfl 63 rfl (win, m0) (ug, (r5 - 1)) (.slice none 0 0, 0) rfl rfl rfl ?_; intro cf hcf))
            generalize wr.heap.size = g7 at HB6 ⊢
            have M7 := (Mods.refl (S := []) (w := w6)).alloc (.cells cf 90)
            have HM7 := Lib.hid (HM.out.trans (HF6.out.trans M7))
            have HB7 := Lib.hid (HB6.out.mods0 M7)
            have HIS7 := Lib.hid (HIS.out.mods0 (HF6.out.trans M7))
            have HR7 := Lib.hid (heap_alloc_new w6 (.cells cf 90))
            have HFA := Lib.hid (HFI0.out.mods0 HM7.out)
            have HFB := Lib.hid (HFI1.out.mods0 HM7.out)
            generalize w6.alloc (.cells cf 90) = w7 at HM7 HB7 HIS7 HR7 HFA HFB ⊢
            generalize w6.heap.size = gz at HR7 ⊢
            clear M7 HB6 HF6 HIS HM HF0r HBGr HRG hone
            have HFQ : Hid (∀ p, p < 3 → ∃ u A m, IsFlt w7 u A m ∧ ∀ j, j < 2 → cf[p * 2 + j]? = (fltC u m)[j]?) := Lib.hid (fun p hp => by
              match p, hp with
              | 0, _ => exact ⟨win, W0, m0, HFA.out, fun j hj => (hcf j hj).1⟩
              | 1, _ => exact ⟨ug, Ag, (r5 - 1), HFB.out, fun j hj => (hcf j hj).2.1⟩
              | 2, _ => exact ⟨.slice none 0 0, [], 0, ⟨Rd.nil _, fun i => by simp, by simp, by constructor <;> decide⟩, fun j hj => (hcf j hj).2.2⟩)
            clear hcf HFA HFB
            go_loopw [65] (fun i wr => ∃ p : Nat, p ≤ 3 ∧ i = .int .i64 p ∧ Mods [] w7 wr) (fun i _ => 3 - (intOf i).toNat)
            case atStart => exact ⟨0, by omega, rfl, Mods.refl⟩
            case round =>
              obtain ⟨p, hp, rfl, M⟩ := hrel
              have j1 : (0 : Int) ≤ (p : Int) := by omega
              by_cases hp3 : p < 3
              · obtain ⟨u, A, m, IF, hc⟩ := HFQ.out p hp3
                have hou := Lib.hid IF.rd.one
                have HIF := Lib.hid (IF.mods0 M)
                have HRF := Lib.hid (show wr.rangeAt gz (p * 2) (fltC u m).toList from fun j x hx => by
                  have hj : j < 2 := (List.getElem?_eq_some_iff.1 hx).1
                  have h4 : w7.cell? ⟨gz, p * 2 + j, none⟩ = some x := by rw [cell_blk HR7.out, hc j hj, ← hx]; simp
                  exact M.cell h4 (by simp))
                have HM := Lib.hid M
                have HBr := Lib.hid (HB7.out.mods0 M)
                have HISr := Lib.hid (HIS7.out.mods0 M)
                have j2 : (p : Int) < 3 := by omega
                clear M IF hc
                go_wp2_with (first
                  | (refine wpList_load_mid rfl 90 (.tmp 67) rfl gz (p * 2) (by rfl) (fltC u m).toList _ HRF.out Try.underlying90 rfl Try.infoFl ?_)
                  | (refine wpList_store_row (cs := fltC u m) rfl 90 (.tmp 17) (.tmp 68) rfl (heap_alloc_new wr _) (by rfl) (by rfl) (by rfl) Try.infoFl (fltC_one m hou.out) ?_; intro w8 R8 M8; have HF8 := Lib.hid (fresh M8); have HU8 := Lib.hid R8; have HB8 := Lib.hid (HBr.out.mods0 HF8.out); have HIF8 := Lib.hid (HIF.out.mods0 HF8.out); have HIS8 := Lib.hid (HISr.out.mods0 HF8.out); clear R8 M8)
                  | (refine wpList_load_sen rfl (.tmp 15) rfl HB8.out (by rfl) ?_)
                  | (refine wpList_load_row rfl 90 (.tmp 17) rfl wr.heap.size (by rfl) _ _ _ _ HU8.out Try.underlying90 rfl Try.infoFl ?_))
                generalize wr.heap.size = g8 at HU8 ⊢
                have HM8 := Lib.hid (HM.out.trans HF8.out)
                clear HM HBr HISr HIF HRF hou HF8
                have HBA := Lib.hid (bytes_mem HIF8.out.byt)
                have V1 := Lib.hid (fun W (M : Mods [] w8 W) => samStep_ok W S P u A m r ok (HIS8.out.mods0 M) (HIF8.out.mods0 M))
                have V2 := Lib.hid (fun W (M : Mods [] w8 W) => refStep14_ok W S P u A m r ok (HIS8.out.mods0 M) (HIF8.out.mods0 M))
                have V3 := Lib.hid (fun W (M : Mods [] w8 W) => samReading_ok W S P u A m (HIS8.out.mods0 M) (HIF8.out.mods0 M))
                have V4 := Lib.hid (fun W (M : Mods [] w8 W) => refReading_ok W S P u A m (HIS8.out.mods0 M) (HIF8.out.mods0 M))
                have V5 := Lib.hid (fun W (M : Mods [] w8 W) => samValid_ok W S P u A m (HIS8.out.mods0 M) (HIF8.out.mods0 M))
                have V6 := Lib.hid (fun W (M : Mods [] w8 W) => refSamValid_ok W S P u A m (HIS8.out.mods0 M) (HIF8.out.mods0 M))
                generalize stepA (fltB S P A m) S.samples A m r ok = R at V1 V2
                generalize rdB S P A m = rb at V3 V4
                generalize fltB S P A m = vb at V5 V6
                obtain ⟨⟨RA, rn⟩, re⟩ := R
                clear HIS8 HIF8
                refine (V1.out _ Mods.refl).mono ?_
                rintro e w9 ⟨ua, rfl, RDA, -, M9⟩
                dsimp only at RDA ⊢
                obtain ⟨aa, ca, rfl⟩ := RDA.len
                rw [u8s_length] at RDA ⊢
                have HRA := Lib.hid RDA
                have HM9 := Lib.hid M9
                have HB9 := Lib.hid (HB8.out.mods0 M9)
                have HU9 := Lib.hid (M9.heap HU8.out (by simp))
                clear RDA M9 HB8 HU8
                go_wp2_with (first
                  | (refine wpList_store_row (cs := fltC (.slice aa RA.length ca) rn) rfl 90 (.tmp 18) (.tmp 75) rfl (heap_alloc_new w9 _) (by rfl) (by rfl) (by rfl) Try.infoFl (fltC_one rn rfl) ?_; intro w10 R10 M10; have HF10 := Lib.hid (fresh M10); have HQ10 := Lib.hid R10; have HB10 := Lib.hid (HB9.out.mods0 HF10.out); have HU10 := Lib.hid (HF10.out.heap HU9.out (by simp)); clear R10 M10)
                  | (refine wpList_load_sen rfl (.tmp 15) rfl HB10.out (by rfl) ?_)
                  | (refine wpList_load_row rfl 90 (.tmp 17) rfl g8 (by rfl) _ _ _ _ HU10.out Try.underlying90 rfl Try.infoFl ?_))
                generalize w9.heap.size = ga at HQ10 ⊢
                have HRA10 := Lib.hid (HRA.out.mods0 HF10.out)
                have HM10 := Lib.hid (HM9.out.trans HF10.out)
                clear HRA HF10 HB9 HU9 HM9
                refine (V2.out _ HM10.out).mono ?_
                rintro e w11 ⟨ub, rfl, RDB, -, M11⟩
                dsimp only at RDB ⊢
                obtain ⟨ab, cb, rfl⟩ := RDB.len
                rw [u8s_length] at RDB ⊢
                have HRB := Lib.hid RDB
                have HRA11 := Lib.hid (HRA10.out.mods0 M11)
                have HM11 := Lib.hid (HM10.out.trans M11)
                have HB11 := Lib.hid (HB10.out.mods0 M11)
                have HU11 := Lib.hid (M11.heap HU10.out (by simp))
                have HQ11 := Lib.hid (M11.heap HQ10.out (by simp))
                clear RDB M11 HB10 HU10 HQ10 HRA10 HM10
                go_wp2_with (first
                  | (refine wpList_store_row (cs := fltC (.slice ab RA.length cb) rn) rfl 90 (.tmp 20) (.tmp 83) rfl (heap_alloc_new w11 _) (by rfl) (by rfl) (by rfl) Try.infoFl (fltC_one rn rfl) ?_; intro w12 R12 M12; have HF12 := Lib.hid (fresh M12); have HV12 := Lib.hid R12; have HB12 := Lib.hid (HB11.out.mods0 HF12.out); have HU12 := Lib.hid (HF12.out.heap HU11.out (by simp)); clear R12 M12)
                  | (refine wpList_load_sen rfl (.tmp 15) rfl HB12.out (by rfl) ?_)
                  | (refine wpList_load_row rfl 90 (.tmp 17) rfl g8 (by rfl) _ _ _ _ HU12.out Try.underlying90 rfl Try.infoFl ?_))
                generalize w11.heap.size = gb at HV12 ⊢
                have HRA12 := Lib.hid (HRA11.out.mods0 HF12.out)
                have HRB12 := Lib.hid (HRB.out.mods0 HF12.out)
                have HM12 := Lib.hid (HM11.out.trans HF12.out)
                have HQ12 := Lib.hid (HF12.out.heap HQ11.out (by simp))
                clear HRA11 HRB HF12 HB11 HU11 HM11 HQ11
                refine (V3.out _ HM12.out).mono ?_
                intro e w13 h13
                obtain ⟨x, y, rfl, hx, M13⟩ := h13.val
                have HXV := Lib.hid hx
                have HM13 := Lib.hid M13
                clear hx M13 h13
                go_wp2_with (first
                  | (refine wpList_load_sen rfl (.tmp 15) rfl (HB12.out.mods0 HM13.out) (by rfl) ?_)
                  | (refine wpList_load_row rfl 90 (.tmp 17) rfl g8 (by rfl) _ _ _ _ (HM13.out.heap HU12.out (by simp)) Try.underlying90 rfl Try.infoFl ?_))
                refine (V4.out _ (HM12.out.trans HM13.out)).mono ?_
                intro e w14 h14
                obtain ⟨x', y', rfl, hx, M14⟩ := h14.val
                obtain ⟨rfl, rfl⟩ := HXV.out.uniq HBA.out hx
                have HM14 := Lib.hid (HM12.out.trans (HM13.out.trans M14))
                have HB14 := Lib.hid (HB12.out.mods0 (HM13.out.trans M14))
                have HU14 := Lib.hid ((HM13.out.trans M14).heap HU12.out (by simp))
                have HQ14 := Lib.hid ((HM13.out.trans M14).heap HQ12.out (by simp))
                have HV14 := Lib.hid ((HM13.out.trans M14).heap HV12.out (by simp))
                have SM := Lib.hid (fun W (M : Mods [] w14 W) => same14_ok W _ _ RA RA rn rn (HRA12.out.mods0 ((HM13.out.trans M14).trans M)) (HRB12.out.mods0 ((HM13.out.trans M14).trans M)))
                rw [show (decide (rn = rn) && (RA == RA)) = true by simp] at SM
                clear hx M14 h14 HXV HM13 HB12 HU12 HQ12 HV12 HRA12 HRB12 HM12 V1 V2 V3 V4 HBA
                have e1 : (vb != vb) = false := by cases vb <;> rfl
                have e2 : (re != re) = false := by simp
                have e3 : (x' != x') = false := by simp
                have e4 : (y' != y') = false := by cases y' <;> rfl
                go_wp2_with fail
                try dsimp only [Act.put]
                refine heldStart (S := fun W => Mods [] w14 W ∧ W.heap[g7]? = some (.cells S.cells 32 (0, 0)) ∧ W.heap[g8]? = some (.cells (fltC u m) 90 (0, 0)) ∧ W.heap[ga]? = some (.cells (fltC (.slice aa RA.length ca) rn) 90 (0, 0)) ∧ W.heap[gb]? = some (.cells (fltC (.slice ab RA.length cb) rn) 90 (0, 0))) 28 rfl (by kernel_rfl) ⟨Mods.refl.drew, HB14.out.blk, HU14.out, HQ14.out, HV14.out⟩ (fun hHeld => ?_)
                refine takeD (i := 0) (d := 97) (v := .agg S.cells) rfl rfl (by kernel_rfl) (by kernel_rfl) (by kernel_rfl) (fun _ _ _ h => h) (yieldsIf_load_row rfl 32 (.tmp 15) rfl g7 rfl 32 S.cells (0, 0) _ (fun w h=>h.2.1) Try.underlying32 rfl S.infoS) hHeld ?_
                simp only [List.setIfInBounds_toArray, List.set_cons_zero, List.set_cons_succ]
                refine takeD (i := 1) (d := 98) (v := .agg (fltC u m)) rfl rfl (by kernel_rfl) (by kernel_rfl) (by kernel_rfl) (fun _ _ _ h => h) (yieldsIf_load_rowG (by rfl) 90 (.tmp 17) rfl g8 rfl 90 (fltC u m) (0, 0) _ (fun w h=>h.2.2.1) Try.underlying90 rfl Try.infoFl) hHeld ?_
                simp only [List.setIfInBounds_toArray, List.set_cons_zero, List.set_cons_succ]
                refine takeD (i := 3) (d := 100) (v := .agg S.cells) rfl rfl (by kernel_rfl) (by kernel_rfl) (by kernel_rfl) (fun _ _ _ h => h) (yieldsIf_load_row rfl 32 (.tmp 15) rfl g7 rfl 32 S.cells (0, 0) _ (fun w h=>h.2.1) Try.underlying32 rfl S.infoS) hHeld ?_
                simp only [List.setIfInBounds_toArray, List.set_cons_zero, List.set_cons_succ]
                refine takeD (i := 4) (d := 101) (v := .agg (fltC u m)) rfl rfl (by kernel_rfl) (by kernel_rfl) (by kernel_rfl) (fun _ _ _ h => h) (yieldsIf_load_rowG (by rfl) 90 (.tmp 17) rfl g8 rfl 90 (fltC u m) (0, 0) _ (fun w h=>h.2.2.1) Try.underlying90 rfl Try.infoFl) hHeld ?_
                simp only [List.setIfInBounds_toArray, List.set_cons_zero, List.set_cons_succ]
                refine wpAnyH_ready (rs := [2]) (by kernel_rfl) (by simp) ?_
                refine AllReadyH.cons rfl (fun K hK => ?_) AllReadyH.nil
                go_simp
                go_wp2_with (go_at_call 68; refine (V5.out _ (HM14.out.trans hHeld.1)).mono ?_; rintro e wc ⟨rfl, Mc⟩)
                refine hK.out _ _ ?_ (fun hHeld => ?_)
                · exact ⟨hHeld.1.trans Mc, Mc.heap hHeld.2.1 (by simp), Mc.heap hHeld.2.2.1 (by simp), Mc.heap hHeld.2.2.2.1 (by simp), Mc.heap hHeld.2.2.2.2 (by simp)⟩
                clear hK K
                clear Mc
                refine wpAnyH_ready (rs := [5]) (by kernel_rfl) (by simp) ?_
                refine AllReadyH.cons rfl (fun K hK => ?_) AllReadyH.nil
                go_simp
                go_wp2_with (go_at_call 69; refine (V6.out _ (HM14.out.trans hHeld.1)).mono ?_; rintro e wd ⟨rfl, Mc⟩)
                refine hK.out _ _ ?_ (fun hHeld => ?_)
                · exact ⟨hHeld.1.trans Mc, Mc.heap hHeld.2.1 (by simp), Mc.heap hHeld.2.2.1 (by simp), Mc.heap hHeld.2.2.2.1 (by simp), Mc.heap hHeld.2.2.2.2 (by simp)⟩
                clear hK K
                clear Mc
                refine takeD (i := 6) (d := 103) (v := ?_) rfl rfl (by kernel_rfl) (by kernel_rfl) (by kernel_rfl) (fun _ _ _ h => h) (Or.inl ⟨by rfl, ?_⟩) hHeld ?_
                rotate_left 1
                · (intro w hSw; (try dsimp only at hSw); go_simp; (try with_reducible rfl))
                simp only [List.setIfInBounds_toArray, List.set_cons_zero, List.set_cons_succ]
                refine takeD (i := 7) (d := 104) (v := ?_) rfl rfl (by kernel_rfl) (by kernel_rfl) (by kernel_rfl) (fun _ _ _ h => h) (Or.inl ⟨by rfl, ?_⟩) hHeld ?_
                rotate_left 1
                · (intro w hSw; (try dsimp only at hSw); go_simp; (try with_reducible rfl))
                simp only [List.setIfInBounds_toArray, List.set_cons_zero, List.set_cons_succ]
                refine takeD (i := 8) (d := 105) (v := ?_) rfl rfl (by kernel_rfl) (by kernel_rfl) (by kernel_rfl) (fun _ _ _ h => h) (Or.inl ⟨by rfl, ?_⟩) hHeld ?_
                rotate_left 1
                · (intro w hSw; (try dsimp only at hSw); go_simp; (try with_reducible rfl))
                simp only [List.setIfInBounds_toArray, List.set_cons_zero, List.set_cons_succ]
                refine takeD (i := 9) (d := 106) (v := ?_) rfl rfl (by kernel_rfl) (by kernel_rfl) (by kernel_rfl) (fun _ _ _ h => h) (Or.inl ⟨by rfl, ?_⟩) hHeld ?_
                rotate_left 1
                · (intro w hSw; (try dsimp only at hSw); go_simp; (try with_reducible rfl))
                simp only [List.setIfInBounds_toArray, List.set_cons_zero, List.set_cons_succ]
                refine takeD (i := 10) (d := 107) (v := ?_) rfl rfl (by kernel_rfl) (by kernel_rfl) (by kernel_rfl) (fun _ _ _ h => h) (Or.inl ⟨by rfl, ?_⟩) hHeld ?_
                rotate_left 1
                · (intro w hSw; (try dsimp only at hSw); go_simp; (try with_reducible rfl))
                simp only [List.setIfInBounds_toArray, List.set_cons_zero, List.set_cons_succ]
                refine takeD (i := 11) (d := 108) (v := ?_) rfl rfl (by kernel_rfl) (by kernel_rfl) (by kernel_rfl) (fun _ _ _ h => h) (Or.inl ⟨by rfl, ?_⟩) hHeld ?_
                rotate_left 1
                · (intro w hSw; (try dsimp only at hSw); go_simp; (try with_reducible rfl))
                simp only [List.setIfInBounds_toArray, List.set_cons_zero, List.set_cons_succ]
                refine takeD (i := 12) (d := 109) (v := ?_) rfl rfl (by kernel_rfl) (by kernel_rfl) (by kernel_rfl) (fun _ _ _ h => h) (Or.inl ⟨by rfl, ?_⟩) hHeld ?_
                rotate_left 1
                · (intro w hSw; (try dsimp only at hSw); go_simp; (try with_reducible rfl))
                simp only [List.setIfInBounds_toArray, List.set_cons_zero, List.set_cons_succ]
                refine takeD (i := 13) (d := 110) (v := .agg (fltC (.slice aa RA.length ca) rn)) rfl rfl (by kernel_rfl) (by kernel_rfl) (by kernel_rfl) (fun _ _ _ h => h) (yieldsIf_load_rowG (by rfl) 90 (.tmp 18) rfl ga rfl 90 (fltC (.slice aa RA.length ca) rn) (0, 0) _ (fun w h=>h.2.2.2.1) Try.underlying90 rfl Try.infoFl) hHeld ?_
                simp only [List.setIfInBounds_toArray, List.set_cons_zero, List.set_cons_succ]
                refine takeD (i := 14) (d := 111) (v := .agg (fltC (.slice ab RA.length cb) rn)) rfl rfl (by kernel_rfl) (by kernel_rfl) (by kernel_rfl) (fun _ _ _ h => h) (yieldsIf_load_rowG (by rfl) 90 (.tmp 20) rfl gb rfl 90 (fltC (.slice ab RA.length cb) rn) (0, 0) _ (fun w h=>h.2.2.2.2) Try.underlying90 rfl Try.infoFl) hHeld ?_
                simp only [List.setIfInBounds_toArray, List.set_cons_zero, List.set_cons_succ]
                refine wpAnyH_ready (rs := [15]) (by kernel_rfl) (by simp) ?_
                refine AllReadyH.cons rfl (fun K hK => ?_) AllReadyH.nil
                go_simp
                go_wp2_with (go_at_call 70; refine (SM.out _ hHeld.1).mono ?_; rintro e wf ⟨rfl, Mc⟩)
                refine hK.out _ _ ?_ (fun hHeld => ?_)
                · exact ⟨hHeld.1.trans Mc, Mc.heap hHeld.2.1 (by simp), Mc.heap hHeld.2.2.1 (by simp), Mc.heap hHeld.2.2.2.1 (by simp), Mc.heap hHeld.2.2.2.2 (by simp)⟩
                clear hK K
                clear Mc
                refine takeD (i := 16) (d := 113) (v := ?_) rfl rfl (by kernel_rfl) (by kernel_rfl) (by kernel_rfl) (fun _ _ _ h => h) (Or.inl ⟨by rfl, ?_⟩) hHeld ?_
                rotate_left 1
                · (intro w hSw; (try dsimp only at hSw); go_simp; (try with_reducible rfl))
                simp only [List.setIfInBounds_toArray, List.set_cons_zero, List.set_cons_succ]
                refine takeD (i := 17) (d := 114) (v := ?_) rfl rfl (by kernel_rfl) (by kernel_rfl) (by kernel_rfl) (fun _ _ _ h => h) (Or.inl ⟨by rfl, ?_⟩) hHeld ?_
                rotate_left 1
                · (intro w hSw; (try dsimp only at hSw); go_simp; (try with_reducible rfl))
                simp only [List.setIfInBounds_toArray, List.set_cons_zero, List.set_cons_succ]
                refine takeD (i := 18) (d := 115) (v := ?_) rfl rfl (by kernel_rfl) (by kernel_rfl) (by kernel_rfl) (fun _ _ _ h => h) (Or.inl ⟨by rfl, ?_⟩) hHeld ?_
                rotate_left 1
                · (intro w hSw; (try dsimp only at hSw); go_simp; (try with_reducible rfl))
                simp only [List.setIfInBounds_toArray, List.set_cons_zero, List.set_cons_succ]
                refine takeD (i := 19) (d := 116) (v := ?_) rfl rfl (by kernel_rfl) (by kernel_rfl) (by kernel_rfl) (fun _ _ _ h => h) (Or.inl ⟨by rfl, ?_⟩) hHeld ?_
                rotate_left 1
                · (intro w hSw; (try dsimp only at hSw); go_simp; (try with_reducible rfl))
                simp only [List.setIfInBounds_toArray, List.set_cons_zero, List.set_cons_succ]
                refine takeD (i := 20) (d := 117) (v := ?_) rfl rfl (by kernel_rfl) (by kernel_rfl) (by kernel_rfl) (fun _ _ _ h => h) (Or.inl ⟨by rfl, ?_⟩) hHeld ?_
                rotate_left 1
                · (intro w hSw; (try dsimp only at hSw); go_simp; (try with_reducible rfl))
                simp only [List.setIfInBounds_toArray, List.set_cons_zero, List.set_cons_succ]
                refine takeD (i := 21) (d := 118) (v := ?_) rfl rfl (by kernel_rfl) (by kernel_rfl) (by kernel_rfl) (fun _ _ _ h => h) (Or.inl ⟨by rfl, ?_⟩) hHeld ?_
                rotate_left 1
                · (intro w hSw; (try dsimp only at hSw); go_simp; (try with_reducible rfl))
                simp only [List.setIfInBounds_toArray, List.set_cons_zero, List.set_cons_succ]
                refine takeD (i := 22) (d := 119) (v := ?_) rfl rfl (by kernel_rfl) (by kernel_rfl) (by kernel_rfl) (fun _ _ _ h => h) (Or.inl ⟨by rfl, ?_⟩) hHeld ?_
                rotate_left 1
                · (intro w hSw; (try dsimp only at hSw); go_simp; (try with_reducible rfl))
                simp only [List.setIfInBounds_toArray, List.set_cons_zero, List.set_cons_succ]
                refine takeD (i := 23) (d := 120) (v := ?_) rfl rfl (by kernel_rfl) (by kernel_rfl) (by kernel_rfl) (fun _ _ _ h => h) (Or.inl ⟨by rfl, ?_⟩) hHeld ?_
                rotate_left 1
                · (intro w hSw; (try dsimp only at hSw); go_simp; (try with_reducible rfl))
                simp only [List.setIfInBounds_toArray, List.set_cons_zero, List.set_cons_succ]
                refine takeD (i := 24) (d := 121) (v := ?_) rfl rfl (by kernel_rfl) (by kernel_rfl) (by kernel_rfl) (fun _ _ _ h => h) (Or.inl ⟨by rfl, ?_⟩) hHeld ?_
                rotate_left 1
                · (intro w hSw; (try dsimp only at hSw); go_simp; (try with_reducible rfl))
                simp only [List.setIfInBounds_toArray, List.set_cons_zero, List.set_cons_succ]
                refine takeD (i := 25) (d := 122) (v := ?_) rfl rfl (by kernel_rfl) (by kernel_rfl) (by kernel_rfl) (fun _ _ _ h => h) (Or.inl ⟨by rfl, ?_⟩) hHeld ?_
                rotate_left 1
                · (intro w hSw; (try dsimp only at hSw); go_simp; (try with_reducible rfl))
                simp only [List.setIfInBounds_toArray, List.set_cons_zero, List.set_cons_succ]
                refine takeD (i := 26) (d := 123) (v := ?_) rfl rfl (by kernel_rfl) (by kernel_rfl) (by kernel_rfl) (fun _ _ _ h => h) (Or.inl ⟨by rfl, ?_⟩) hHeld ?_
                rotate_left 1
                · (intro w hSw; (try dsimp only at hSw); go_simp; (try with_reducible rfl))
                simp only [List.setIfInBounds_toArray, List.set_cons_zero, List.set_cons_succ]
                refine takeD (i := 27) (d := 124) (v := ?_) rfl rfl (by kernel_rfl) (by kernel_rfl) (by kernel_rfl) (fun _ _ _ h => h) (Or.inl ⟨by rfl, ?_⟩) hHeld ?_
                rotate_left 1
                · (intro w hSw; (try dsimp only at hSw); go_simp; (try with_reducible rfl))
                simp only [List.setIfInBounds_toArray, List.set_cons_zero, List.set_cons_succ]
                refine wpAnyH_done (by kernel_rfl) ?_ _
                have HMZ := Lib.hid (HM8.out.trans (HM14.out.trans hHeld.1))
                clear hHeld SM HM14 HB14 HU14 HQ14 HV14 V5 V6
                go_wp2_with fail
                exact ⟨⟨p + 1, by omega, by go_num, HMZ.out⟩, by simp only [intOf]; omega⟩
              · have j2 : ¬ (p : Int) < 3 := by omega
                have HX := Lib.hid (HM7.out.trans M)
                clear M
                go_wp2_with fail
                exact ⟨⟨q + 1, by omega, by go_num, HX.out⟩, by simp only [intOf]; omega⟩
          · have i2 : ¬ (q : Int) < 2 := by omega
            have HX := Lib.hid (HM5.out.trans M)
            clear M
            go_wp2_with fail
            refine (awakeM_ok _).mono ?_
            rintro e w1 ⟨rfl, M1⟩
            go_wp2
            go_ret
            exact ⟨rfl, HX.out.trans M1⟩
      | true =>
        have cx : w7.cell? ⟨gx, 27, none⟩ = some (.int .i64 S1.samples) := (cell_blk HX7.out 27).trans rfl
        have fx := froz_blk HX7.out 27
        go_wp2_with fail
        clear cx fx
        have MS := (Mods.refl (S := [gx]) (w := w7)).setCell (p := ⟨gx, 27, none⟩) (.inl (by simp)) (.int .i64 5)
        have HX8 : Hid ((w7.setCell ⟨gx, 27, none⟩ (.int .i64 5)).heap[gx]? = some (.cells ({ S1 with samples := 5 } : Sen).cells 32 (0, 0))) := Lib.hid (heap_setCell (i := 27) (v := .int .i64 5) HX7.out)
        have HM8 := Lib.hid (HM7.out.comp MS (fun q hq => by simp at hq; subst hq; exact .inr (by have := HG0.out; omega)))
        have HB8 := Lib.hid (HB7.out.mods MS (by simp; omega))
        have HFF8 := Lib.hid (MS.heap HFF7.out (by simp; omega))
        have HG8 := Lib.hid (MS.heap HG7.out (by simp; omega))
        have HI8 := Lib.hid (show IsSen (w7.setCell ⟨gx, 27, none⟩ (.int .i64 5)) { S1 with samples := 5 } P1 from { HI7.out.mods MS (fun _ q hq => by simpa using (HN1.out q hq).2) with samples := show I64 5 from i64_small (by omega) })
        have HOB8 := Lib.hid (HOB7.out.mods MS (fun q hq => by have := (HOB7.out.lt q hq).1; simp; omega))
        have HD8 := Lib.hid (HD7.out.mods MS (by simp; omega) (fun hl q hq => by have := hvl.out hl q hq; simp; omega))
        clear MS HX7 HM7 HB7 HFF7 HG7 HI7 HOB7 HD7
        generalize w7.setCell ⟨gx, 27, none⟩ (.int .i64 5) = w8 at HX8 HM8 HB8 HFF8 HG8 HI8 HOB8 HD8 ⊢
        refine (next_ok w8 b v L n7 HD8.out 3 (by omega) (by omega)).mono ?_
        rintro e w9 ⟨r9, n9, rfl, r90, r91, D9, M9⟩
        have HOB9 := Lib.hid (HOB8.out.mods M9 (fun q hq => by have := (HOB8.out.lt q hq).1; simp; omega))
        have HG9 := Lib.hid (M9.heap HG8.out (by simp; omega))
        have HM9 := Lib.hid (HM8.out.comp M9 (fun q hq => by simp at hq; subst hq; exact .inr (by have := HG0.out; omega)))
        have HB9 := Lib.hid (HB8.out.mods M9 (by simp; omega))
        have HFF9 := Lib.hid (M9.heap HFF8.out (by simp; omega))
        have HX9 := Lib.hid (M9.heap HX8.out (by simp; omega))
        have HI9 := Lib.hid (HI8.out.mods M9 (fun _ q hq => by simpa using (HN1.out q hq).1))
        clear D9 M9 HX8 HM8 HB8 HFF8 HG8 HI8 HOB8 HD8
        have cx : w9.cell? ⟨gg, 1, none⟩ = some (.int .i64 (r5 - 1)) := (cell_blk HG9.out 1).trans rfl
        have fx := froz_blk HG9.out 1
        have MS := (Mods.refl (S := [gg]) (w := w9)).setCell (p := ⟨gg, 1, none⟩) (.inl (by simp)) (.int .i64 r9)
        have HBG : Hid ((w9.setCell ⟨gg, 1, none⟩ (.int .i64 r9)).heap[gg]? = some (.cells (fltC (.slice au Ag.length cu) r9) 90 (0, 0))) := Lib.hid (heap_setCell (i := 1) (v := .int .i64 r9) HG9.out)
        have HX := Lib.hid (HM9.out.comp MS (fun q hq => by simp at hq; subst hq; exact .inr (by have := HG0.out; omega)))
        have HB0 := Lib.hid (HB9.out.mods MS (by simp; omega))
        have HB1 := Lib.hid (show SenBox (w9.setCell ⟨gg, 1, none⟩ (.int .i64 r9)) gx { S1 with samples := 5 } from ⟨MS.heap HX9.out (by simp; omega)⟩)
        have HF0 := Lib.hid (MS.heap HFF9.out (by simp; omega))
        have HI1 := Lib.hid (HI9.out.mods MS (fun _ q hq => by have := (HN1.out q hq).2; have := (HN1.out q hq).1; have := HNX.out q hq; simp; omega))
        have HI0 := Lib.hid (HIq.out.mods0 HX.out)
        have HFI0 := Lib.hid (HFq.out.mods0 HX.out)
        have HFI1 := Lib.hid (show IsFlt (w9.setCell ⟨gg, 1, none⟩ (.int .i64 r9)) (.slice au Ag.length cu) Ag r9 from ⟨(HOB9.out.mods MS (fun q hq => by simpa using HOG.out q hq)).rd, HBY.out, by have := HLE.out; omega, i64_small (by omega)⟩)
        clear MS HM9 HB9 HX9 HFF9 HI9 HIq HFq HOB9 HG9 HN1 hone hr5 HOG hvl HNX
        go_wp2_with (first
        | (refine wpList_load_sen rfl (.tmp 5) rfl HB0.out (by rfl) ?_)
        | (refine wpList_load_sen rfl (.tmp 12) rfl HB1.out (by rfl) ?_)
        | (refine wpList_twoS rfl (.tmp 52) (.tmp 53) rfl 54 rfl S0 { S1 with samples := 5 } rfl rfl ?_; intro cells hcells))
        clear cx fx
        have hsz : (w9.setCell ⟨gg, 1, none⟩ (.int .i64 r9)).heap.size = w9.heap.size := by simp
        generalize w9.setCell ⟨gg, 1, none⟩ (.int .i64 r9) = wA at hsz HBG HX HB0 HB1 HF0 HI1 HI0 HFI0 HFI1 ⊢
        generalize ({ S1 with samples := 5 } : Sen) = S1 at HB1 HI1 hcells ⊢
        rw [← hsz]
        clear hsz
        generalize hugE : (Value.slice au Ag.length cu) = ug at HFI1 HBG
        clear hugE
        have M5 := (Mods.refl (S := []) (w := wA)).alloc (.cells cells 32)
        have HI0 := Lib.hid (HI0.out.mods0 M5)
        have HI1 := Lib.hid (HI1.out.mods0 M5)
        have HFI0 := Lib.hid (HFI0.out.mods0 M5)
        have HFI1 := Lib.hid (HFI1.out.mods0 M5)
        have HF0 := Lib.hid (M5.heap HF0.out (by simp))
        have HBG := Lib.hid (M5.heap HBG.out (by simp))
        have HM5 := Lib.hid (HX.out.trans M5)
        have HR5 := Lib.hid (heap_alloc_new wA (.cells cells 32))
        generalize wA.alloc (.cells cells 32) = w5 at HI0 HI1 HFI0 HFI1 HF0 HBG HM5 HR5 ⊢
        generalize wA.heap.size = gq at HR5 ⊢
        clear M5 HB0 HB1 HX
        have HSQ : Hid (∀ q, q < 2 → ∃ S P, IsSen w5 S P ∧ ∀ j, j < 28 → cells[q * 28 + j]? = S.cells[j]?) := Lib.hid (fun q hq => by
          match q, hq with
          | 0, _ => exact ⟨S0, P0, HI0.out, fun j hj => (hcells j hj).1⟩
          | 1, _ => exact ⟨S1, P1, HI1.out, fun j hj => (hcells j hj).2⟩)
        clear hcells HI0 HI1
        go_loopw [56] (fun i wr => ∃ q : Nat, q ≤ 2 ∧ i = .int .i64 q ∧ Mods [] w5 wr) (fun i _ => 2 - (intOf i).toNat)
        case atStart => exact ⟨0, by omega, rfl, Mods.refl⟩
        case round =>
          obtain ⟨q, hq, rfl, M⟩ := hrel
          by_cases hq2 : q < 2
          · obtain ⟨S, P, IS, hg⟩ := HSQ.out q hq2
            have hone := Lib.hid IS.conv.rd.one
            have HIS := Lib.hid (IS.mods0 M)
            have HRG := Lib.hid (show wr.rangeAt gq (q * 28) S.cells.toList from fun j u hu => by
              have hj : j < 28 := (List.getElem?_eq_some_iff.1 hu).1
              have h4 : w5.cell? ⟨gq, q * 28 + j, none⟩ = some u := by rw [cell_blk HR5.out, hg j hj, ← hu]; simp
              exact M.cell h4 (by simp))
            have HM := Lib.hid M
            have HF0r := Lib.hid (M.heap HF0.out (by simp))
            have HBGr := Lib.hid (M.heap HBG.out (by simp))
            have i1 : (0 : Int) ≤ (q : Int) := by omega
            have i2 : (q : Int) < 2 := by omega
            clear M IS hg
            go_wp2_with (first
              | (refine wpList_store_row (cs := S.cells) rfl 32 (.tmp 15) (.tmp 59) rfl (heap_alloc_new wr _) (by rfl) (by rfl) (by rfl) (Sen.infoS _) (Sen.one _ hone.out) ?_; intro w6 R6 M6; have HB6 := Lib.hid (show SenBox w6 wr.heap.size S from ⟨R6⟩); have HF6 := Lib.hid (fresh M6); clear R6 M6)
              | (refine wpList_load_mid rfl 32 (.tmp 58) rfl gq (q * 28) (by rfl) S.cells.toList _ HRG.out Try.underlying32 rfl (Sen.infoS S) ?_)
              | (refine wpList_load_row rfl 90 (.tmp 6) rfl (g0 + 1) (by rfl) _ _ _ _ (HF6.out.heap HF0r.out (by simp)) Try.underlying90 rfl Try.infoFl ?_)
              | (refine wpList_load_row rfl 90 (.tmp 13) rfl gg (by rfl) _ _ _ _ (HF6.out.heap HBGr.out (by simp)) Try.underlying90 rfl Try.infoFl ?_)
              | (refine wpList_threeF rfl (.tmp 60) (.tmp 61) (.tmp 62) rfl 63 rfl (win, m0) (ug, r9) (.slice none 0 0, 0) rfl rfl rfl ?_; intro cf hcf))
            generalize wr.heap.size = g7 at HB6 ⊢
            have M7 := (Mods.refl (S := []) (w := w6)).alloc (.cells cf 90)
            have HM7 := Lib.hid (HM.out.trans (HF6.out.trans M7))
            have HB7 := Lib.hid (HB6.out.mods0 M7)
            have HIS7 := Lib.hid (HIS.out.mods0 (HF6.out.trans M7))
            have HR7 := Lib.hid (heap_alloc_new w6 (.cells cf 90))
            have HFA := Lib.hid (HFI0.out.mods0 HM7.out)
            have HFB := Lib.hid (HFI1.out.mods0 HM7.out)
            generalize w6.alloc (.cells cf 90) = w7 at HM7 HB7 HIS7 HR7 HFA HFB ⊢
            generalize w6.heap.size = gz at HR7 ⊢
            clear M7 HB6 HF6 HIS HM HF0r HBGr HRG hone
            have HFQ : Hid (∀ p, p < 3 → ∃ u A m, IsFlt w7 u A m ∧ ∀ j, j < 2 → cf[p * 2 + j]? = (fltC u m)[j]?) := Lib.hid (fun p hp => by
              match p, hp with
              | 0, _ => exact ⟨win, W0, m0, HFA.out, fun j hj => (hcf j hj).1⟩
              | 1, _ => exact ⟨ug, Ag, r9, HFB.out, fun j hj => (hcf j hj).2.1⟩
              | 2, _ => exact ⟨.slice none 0 0, [], 0, ⟨Rd.nil _, fun i => by simp, by simp, by constructor <;> decide⟩, fun j hj => (hcf j hj).2.2⟩)
            clear hcf HFA HFB
            go_loopw [65] (fun i wr => ∃ p : Nat, p ≤ 3 ∧ i = .int .i64 p ∧ Mods [] w7 wr) (fun i _ => 3 - (intOf i).toNat)
            case atStart => exact ⟨0, by omega, rfl, Mods.refl⟩
            case round =>
              obtain ⟨p, hp, rfl, M⟩ := hrel
              have j1 : (0 : Int) ≤ (p : Int) := by omega
              by_cases hp3 : p < 3
              · obtain ⟨u, A, m, IF, hc⟩ := HFQ.out p hp3
                have hou := Lib.hid IF.rd.one
                have HIF := Lib.hid (IF.mods0 M)
                have HRF := Lib.hid (show wr.rangeAt gz (p * 2) (fltC u m).toList from fun j x hx => by
                  have hj : j < 2 := (List.getElem?_eq_some_iff.1 hx).1
                  have h4 : w7.cell? ⟨gz, p * 2 + j, none⟩ = some x := by rw [cell_blk HR7.out, hc j hj, ← hx]; simp
                  exact M.cell h4 (by simp))
                have HM := Lib.hid M
                have HBr := Lib.hid (HB7.out.mods0 M)
                have HISr := Lib.hid (HIS7.out.mods0 M)
                have j2 : (p : Int) < 3 := by omega
                clear M IF hc
                go_wp2_with (first
                  | (refine wpList_load_mid rfl 90 (.tmp 67) rfl gz (p * 2) (by rfl) (fltC u m).toList _ HRF.out Try.underlying90 rfl Try.infoFl ?_)
                  | (refine wpList_store_row (cs := fltC u m) rfl 90 (.tmp 17) (.tmp 68) rfl (heap_alloc_new wr _) (by rfl) (by rfl) (by rfl) Try.infoFl (fltC_one m hou.out) ?_; intro w8 R8 M8; have HF8 := Lib.hid (fresh M8); have HU8 := Lib.hid R8; have HB8 := Lib.hid (HBr.out.mods0 HF8.out); have HIF8 := Lib.hid (HIF.out.mods0 HF8.out); have HIS8 := Lib.hid (HISr.out.mods0 HF8.out); clear R8 M8)
                  | (refine wpList_load_sen rfl (.tmp 15) rfl HB8.out (by rfl) ?_)
                  | (refine wpList_load_row rfl 90 (.tmp 17) rfl wr.heap.size (by rfl) _ _ _ _ HU8.out Try.underlying90 rfl Try.infoFl ?_))
                generalize wr.heap.size = g8 at HU8 ⊢
                have HM8 := Lib.hid (HM.out.trans HF8.out)
                clear HM HBr HISr HIF HRF hou HF8
                have HBA := Lib.hid (bytes_mem HIF8.out.byt)
                have V1 := Lib.hid (fun W (M : Mods [] w8 W) => samStep_ok W S P u A m r ok (HIS8.out.mods0 M) (HIF8.out.mods0 M))
                have V2 := Lib.hid (fun W (M : Mods [] w8 W) => refStep14_ok W S P u A m r ok (HIS8.out.mods0 M) (HIF8.out.mods0 M))
                have V3 := Lib.hid (fun W (M : Mods [] w8 W) => samReading_ok W S P u A m (HIS8.out.mods0 M) (HIF8.out.mods0 M))
                have V4 := Lib.hid (fun W (M : Mods [] w8 W) => refReading_ok W S P u A m (HIS8.out.mods0 M) (HIF8.out.mods0 M))
                have V5 := Lib.hid (fun W (M : Mods [] w8 W) => samValid_ok W S P u A m (HIS8.out.mods0 M) (HIF8.out.mods0 M))
                have V6 := Lib.hid (fun W (M : Mods [] w8 W) => refSamValid_ok W S P u A m (HIS8.out.mods0 M) (HIF8.out.mods0 M))
                generalize stepA (fltB S P A m) S.samples A m r ok = R at V1 V2
                generalize rdB S P A m = rb at V3 V4
                generalize fltB S P A m = vb at V5 V6
                obtain ⟨⟨RA, rn⟩, re⟩ := R
                clear HIS8 HIF8
                refine (V1.out _ Mods.refl).mono ?_
                rintro e w9 ⟨ua, rfl, RDA, -, M9⟩
                dsimp only at RDA ⊢
                obtain ⟨aa, ca, rfl⟩ := RDA.len
                rw [u8s_length] at RDA ⊢
                have HRA := Lib.hid RDA
                have HM9 := Lib.hid M9
                have HB9 := Lib.hid (HB8.out.mods0 M9)
                have HU9 := Lib.hid (M9.heap HU8.out (by simp))
                clear RDA M9 HB8 HU8
                go_wp2_with (first
                  | (refine wpList_store_row (cs := fltC (.slice aa RA.length ca) rn) rfl 90 (.tmp 18) (.tmp 75) rfl (heap_alloc_new w9 _) (by rfl) (by rfl) (by rfl) Try.infoFl (fltC_one rn rfl) ?_; intro w10 R10 M10; have HF10 := Lib.hid (fresh M10); have HQ10 := Lib.hid R10; have HB10 := Lib.hid (HB9.out.mods0 HF10.out); have HU10 := Lib.hid (HF10.out.heap HU9.out (by simp)); clear R10 M10)
                  | (refine wpList_load_sen rfl (.tmp 15) rfl HB10.out (by rfl) ?_)
                  | (refine wpList_load_row rfl 90 (.tmp 17) rfl g8 (by rfl) _ _ _ _ HU10.out Try.underlying90 rfl Try.infoFl ?_))
                generalize w9.heap.size = ga at HQ10 ⊢
                have HRA10 := Lib.hid (HRA.out.mods0 HF10.out)
                have HM10 := Lib.hid (HM9.out.trans HF10.out)
                clear HRA HF10 HB9 HU9 HM9
                refine (V2.out _ HM10.out).mono ?_
                rintro e w11 ⟨ub, rfl, RDB, -, M11⟩
                dsimp only at RDB ⊢
                obtain ⟨ab, cb, rfl⟩ := RDB.len
                rw [u8s_length] at RDB ⊢
                have HRB := Lib.hid RDB
                have HRA11 := Lib.hid (HRA10.out.mods0 M11)
                have HM11 := Lib.hid (HM10.out.trans M11)
                have HB11 := Lib.hid (HB10.out.mods0 M11)
                have HU11 := Lib.hid (M11.heap HU10.out (by simp))
                have HQ11 := Lib.hid (M11.heap HQ10.out (by simp))
                clear RDB M11 HB10 HU10 HQ10 HRA10 HM10
                go_wp2_with (first
                  | (refine wpList_store_row (cs := fltC (.slice ab RA.length cb) rn) rfl 90 (.tmp 20) (.tmp 83) rfl (heap_alloc_new w11 _) (by rfl) (by rfl) (by rfl) Try.infoFl (fltC_one rn rfl) ?_; intro w12 R12 M12; have HF12 := Lib.hid (fresh M12); have HV12 := Lib.hid R12; have HB12 := Lib.hid (HB11.out.mods0 HF12.out); have HU12 := Lib.hid (HF12.out.heap HU11.out (by simp)); clear R12 M12)
                  | (refine wpList_load_sen rfl (.tmp 15) rfl HB12.out (by rfl) ?_)
                  | (refine wpList_load_row rfl 90 (.tmp 17) rfl g8 (by rfl) _ _ _ _ HU12.out Try.underlying90 rfl Try.infoFl ?_))
                generalize w11.heap.size = gb at HV12 ⊢
                have HRA12 := Lib.hid (HRA11.out.mods0 HF12.out)
                have HRB12 := Lib.hid (HRB.out.mods0 HF12.out)
                have HM12 := Lib.hid (HM11.out.trans HF12.out)
                have HQ12 := Lib.hid (HF12.out.heap HQ11.out (by simp))
                clear HRA11 HRB HF12 HB11 HU11 HM11 HQ11
                refine (V3.out _ HM12.out).mono ?_
                intro e w13 h13
                obtain ⟨x, y, rfl, hx, M13⟩ := h13.val
                have HXV := Lib.hid hx
                have HM13 := Lib.hid M13
                clear hx M13 h13
                go_wp2_with (first
                  | (refine wpList_load_sen rfl (.tmp 15) rfl (HB12.out.mods0 HM13.out) (by rfl) ?_)
                  | (refine wpList_load_row rfl 90 (.tmp 17) rfl g8 (by rfl) _ _ _ _ (HM13.out.heap HU12.out (by simp)) Try.underlying90 rfl Try.infoFl ?_))
                refine (V4.out _ (HM12.out.trans HM13.out)).mono ?_
                intro e w14 h14
                obtain ⟨x', y', rfl, hx, M14⟩ := h14.val
                obtain ⟨rfl, rfl⟩ := HXV.out.uniq HBA.out hx
                have HM14 := Lib.hid (HM12.out.trans (HM13.out.trans M14))
                have HB14 := Lib.hid (HB12.out.mods0 (HM13.out.trans M14))
                have HU14 := Lib.hid ((HM13.out.trans M14).heap HU12.out (by simp))
                have HQ14 := Lib.hid ((HM13.out.trans M14).heap HQ12.out (by simp))
                have HV14 := Lib.hid ((HM13.out.trans M14).heap HV12.out (by simp))
                have SM := Lib.hid (fun W (M : Mods [] w14 W) => same14_ok W _ _ RA RA rn rn (HRA12.out.mods0 ((HM13.out.trans M14).trans M)) (HRB12.out.mods0 ((HM13.out.trans M14).trans M)))
                rw [show (decide (rn = rn) && (RA == RA)) = true by simp] at SM
                clear hx M14 h14 HXV HM13 HB12 HU12 HQ12 HV12 HRA12 HRB12 HM12 V1 V2 V3 V4 HBA
                have e1 : (vb != vb) = false := by cases vb <;> rfl
                have e2 : (re != re) = false := by simp
                have e3 : (x' != x') = false := by simp
                have e4 : (y' != y') = false := by cases y' <;> rfl
                go_wp2_with fail
                try dsimp only [Act.put]
                refine heldStart (S := fun W => Mods [] w14 W ∧ W.heap[g7]? = some (.cells S.cells 32 (0, 0)) ∧ W.heap[g8]? = some (.cells (fltC u m) 90 (0, 0)) ∧ W.heap[ga]? = some (.cells (fltC (.slice aa RA.length ca) rn) 90 (0, 0)) ∧ W.heap[gb]? = some (.cells (fltC (.slice ab RA.length cb) rn) 90 (0, 0))) 28 rfl (by kernel_rfl) ⟨Mods.refl.drew, HB14.out.blk, HU14.out, HQ14.out, HV14.out⟩ (fun hHeld => ?_)
                refine takeD (i := 0) (d := 97) (v := .agg S.cells) rfl rfl (by kernel_rfl) (by kernel_rfl) (by kernel_rfl) (fun _ _ _ h => h) (yieldsIf_load_row rfl 32 (.tmp 15) rfl g7 rfl 32 S.cells (0, 0) _ (fun w h=>h.2.1) Try.underlying32 rfl S.infoS) hHeld ?_
                simp only [List.setIfInBounds_toArray, List.set_cons_zero, List.set_cons_succ]
                refine takeD (i := 1) (d := 98) (v := .agg (fltC u m)) rfl rfl (by kernel_rfl) (by kernel_rfl) (by kernel_rfl) (fun _ _ _ h => h) (yieldsIf_load_rowG (by rfl) 90 (.tmp 17) rfl g8 rfl 90 (fltC u m) (0, 0) _ (fun w h=>h.2.2.1) Try.underlying90 rfl Try.infoFl) hHeld ?_
                simp only [List.setIfInBounds_toArray, List.set_cons_zero, List.set_cons_succ]
                refine takeD (i := 3) (d := 100) (v := .agg S.cells) rfl rfl (by kernel_rfl) (by kernel_rfl) (by kernel_rfl) (fun _ _ _ h => h) (yieldsIf_load_row rfl 32 (.tmp 15) rfl g7 rfl 32 S.cells (0, 0) _ (fun w h=>h.2.1) Try.underlying32 rfl S.infoS) hHeld ?_
                simp only [List.setIfInBounds_toArray, List.set_cons_zero, List.set_cons_succ]
                refine takeD (i := 4) (d := 101) (v := .agg (fltC u m)) rfl rfl (by kernel_rfl) (by kernel_rfl) (by kernel_rfl) (fun _ _ _ h => h) (yieldsIf_load_rowG (by rfl) 90 (.tmp 17) rfl g8 rfl 90 (fltC u m) (0, 0) _ (fun w h=>h.2.2.1) Try.underlying90 rfl Try.infoFl) hHeld ?_
                simp only [List.setIfInBounds_toArray, List.set_cons_zero, List.set_cons_succ]
                refine wpAnyH_ready (rs := [2]) (by kernel_rfl) (by simp) ?_
                refine AllReadyH.cons rfl (fun K hK => ?_) AllReadyH.nil
                go_simp
                go_wp2_with (go_at_call 68; refine (V5.out _ (HM14.out.trans hHeld.1)).mono ?_; rintro e wc ⟨rfl, Mc⟩)
                refine hK.out _ _ ?_ (fun hHeld => ?_)
                · exact ⟨hHeld.1.trans Mc, Mc.heap hHeld.2.1 (by simp), Mc.heap hHeld.2.2.1 (by simp), Mc.heap hHeld.2.2.2.1 (by simp), Mc.heap hHeld.2.2.2.2 (by simp)⟩
                clear hK K
                clear Mc
                refine wpAnyH_ready (rs := [5]) (by kernel_rfl) (by simp) ?_
                refine AllReadyH.cons rfl (fun K hK => ?_) AllReadyH.nil
                go_simp
                go_wp2_with (go_at_call 69; refine (V6.out _ (HM14.out.trans hHeld.1)).mono ?_; rintro e wd ⟨rfl, Mc⟩)
                refine hK.out _ _ ?_ (fun hHeld => ?_)
                · exact ⟨hHeld.1.trans Mc, Mc.heap hHeld.2.1 (by simp), Mc.heap hHeld.2.2.1 (by simp), Mc.heap hHeld.2.2.2.1 (by simp), Mc.heap hHeld.2.2.2.2 (by simp)⟩
                clear hK K
                clear Mc
                refine takeD (i := 6) (d := 103) (v := ?_) rfl rfl (by kernel_rfl) (by kernel_rfl) (by kernel_rfl) (fun _ _ _ h => h) (Or.inl ⟨by rfl, ?_⟩) hHeld ?_
                rotate_left 1
                · (intro w hSw; (try dsimp only at hSw); go_simp; (try with_reducible rfl))
                simp only [List.setIfInBounds_toArray, List.set_cons_zero, List.set_cons_succ]
                refine takeD (i := 7) (d := 104) (v := ?_) rfl rfl (by kernel_rfl) (by kernel_rfl) (by kernel_rfl) (fun _ _ _ h => h) (Or.inl ⟨by rfl, ?_⟩) hHeld ?_
                rotate_left 1
                · (intro w hSw; (try dsimp only at hSw); go_simp; (try with_reducible rfl))
                simp only [List.setIfInBounds_toArray, List.set_cons_zero, List.set_cons_succ]
                refine takeD (i := 8) (d := 105) (v := ?_) rfl rfl (by kernel_rfl) (by kernel_rfl) (by kernel_rfl) (fun _ _ _ h => h) (Or.inl ⟨by rfl, ?_⟩) hHeld ?_
                rotate_left 1
                · (intro w hSw; (try dsimp only at hSw); go_simp; (try with_reducible rfl))
                simp only [List.setIfInBounds_toArray, List.set_cons_zero, List.set_cons_succ]
                refine takeD (i := 9) (d := 106) (v := ?_) rfl rfl (by kernel_rfl) (by kernel_rfl) (by kernel_rfl) (fun _ _ _ h => h) (Or.inl ⟨by rfl, ?_⟩) hHeld ?_
                rotate_left 1
                · (intro w hSw; (try dsimp only at hSw); go_simp; (try with_reducible rfl))
                simp only [List.setIfInBounds_toArray, List.set_cons_zero, List.set_cons_succ]
                refine takeD (i := 10) (d := 107) (v := ?_) rfl rfl (by kernel_rfl) (by kernel_rfl) (by kernel_rfl) (fun _ _ _ h => h) (Or.inl ⟨by rfl, ?_⟩) hHeld ?_
                rotate_left 1
                · (intro w hSw; (try dsimp only at hSw); go_simp; (try with_reducible rfl))
                simp only [List.setIfInBounds_toArray, List.set_cons_zero, List.set_cons_succ]
                refine takeD (i := 11) (d := 108) (v := ?_) rfl rfl (by kernel_rfl) (by kernel_rfl) (by kernel_rfl) (fun _ _ _ h => h) (Or.inl ⟨by rfl, ?_⟩) hHeld ?_
                rotate_left 1
                · (intro w hSw; (try dsimp only at hSw); go_simp; (try with_reducible rfl))
                simp only [List.setIfInBounds_toArray, List.set_cons_zero, List.set_cons_succ]
                refine takeD (i := 12) (d := 109) (v := ?_) rfl rfl (by kernel_rfl) (by kernel_rfl) (by kernel_rfl) (fun _ _ _ h => h) (Or.inl ⟨by rfl, ?_⟩) hHeld ?_
                rotate_left 1
                · (intro w hSw; (try dsimp only at hSw); go_simp; (try with_reducible rfl))
                simp only [List.setIfInBounds_toArray, List.set_cons_zero, List.set_cons_succ]
                refine takeD (i := 13) (d := 110) (v := .agg (fltC (.slice aa RA.length ca) rn)) rfl rfl (by kernel_rfl) (by kernel_rfl) (by kernel_rfl) (fun _ _ _ h => h) (yieldsIf_load_rowG (by rfl) 90 (.tmp 18) rfl ga rfl 90 (fltC (.slice aa RA.length ca) rn) (0, 0) _ (fun w h=>h.2.2.2.1) Try.underlying90 rfl Try.infoFl) hHeld ?_
                simp only [List.setIfInBounds_toArray, List.set_cons_zero, List.set_cons_succ]
                refine takeD (i := 14) (d := 111) (v := .agg (fltC (.slice ab RA.length cb) rn)) rfl rfl (by kernel_rfl) (by kernel_rfl) (by kernel_rfl) (fun _ _ _ h => h) (yieldsIf_load_rowG (by rfl) 90 (.tmp 20) rfl gb rfl 90 (fltC (.slice ab RA.length cb) rn) (0, 0) _ (fun w h=>h.2.2.2.2) Try.underlying90 rfl Try.infoFl) hHeld ?_
                simp only [List.setIfInBounds_toArray, List.set_cons_zero, List.set_cons_succ]
                refine wpAnyH_ready (rs := [15]) (by kernel_rfl) (by simp) ?_
                refine AllReadyH.cons rfl (fun K hK => ?_) AllReadyH.nil
                go_simp
                go_wp2_with (go_at_call 70; refine (SM.out _ hHeld.1).mono ?_; rintro e wf ⟨rfl, Mc⟩)
                refine hK.out _ _ ?_ (fun hHeld => ?_)
                · exact ⟨hHeld.1.trans Mc, Mc.heap hHeld.2.1 (by simp), Mc.heap hHeld.2.2.1 (by simp), Mc.heap hHeld.2.2.2.1 (by simp), Mc.heap hHeld.2.2.2.2 (by simp)⟩
                clear hK K
                clear Mc
                refine takeD (i := 16) (d := 113) (v := ?_) rfl rfl (by kernel_rfl) (by kernel_rfl) (by kernel_rfl) (fun _ _ _ h => h) (Or.inl ⟨by rfl, ?_⟩) hHeld ?_
                rotate_left 1
                · (intro w hSw; (try dsimp only at hSw); go_simp; (try with_reducible rfl))
                simp only [List.setIfInBounds_toArray, List.set_cons_zero, List.set_cons_succ]
                refine takeD (i := 17) (d := 114) (v := ?_) rfl rfl (by kernel_rfl) (by kernel_rfl) (by kernel_rfl) (fun _ _ _ h => h) (Or.inl ⟨by rfl, ?_⟩) hHeld ?_
                rotate_left 1
                · (intro w hSw; (try dsimp only at hSw); go_simp; (try with_reducible rfl))
                simp only [List.setIfInBounds_toArray, List.set_cons_zero, List.set_cons_succ]
                refine takeD (i := 18) (d := 115) (v := ?_) rfl rfl (by kernel_rfl) (by kernel_rfl) (by kernel_rfl) (fun _ _ _ h => h) (Or.inl ⟨by rfl, ?_⟩) hHeld ?_
                rotate_left 1
                · (intro w hSw; (try dsimp only at hSw); go_simp; (try with_reducible rfl))
                simp only [List.setIfInBounds_toArray, List.set_cons_zero, List.set_cons_succ]
                refine takeD (i := 19) (d := 116) (v := ?_) rfl rfl (by kernel_rfl) (by kernel_rfl) (by kernel_rfl) (fun _ _ _ h => h) (Or.inl ⟨by rfl, ?_⟩) hHeld ?_
                rotate_left 1
                · (intro w hSw; (try dsimp only at hSw); go_simp; (try with_reducible rfl))
                simp only [List.setIfInBounds_toArray, List.set_cons_zero, List.set_cons_succ]
                refine takeD (i := 20) (d := 117) (v := ?_) rfl rfl (by kernel_rfl) (by kernel_rfl) (by kernel_rfl) (fun _ _ _ h => h) (Or.inl ⟨by rfl, ?_⟩) hHeld ?_
                rotate_left 1
                · (intro w hSw; (try dsimp only at hSw); go_simp; (try with_reducible rfl))
                simp only [List.setIfInBounds_toArray, List.set_cons_zero, List.set_cons_succ]
                refine takeD (i := 21) (d := 118) (v := ?_) rfl rfl (by kernel_rfl) (by kernel_rfl) (by kernel_rfl) (fun _ _ _ h => h) (Or.inl ⟨by rfl, ?_⟩) hHeld ?_
                rotate_left 1
                · (intro w hSw; (try dsimp only at hSw); go_simp; (try with_reducible rfl))
                simp only [List.setIfInBounds_toArray, List.set_cons_zero, List.set_cons_succ]
                refine takeD (i := 22) (d := 119) (v := ?_) rfl rfl (by kernel_rfl) (by kernel_rfl) (by kernel_rfl) (fun _ _ _ h => h) (Or.inl ⟨by rfl, ?_⟩) hHeld ?_
                rotate_left 1
                · (intro w hSw; (try dsimp only at hSw); go_simp; (try with_reducible rfl))
                simp only [List.setIfInBounds_toArray, List.set_cons_zero, List.set_cons_succ]
                refine takeD (i := 23) (d := 120) (v := ?_) rfl rfl (by kernel_rfl) (by kernel_rfl) (by kernel_rfl) (fun _ _ _ h => h) (Or.inl ⟨by rfl, ?_⟩) hHeld ?_
                rotate_left 1
                · (intro w hSw; (try dsimp only at hSw); go_simp; (try with_reducible rfl))
                simp only [List.setIfInBounds_toArray, List.set_cons_zero, List.set_cons_succ]
                refine takeD (i := 24) (d := 121) (v := ?_) rfl rfl (by kernel_rfl) (by kernel_rfl) (by kernel_rfl) (fun _ _ _ h => h) (Or.inl ⟨by rfl, ?_⟩) hHeld ?_
                rotate_left 1
                · (intro w hSw; (try dsimp only at hSw); go_simp; (try with_reducible rfl))
                simp only [List.setIfInBounds_toArray, List.set_cons_zero, List.set_cons_succ]
                refine takeD (i := 25) (d := 122) (v := ?_) rfl rfl (by kernel_rfl) (by kernel_rfl) (by kernel_rfl) (fun _ _ _ h => h) (Or.inl ⟨by rfl, ?_⟩) hHeld ?_
                rotate_left 1
                · (intro w hSw; (try dsimp only at hSw); go_simp; (try with_reducible rfl))
                simp only [List.setIfInBounds_toArray, List.set_cons_zero, List.set_cons_succ]
                refine takeD (i := 26) (d := 123) (v := ?_) rfl rfl (by kernel_rfl) (by kernel_rfl) (by kernel_rfl) (fun _ _ _ h => h) (Or.inl ⟨by rfl, ?_⟩) hHeld ?_
                rotate_left 1
                · (intro w hSw; (try dsimp only at hSw); go_simp; (try with_reducible rfl))
                simp only [List.setIfInBounds_toArray, List.set_cons_zero, List.set_cons_succ]
                refine takeD (i := 27) (d := 124) (v := ?_) rfl rfl (by kernel_rfl) (by kernel_rfl) (by kernel_rfl) (fun _ _ _ h => h) (Or.inl ⟨by rfl, ?_⟩) hHeld ?_
                rotate_left 1
                · (intro w hSw; (try dsimp only at hSw); go_simp; (try with_reducible rfl))
                simp only [List.setIfInBounds_toArray, List.set_cons_zero, List.set_cons_succ]
                refine wpAnyH_done (by kernel_rfl) ?_ _
                have HMZ := Lib.hid (HM8.out.trans (HM14.out.trans hHeld.1))
                clear hHeld SM HM14 HB14 HU14 HQ14 HV14 V5 V6
                go_wp2_with fail
                exact ⟨⟨p + 1, by omega, by go_num, HMZ.out⟩, by simp only [intOf]; omega⟩
              · have j2 : ¬ (p : Int) < 3 := by omega
                have HX := Lib.hid (HM7.out.trans M)
                clear M
                go_wp2_with fail
                exact ⟨⟨q + 1, by omega, by go_num, HX.out⟩, by simp only [intOf]; omega⟩
          · have i2 : ¬ (q : Int) < 2 := by omega
            have HX := Lib.hid (HM5.out.trans M)
            clear M
            go_wp2_with fail
            refine (awakeM_ok _).mono ?_
            rintro e w1 ⟨rfl, M1⟩
            go_wp2
            go_ret
            exact ⟨rfl, HX.out.trans M1⟩
    · have HLL := Lib.hid (decide_eq_false hl)
      have HLM := Lib.hid (fun W (M : Mods [] w W) => light_ok W v L (HV.out.mods0 M))
      go_enter Try.func16, Try.ntmps16
      go_wp2_with (first
        | (refine wpList_load_sen rfl (.tmp 5) rfl BB.out (by rfl) ?_)
        | (refine wpList_load_row rfl 90 (.tmp 6) rfl (w.heap.size + 1) (by rfl) _ _ _ _ BF.out Try.underlying90 rfl Try.infoFl ?_))
      refine (light14_ok _ S0 P0 win W0 m0 (HI.out.mods0 M0.out) (HF.out.mods0 M0.out)).mono ?_
      rw [HLT.out]
      rintro e w0 ⟨rfl, Mx⟩
      have HX := Lib.hid (M0.out.trans Mx)
      have HB0 := Lib.hid (BB.out.mods0 Mx)
      have HF0 := Lib.hid (Mx.heap BF.out (by simp))
      clear Mx
      go_wp2_with fail
      refine (HLM.out _ HX.out).mono ?_
      rw [HLL.out]
      rintro e w' ⟨rfl, rfl⟩
      go_wp2_with fail
      refine (awakeM_ok _).mono ?_
      rintro e w1 ⟨rfl, M1⟩
      go_wp2
      go_ret
      exact ⟨rfl, HX.out.trans M1⟩
  · have HLT := Lib.hid (hLT.trans (decide_eq_false hl0))
    clear hLT
    go_enter Try.func16, Try.ntmps16
    go_wp2_with (first
      | (refine wpList_load_sen rfl (.tmp 5) rfl BB.out (by rfl) ?_)
      | (refine wpList_load_row rfl 90 (.tmp 6) rfl (w.heap.size + 1) (by rfl) _ _ _ _ BF.out Try.underlying90 rfl Try.infoFl ?_))
    refine (light14_ok _ S0 P0 win W0 m0 (HI.out.mods0 M0.out) (HF.out.mods0 M0.out)).mono ?_
    rw [HLT.out]
    rintro e w0 ⟨rfl, Mx⟩
    have HX := Lib.hid (M0.out.trans Mx)
    have HB0 := Lib.hid (BB.out.mods0 Mx)
    have HF0 := Lib.hid (Mx.heap BF.out (by simp))
    clear Mx
    go_wp2_with fail
    refine (awakeM_ok _).mono ?_
    rintro e w1 ⟨rfl, M1⟩
    go_wp2
    go_ret
    exact ⟨rfl, HX.out.trans M1⟩
end Go.Proofs.Ytgjjmiaiclhidaa
