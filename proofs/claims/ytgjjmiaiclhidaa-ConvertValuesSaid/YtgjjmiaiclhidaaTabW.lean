/- The values of a table: convert.between, the reference's table: contracts. -/
import Derived.Test.YtgjjmiaiclhidaaLinear
import Derived.Test.YtgjjmiaiclhidaaRefTable
namespace Go.Proofs.Ytgjjmiaiclhidaa
open Go.RowKit

theorem RdPts.at {w : World} {ad : Option Addr} {n cap : Nat} {P : List Pt} (h : RdPts w (.slice ad n cap) P) (hp : 0 < P.length) :
    ∃ bb off, ad = some ⟨bb, off, none⟩ ∧ n = P.length ∧ P.length ≤ cap ∧ cap ≤ maxLen ∧ ∀ i, i < P.length → w.cell? ⟨bb, off + i * 2, none⟩ = some (.int .u8 (P.getD i default).raw) ∧ w.cell? ⟨bb, off + i * 2 + 1, none⟩ = some (.int .i64 (ptV P i)) := by
  obtain ⟨ad', cap', he, h1, h2, hc⟩ := h
  injection he with e1 e2 e3
  subst e1 e2 e3
  obtain ⟨bb, off, rfl, _⟩ := hc 0 hp
  refine ⟨bb, off, rfl, rfl, h1, h2, fun i hi => ?_⟩
  obtain ⟨b', o', he, x0, x1⟩ := hc i hi
  cases he
  exact ⟨x0, x1⟩
/-- What is asked of the numbers of a table. -/
theorem tab_step {sgn : Bool} {P : List Pt} {x : Int} (ht : tableB sgn P = true) (hr : ∀ i, (P.getD i default).raw < 256) (hx : x ≤ 255) {i : Nat} (h0 : 0 < i) (hi : i < P.length) (hlt : ptN sgn P (i - 1) < x) :
    -1000000000000000 ≤ (ptV P i - ptV P (i - 1)) * (x - ptN sgn P (i - 1)) ∧ (ptV P i - ptV P (i - 1)) * (x - ptN sgn P (i - 1)) ≤ 1000000000000000 ∧ 0 < ptN sgn P i - ptN sgn P (i - 1) ∧ ptN sgn P i - ptN sgn P (i - 1) ≤ 383 ∧ -2000000000000 ≤ ptV P i - ptV P (i - 1) ∧ ptV P i - ptV P (i - 1) ≤ 2000000000000 ∧ 0 ≤ x - ptN sgn P (i - 1) ∧ x - ptN sgn P (i - 1) ≤ 383 ∧ -1000000000000 ≤ ptV P (i - 1) ∧ ptV P (i - 1) ≤ 1000000000000 := by
  obtain ⟨_, _, h3, h4⟩ := tab_parts ht
  have a1 := h3 i hi
  have a2 := h3 (i - 1) (by omega)
  have b1 := numI_bd (sgn := sgn) (hr i)
  have b2 := numI_bd (sgn := sgn) (hr (i - 1))
  have c := h4 i h0 hi
  have e1 : ptN sgn P i = numI sgn (P.getD i default).raw := rfl
  have e2 : ptN sgn P (i - 1) = numI sgn (P.getD (i - 1) default).raw := rfl
  have m := mul_bds (a := ptV P i - ptV P (i - 1)) (b := x - ptN sgn P (i - 1)) (A := 2000000000000) (B := 383) (by omega) (by omega)
  omega
set_option maxRecDepth 100000 in
set_option maxHeartbeats 4000000 in
theorem refTab_ok (w : World) (v : Value) (sgn : Bool) (P : List Pt) (x : Int) (hv : RdPts w v P) (ht : tableB sgn P = true) (hr : ∀ i, (P.getD i default).raw < 256) (hx : -128 ≤ x ∧ x ≤ 255) :
    Calls Try.prog 90 #[v, .bool sgn, .int .i64 x] w fun e w' => e = .returned (.int .i64 (tabI sgn P x)) ∧ ∃ n, w' = w.drewN n := by
  have ⟨hl2, hl12, _, _⟩ := tab_parts ht
  obtain ⟨ad, cap, rfl⟩ := hv.len
  obtain ⟨bb, off, rfl, _, hc1, hc2, hc⟩ := hv.at (by omega)
  have hc3 : cap ≤ 9223372036854775807 := hc2
  have HC := Lib.hid hc
  have HR := Lib.hid hr
  have HT := Lib.hid ht
  have HX := Lib.hid hx
  obtain ⟨K, hK⟩ : ∃ K, K = idxP sgn P x := ⟨_, rfl⟩
  have HK := Lib.hid hK
  have HB := Lib.hid (fun j (hj : j < K) => idxP_bef (sgn := sgn) (P := P) (x := x) (hK ▸ hj))
  have HA := Lib.hid (fun (h : K < P.length) => show x ≤ numI sgn (P.getD K default).raw from by have := idxP_at (sgn := sgn) (P := P) (x := x) (hK ▸ h); rw [← hK] at this; exact this)
  have hKl : K ≤ P.length := hK ▸ idxP_le _ _ _
  have HV := Lib.hid (show tabI sgn P x = if K = P.length then ptV P (P.length - 1) else if K = 0 ∨ x = ptN sgn P K then ptV P K else ptV P (K - 1) + (ptV P K - ptV P (K - 1)) * (x - ptN sgn P (K - 1)) / (ptN sgn P K - ptN sgn P (K - 1)) by unfold tabI; rw [← hK])
  generalize tabI sgn P x = V at HV ⊢
  clear hv hc hr ht hK hc2
  obtain ⟨x1, x2⟩ := hx
  go_enter Try.func90, Try.ntmps90
  go_wp2_with fail
  go_loopw [7] (fun i wr => ∃ k : Nat, k ≤ K ∧ i = .int .i64 k ∧ wr = w) (fun i _ => K - (intOf i).toNat)
  case atStart => exact ⟨0, Nat.zero_le _, rfl, rfl⟩
  case round =>
    obtain ⟨k, hk, rfl, rfl⟩ := hrel
    have i0 : (0 : Int) ≤ (k : Int) := by omega
    by_cases hlt : k < P.length
    · have i1 : (k : Int) < (P.length : Int) := by omega
      obtain ⟨y0, y1⟩ := HC.out k hlt
      have HN := Lib.hid (show ptN sgn P k = numI sgn (P.getD k default).raw from rfl)
      have hrk := HR.out k
      have HBk := Lib.hid (HB.out k)
      obtain ⟨raw, hraw⟩ : ∃ raw, raw = (P.getD k default).raw := ⟨_, rfl⟩
      rw [← hraw] at y0 hrk HN HBk
      have HRW := Lib.hid hraw
      clear hraw
      by_cases hkK : k < K
      · have hgt := HBk.out hkK
        have dg : decide (x > numI sgn raw) = true := decide_eq_true hgt
        clear hgt y1
        go_wp2_with fail
        refine (refNumber_ok sgn raw hrk _).mono ?_
        rintro e w' ⟨rfl, rfl⟩
        go_wp2_with fail
        go_roundw
        case rel => exact ⟨k + 1, by omega, by go_num, by first | rfl | trivial⟩
        case measure => simp [intOf]; omega
      · obtain rfl : k = K := by omega
        have hle := HA.out hlt
        rw [← HRW.out] at hle
        have dg : decide (x > numI sgn raw) = false := decide_eq_false (by omega)
        by_cases hz : k = 0 ∨ x = numI sgn raw
        · have HRES := Lib.hid (show V = ptV P k by rw [HV.out, if_neg (by omega), if_pos (by rw [HN.out]; exact hz)])
          have hor : (x == numI sgn raw) = true ∨ ((x == numI sgn raw) = false ∧ ((k : Int) == 0) = true ∧ (k == 0) = true) := by
            by_cases h : x = numI sgn raw
            · exact .inl (by simpa using h)
            · rcases hz with rfl | h2
              · exact .inr ⟨by simpa using h, rfl, rfl⟩
              · exact absurd h2 h
          generalize ptV P k = vk at y1 HRES
          clear hz hle
          rcases hor with e1 | ⟨e1, e2, e3⟩
          all_goals
            go_wp2_with fail
            refine (refNumber_ok sgn raw hrk _).mono ?_
            rintro e w' ⟨rfl, rfl⟩
            go_wp2_with fail
            go_ret
            exact ⟨ret_int (by rw [HRES.out]), 0, rfl⟩
        · have hk0 : 0 < k := by omega
          have e1 : (x == numI sgn raw) = false := by simp; omega
          have e2 : ((k : Int) == 0) = false := by simp; omega
          have e3 : (k == 0) = false := by simp; omega
          obtain ⟨z0, z1⟩ := HC.out (k - 1) (by omega)
          have hb1 := HB.out (k - 1) (by omega)
          have HS := Lib.hid (tab_step HT.out HR.out HX.out.2 hk0 hlt hb1)
          have HRES := Lib.hid (show V = ptV P (k - 1) + (ptV P k - ptV P (k - 1)) * (x - ptN sgn P (k - 1)) / (ptN sgn P k - ptN sgn P (k - 1)) by rw [HV.out, if_neg (by omega), if_neg (by rw [HN.out]; exact hz)])
          have hrk1 := HR.out (k - 1)
          have HN1 := Lib.hid (show ptN sgn P (k - 1) = numI sgn (P.getD (k - 1) default).raw from rfl)
          generalize (P.getD (k - 1) default).raw = raw1 at z0 hrk1 HN1 hb1
          have HS2 := HS.out
          rw [HN.out, HN1.out] at HS2
          have HRES2 := HRES.out
          rw [HN.out, HN1.out] at HRES2
          clear HRES HS
          generalize ptV P k = vk at y1 HRES2 HS2
          generalize ptV P (k - 1) = vj at z1 HRES2 HS2
          have N0 := Lib.hid (fun W => refNumber_ok sgn raw hrk W)
          have N1 := Lib.hid (fun W => refNumber_ok sgn raw1 hrk1 W)
          generalize numI sgn raw = nk at *
          generalize numI sgn raw1 = nj at *
          obtain ⟨p, hp⟩ : ∃ p, p = (vk - vj) * (x - nj) := ⟨_, rfl⟩
          obtain ⟨d, hd⟩ : ∃ d, d = nk - nj := ⟨_, rfl⟩
          rw [← hp, ← hd] at HS2 HRES2
          obtain ⟨s1, s2, s3, s4, s5, s6, s7, s8, s9, s10⟩ := HS2
          have HF := Lib.hid (floor_pos p d s3)
          have hq := tquot_bd p d 1000000000000000 s1 s2
          have hz0 : (d == 0) = false := by simp; omega
          have w1 : IntKind.i64.wrap (vk - vj) = vk - vj := IntWalk.i64_in _ (by omega)
          have w2 : IntKind.i64.wrap (x - nj) = x - nj := IntWalk.i64_in _ (by omega)
          have w3 : IntKind.i64.wrap ((vk - vj) * (x - nj)) = p := by rw [← hp]; exact IntWalk.i64_in _ (by omega)
          have w3' : (vk - vj) * (x - nj) = p := hp.symm
          have w4 : wrap64 (nk - nj) = d := by rw [← hd]; exact IntWalk.wrap64_in _ (by omega)
          have w4' : nk - nj = d := hd.symm
          have w5 : IntKind.i64.wrap ((k : Int) - 1) = (k : Int) - 1 := IntWalk.i64_in _ (by omega)
          have j2 : (0 : Int) ≤ (k : Int) - 1 := by omega
          have j3 : (k : Int) - 1 < (P.length : Int) := by omega
          have j4 : ((k : Int) - 1).toNat = k - 1 := by omega
          obtain ⟨q, hqq⟩ : ∃ q, q = p.tdiv d := ⟨_, rfl⟩
          obtain ⟨r, hrr⟩ : ∃ r, r = p.tmod d := ⟨_, rfl⟩
          have w6 : IntKind.i64.wrap (p.tdiv d) = q := by rw [hqq]; exact IntWalk.i64_in _ (by omega)
          have hr2 : -383 ≤ r ∧ r ≤ 383 := by
            have h4 := Int.tmod_lt_of_pos p s3
            have h5 : -d < p.tmod d := by have := Int.neg_tmod p d; have h6 := Int.tmod_lt_of_pos (-p) s3; omega
            omega
          have w7 : IntKind.i64.wrap (p.tmod d) = r := by rw [hrr]; exact IntWalk.i64_in _ (by omega)
          have hq2 : -1000000000000000 ≤ q ∧ q ≤ 1000000000000000 := by rw [hqq]; exact hq
          have HF2 : Hid ((if r < 0 then q - 1 else q) = p / d) := by rw [hqq, hrr]; exact HF
          have hpos : 0 ≤ p → p / d = q ∧ p % d = r := fun h => ⟨by rw [hqq, Int.tdiv_eq_ediv_of_nonneg h], by rw [hrr, Int.tmod_eq_emod_of_nonneg h]⟩
          have HP := Lib.hid hpos
          have HRR := Lib.hid HRES2
          have HQR := Lib.hid (⟨hqq, hrr⟩ : q = p.tdiv d ∧ r = p.tmod d)
          obtain ⟨q1, q2⟩ := hq2
          clear HRES2 hz hle hb1 hpos hq hqq hrr HF hp hd HV HC HB HA HN HN1
          by_cases hrn : r < 0
          · have HO := Lib.hid (show V = vj + (q - 1) by rw [HRR.out, ← HF2.out, if_pos hrn])
            have dr : decide (r < 0) = true := decide_eq_true hrn
            go_wp2_with fail
            refine (N0.out _).mono ?_
            rintro e w' ⟨rfl, rfl⟩
            go_wp2_with fail
            refine (N1.out _).mono ?_
            rintro e w' ⟨rfl, rfl⟩
            go_wp2_with fail
            go_quiet (fail)
            go_wp2_with fail
            all_goals first
              | (exfalso; have := HQR.out; omega)
              | (go_ret; exact ⟨ret_int (by rw [HO.out]), _, rfl⟩)
          · have HO := Lib.hid (show V = vj + q by rw [HRR.out, ← HF2.out, if_neg hrn])
            have dr : decide (r < 0) = false := decide_eq_false hrn
            go_wp2_with fail
            refine (N0.out _).mono ?_
            rintro e w' ⟨rfl, rfl⟩
            go_wp2_with fail
            refine (N1.out _).mono ?_
            rintro e w' ⟨rfl, rfl⟩
            go_wp2_with fail
            go_quiet (fail)
            go_wp2_with fail
            all_goals first
              | (exfalso; have := HQR.out; omega)
              | (go_ret; exact ⟨ret_int (by rw [HO.out]), _, rfl⟩)
    · have hkl : K = P.length := by omega
      have hkk : k = P.length := by omega
      have HRES := Lib.hid (show V = ptV P (P.length - 1) by rw [HV.out, if_pos hkl])
      subst hkk
      obtain ⟨y0, y1⟩ := HC.out (P.length - 1) (by omega)
      have w5 : IntKind.i64.wrap ((P.length : Int) - 1) = (P.length : Int) - 1 := IntWalk.i64_in _ (by omega)
      have j2 : (0 : Int) ≤ (P.length : Int) - 1 := by omega
      have j3 : (P.length : Int) - 1 < (P.length : Int) := by omega
      have j4 : ((P.length : Int) - 1).toNat = P.length - 1 := by omega
      have j5 : 1 ≤ (P.length : Int) := by omega
      clear hkl
      go_wp2_with fail
      go_ret
      exact ⟨ret_int (by rw [HRES.out]), 0, rfl⟩
end Go.Proofs.Ytgjjmiaiclhidaa
