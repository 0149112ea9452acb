/- Joined texts. The values of a table: convert.between, the reference's table: contracts. | convert.between: contract. -/
import Derived.Test.YtgjjmiaiclhidaaValA
import Derived.Test.YtgjjmiaiclhidaaBaseB
namespace Go.Proofs.Ytgjjmiaiclhidaa
open Go.RowKit

theorem RdPts.at {w : World} {ad : Option Addr} {n cap : Nat} {P : List Pt} (h : RdPts w (.slice ad n cap) P) (hp : 0 < P.length) :
    ∃ bb off, ad = some ⟨bb, off, none⟩ ∧ n = P.length ∧ P.length ≤ cap ∧ cap ≤ maxLen ∧ ∀ i, i < P.length → w.cell? ⟨bb, off + i * 2, none⟩ = some (.int .u8 (P.getD i default).raw) ∧ w.cell? ⟨bb, off + i * 2 + 1, none⟩ = some (.int .i64 (ptV P i)) := by
  obtain ⟨ad', cap', he, h1, h2, hc⟩ := h
  injection he with e1 e2 e3
  subst e1 e2 e3
  obtain ⟨bb, off, rfl, _⟩ := hc 0 hp
  refine ⟨bb, off, rfl, rfl, h1, h2, fun i hi => ?_⟩
  obtain ⟨b', o', he, x0, x1⟩ := hc i hi
  cases he
  exact ⟨x0, x1⟩
/-- What is asked of the numbers of a table. -/
theorem tab_step {sgn : Bool} {P : List Pt} {x : Int} (ht : tableB sgn P = true) (hr : ∀ i, (P.getD i default).raw < 256) (hx : x ≤ 255) {i : Nat} (h0 : 0 < i) (hi : i < P.length) (hlt : ptN sgn P (i - 1) < x) :
    -1000000000000000 ≤ (ptV P i - ptV P (i - 1)) * (x - ptN sgn P (i - 1)) ∧ (ptV P i - ptV P (i - 1)) * (x - ptN sgn P (i - 1)) ≤ 1000000000000000 ∧ 0 < ptN sgn P i - ptN sgn P (i - 1) ∧ ptN sgn P i - ptN sgn P (i - 1) ≤ 383 ∧ -2000000000000 ≤ ptV P i - ptV P (i - 1) ∧ ptV P i - ptV P (i - 1) ≤ 2000000000000 ∧ 0 ≤ x - ptN sgn P (i - 1) ∧ x - ptN sgn P (i - 1) ≤ 383 ∧ -1000000000000 ≤ ptV P (i - 1) ∧ ptV P (i - 1) ≤ 1000000000000 := by
  obtain ⟨_, _, h3, h4⟩ := tab_parts ht
  have a1 := h3 i hi
  have a2 := h3 (i - 1) (by omega)
  have b1 := numI_bd (sgn := sgn) (hr i)
  have b2 := numI_bd (sgn := sgn) (hr (i - 1))
  have c := h4 i h0 hi
  have e1 : ptN sgn P i = numI sgn (P.getD i default).raw := rfl
  have e2 : ptN sgn P (i - 1) = numI sgn (P.getD (i - 1) default).raw := rfl
  have m := mul_bds (a := ptV P i - ptV P (i - 1)) (b := x - ptN sgn P (i - 1)) (A := 2000000000000) (B := 383) (by omega) (by omega)
  omega
set_option maxRecDepth 100000 in
set_option maxHeartbeats 4000000 in
theorem refTab_ok (w : World) (v : Value) (sgn : Bool) (P : List Pt) (x : Int) (hv : RdPts w v P) (ht : tableB sgn P = true) (hr : ∀ i, (P.getD i default).raw < 256) (hx : -128 ≤ x ∧ x ≤ 255) :
    Calls Try.prog 90 #[v, .bool sgn, .int .i64 x] w fun e w' => e = .returned (.int .i64 (tabI sgn P x)) ∧ ∃ n, w' = w.drewN n := by
  have ⟨hl2, hl12, _, _⟩ := tab_parts ht
  obtain ⟨ad, cap, rfl⟩ := hv.len
  obtain ⟨bb, off, rfl, _, hc1, hc2, hc⟩ := hv.at (by omega)
  have hc3 : cap ≤ 9223372036854775807 := hc2
  have HC := Lib.hid hc
  have HR := Lib.hid hr
  have HT := Lib.hid ht
  have HX := Lib.hid hx
  obtain ⟨K, hK⟩ : ∃ K, K = idxP sgn P x := ⟨_, rfl⟩
  have HK := Lib.hid hK
  have HB := Lib.hid (fun j (hj : j < K) => idxP_bef (sgn := sgn) (P := P) (x := x) (hK ▸ hj))
  have HA := Lib.hid (fun (h : K < P.length) => show x ≤ numI sgn (P.getD K default).raw from by have := idxP_at (sgn := sgn) (P := P) (x := x) (hK ▸ h); rw [← hK] at this; exact this)
  have hKl : K ≤ P.length := hK ▸ idxP_le _ _ _
  have HV := Lib.hid (show tabI sgn P x = if K = P.length then ptV P (P.length - 1) else if K = 0 ∨ x = ptN sgn P K then ptV P K else ptV P (K - 1) + (ptV P K - ptV P (K - 1)) * (x - ptN sgn P (K - 1)) / (ptN sgn P K - ptN sgn P (K - 1)) by unfold tabI; rw [← hK])
  generalize tabI sgn P x = V at HV ⊢
  clear hv hc hr ht hK hc2
  obtain ⟨x1, x2⟩ := hx
  go_enter Try.func90, Try.ntmps90
  go_wp2_with fail
  go_loopw [7] (fun i wr => ∃ k : Nat, k ≤ K ∧ i = .int .i64 k ∧ wr = w) (fun i _ => K - (intOf i).toNat)
  case atStart => exact ⟨0, Nat.zero_le _, rfl, rfl⟩
  case round =>
    obtain ⟨k, hk, rfl, rfl⟩ := hrel
    have i0 : (0 : Int) ≤ (k : Int) := by omega
    by_cases hlt : k < P.length
    · have i1 : (k : Int) < (P.length : Int) := by omega
      obtain ⟨y0, y1⟩ := HC.out k hlt
      have HN := Lib.hid (show ptN sgn P k = numI sgn (P.getD k default).raw from rfl)
      have hrk := HR.out k
      have HBk := Lib.hid (HB.out k)
      obtain ⟨raw, hraw⟩ : ∃ raw, raw = (P.getD k default).raw := ⟨_, rfl⟩
      rw [← hraw] at y0 hrk HN HBk
      have HRW := Lib.hid hraw
      clear hraw
      by_cases hkK : k < K
      · have hgt := HBk.out hkK
        have dg : decide (x > numI sgn raw) = true := decide_eq_true hgt
        clear hgt y1
        go_wp2_with fail
        refine (refNumber_ok sgn raw hrk _).mono ?_
        rintro e w' ⟨rfl, rfl⟩
        go_wp2_with fail
        go_roundw
        case rel => exact ⟨k + 1, by omega, by go_num, by first | rfl | trivial⟩
        case measure => simp [intOf]; omega
      · obtain rfl : k = K := by omega
        have hle := HA.out hlt
        rw [← HRW.out] at hle
        have dg : decide (x > numI sgn raw) = false := decide_eq_false (by omega)
        by_cases hz : k = 0 ∨ x = numI sgn raw
        · have HRES := Lib.hid (show V = ptV P k by rw [HV.out, if_neg (by omega), if_pos (by rw [HN.out]; exact hz)])
          have hor : (x == numI sgn raw) = true ∨ ((x == numI sgn raw) = false ∧ ((k : Int) == 0) = true ∧ (k == 0) = true) := by
            by_cases h : x = numI sgn raw
            · exact .inl (by simpa using h)
            · rcases hz with rfl | h2
              · exact .inr ⟨by simpa using h, rfl, rfl⟩
              · exact absurd h2 h
          generalize ptV P k = vk at y1 HRES
          clear hz hle
          rcases hor with e1 | ⟨e1, e2, e3⟩
          all_goals
            go_wp2_with fail
            refine (refNumber_ok sgn raw hrk _).mono ?_
            rintro e w' ⟨rfl, rfl⟩
            go_wp2_with fail
            go_ret
            exact ⟨ret_int (by rw [HRES.out]), 0, rfl⟩
        · have hk0 : 0 < k := by omega
          have e1 : (x == numI sgn raw) = false := by simp; omega
          have e2 : ((k : Int) == 0) = false := by simp; omega
          have e3 : (k == 0) = false := by simp; omega
          obtain ⟨z0, z1⟩ := HC.out (k - 1) (by omega)
          have hb1 := HB.out (k - 1) (by omega)
          have HS := Lib.hid (tab_step HT.out HR.out HX.out.2 hk0 hlt hb1)
          have HRES := Lib.hid (show V = ptV P (k - 1) + (ptV P k - ptV P (k - 1)) * (x - ptN sgn P (k - 1)) / (ptN sgn P k - ptN sgn P (k - 1)) by rw [HV.out, if_neg (by omega), if_neg (by rw [HN.out]; exact hz)])
          have hrk1 := HR.out (k - 1)
          have HN1 := Lib.hid (show ptN sgn P (k - 1) = numI sgn (P.getD (k - 1) default).raw from rfl)
          generalize (P.getD (k - 1) default).raw = raw1 at z0 hrk1 HN1 hb1
          have HS2 := HS.out
          rw [HN.out, HN1.out] at HS2
          have HRES2 := HRES.out
          rw [HN.out, HN1.out] at HRES2
          clear HRES HS
          generalize ptV P k = vk at y1 HRES2 HS2
          generalize ptV P (k - 1) = vj at z1 HRES2 HS2
          have N0 := Lib.hid (fun W => refNumber_ok sgn raw hrk W)
          have N1 := Lib.hid (fun W => refNumber_ok sgn raw1 hrk1 W)
          generalize numI sgn raw = nk at *
          generalize numI sgn raw1 = nj at *
          obtain ⟨p, hp⟩ : ∃ p, p = (vk - vj) * (x - nj) := ⟨_, rfl⟩
          obtain ⟨d, hd⟩ : ∃ d, d = nk - nj := ⟨_, rfl⟩
          rw [← hp, ← hd] at HS2 HRES2
          obtain ⟨s1, s2, s3, s4, s5, s6, s7, s8, s9, s10⟩ := HS2
          have HF := Lib.hid (floor_pos p d s3)
          have hq := tquot_bd p d 1000000000000000 s1 s2
          have hz0 : (d == 0) = false := by simp; omega
          have w1 : IntKind.i64.wrap (vk - vj) = vk - vj := IntWalk.i64_in _ (by omega)
          have w2 : IntKind.i64.wrap (x - nj) = x - nj := IntWalk.i64_in _ (by omega)
          have w3 : IntKind.i64.wrap ((vk - vj) * (x - nj)) = p := by rw [← hp]; exact IntWalk.i64_in _ (by omega)
          have w3' : (vk - vj) * (x - nj) = p := hp.symm
          have w4 : wrap64 (nk - nj) = d := by rw [← hd]; exact IntWalk.wrap64_in _ (by omega)
          have w4' : nk - nj = d := hd.symm
          have w5 : IntKind.i64.wrap ((k : Int) - 1) = (k : Int) - 1 := IntWalk.i64_in _ (by omega)
          have j2 : (0 : Int) ≤ (k : Int) - 1 := by omega
          have j3 : (k : Int) - 1 < (P.length : Int) := by omega
          have j4 : ((k : Int) - 1).toNat = k - 1 := by omega
          obtain ⟨q, hqq⟩ : ∃ q, q = p.tdiv d := ⟨_, rfl⟩
          obtain ⟨r, hrr⟩ : ∃ r, r = p.tmod d := ⟨_, rfl⟩
          have w6 : IntKind.i64.wrap (p.tdiv d) = q := by rw [hqq]; exact IntWalk.i64_in _ (by omega)
          have hr2 : -383 ≤ r ∧ r ≤ 383 := by
            have h4 := Int.tmod_lt_of_pos p s3
            have h5 : -d < p.tmod d := by have := Int.neg_tmod p d; have h6 := Int.tmod_lt_of_pos (-p) s3; omega
            omega
          have w7 : IntKind.i64.wrap (p.tmod d) = r := by rw [hrr]; exact IntWalk.i64_in _ (by omega)
          have hq2 : -1000000000000000 ≤ q ∧ q ≤ 1000000000000000 := by rw [hqq]; exact hq
          have HF2 : Hid ((if r < 0 then q - 1 else q) = p / d) := by rw [hqq, hrr]; exact HF
          have hpos : 0 ≤ p → p / d = q ∧ p % d = r := fun h => ⟨by rw [hqq, Int.tdiv_eq_ediv_of_nonneg h], by rw [hrr, Int.tmod_eq_emod_of_nonneg h]⟩
          have HP := Lib.hid hpos
          have HRR := Lib.hid HRES2
          have HQR := Lib.hid (⟨hqq, hrr⟩ : q = p.tdiv d ∧ r = p.tmod d)
          obtain ⟨q1, q2⟩ := hq2
          clear HRES2 hz hle hb1 hpos hq hqq hrr HF hp hd HV HC HB HA HN HN1
          by_cases hrn : r < 0
          · have HO := Lib.hid (show V = vj + (q - 1) by rw [HRR.out, ← HF2.out, if_pos hrn])
            have dr : decide (r < 0) = true := decide_eq_true hrn
            go_wp2_with fail
            refine (N0.out _).mono ?_
            rintro e w' ⟨rfl, rfl⟩
            go_wp2_with fail
            refine (N1.out _).mono ?_
            rintro e w' ⟨rfl, rfl⟩
            go_wp2_with fail
            go_quiet (fail)
            go_wp2_with fail
            all_goals first
              | (exfalso; have := HQR.out; omega)
              | (go_ret; exact ⟨ret_int (by rw [HO.out]), _, rfl⟩)
          · have HO := Lib.hid (show V = vj + q by rw [HRR.out, ← HF2.out, if_neg hrn])
            have dr : decide (r < 0) = false := decide_eq_false hrn
            go_wp2_with fail
            refine (N0.out _).mono ?_
            rintro e w' ⟨rfl, rfl⟩
            go_wp2_with fail
            refine (N1.out _).mono ?_
            rintro e w' ⟨rfl, rfl⟩
            go_wp2_with fail
            go_quiet (fail)
            go_wp2_with fail
            all_goals first
              | (exfalso; have := HQR.out; omega)
              | (go_ret; exact ⟨ret_int (by rw [HO.out]), _, rfl⟩)
    · have hkl : K = P.length := by omega
      have hkk : k = P.length := by omega
      have HRES := Lib.hid (show V = ptV P (P.length - 1) by rw [HV.out, if_pos hkl])
      subst hkk
      obtain ⟨y0, y1⟩ := HC.out (P.length - 1) (by omega)
      have w5 : IntKind.i64.wrap ((P.length : Int) - 1) = (P.length : Int) - 1 := IntWalk.i64_in _ (by omega)
      have j2 : (0 : Int) ≤ (P.length : Int) - 1 := by omega
      have j3 : (P.length : Int) - 1 < (P.length : Int) := by omega
      have j4 : ((P.length : Int) - 1).toNat = P.length - 1 := by omega
      have j5 : 1 ≤ (P.length : Int) := by omega
      clear hkl
      go_wp2_with fail
      go_ret
      exact ⟨ret_int (by rw [HRES.out]), 0, rfl⟩
end Go.Proofs.Ytgjjmiaiclhidaa

namespace Go.Proofs.Ytgjjmiaiclhidaa
open Go.RowKit

/-- In a later quiet region: a contract that draws. -/
theorem quiet_add_of {P : Program} {f : FuncId} {args : Array Value} {w : World} {a n : Nat} {v : Value}
    (h : Calls P f args (w.drewN (a + n)) fun e w' => e = .returned v ∧ ∃ m, w' = (w.drewN (a + n)).drewN m) :
    Calls P f args (w.drewN (a + n)) fun e w'' => e = .returned v ∧ ∃ m, w'' = w.drewN (a + m) :=
  h.mono fun _ _ ⟨he, m, hm⟩ => ⟨he, n + m, by rw [hm, World.drewN_drewN, Nat.add_assoc]⟩
set_option maxRecDepth 100000 in
set_option maxHeartbeats 1000000 in
theorem at_ok (w : World) (g : Nat) (C : Conv) (P : List Pt) (hg : w.heap[g]? = some (.cells C.cells 26 (0, 0))) (hv : RdPts w C.pts P) (hr : ∀ i, (P.getD i default).raw < 256) (i : Nat) (hi : i < P.length) :
    Calls Try.prog 133 #[.int .i64 (i : Nat), .pointer (some ⟨g, 0, none⟩)] w fun e w' => e = .returned (.int .i64 (ptN C.sgn P i)) ∧ ∃ n, w' = w.drewN n := by
  obtain ⟨ad, cap, hpts⟩ := hv.len
  have hv2 := hv
  rw [hpts] at hv2
  obtain ⟨bb, off, rfl, _, hc1, hc2, hc⟩ := hv2.at (by omega)
  have hc3 : cap ≤ 9223372036854775807 := hc2
  obtain ⟨y0, -⟩ := hc i hi
  have z1 : w.cell? ⟨g, 1, none⟩ = some (.bool C.sgn) := (cell_blk hg 1).trans rfl
  have z6 : w.cell? ⟨g, 6, none⟩ = some (.slice (some ⟨bb, off, none⟩) P.length cap) := (cell_blk hg 6).trans (by rw [← hpts]; rfl)
  have hrk := hr i
  have HN := Lib.hid (show ptN C.sgn P i = numI C.sgn (P.getD i default).raw from rfl)
  generalize (P.getD i default).raw = raw at y0 hrk HN
  have i0 : (0 : Int) ≤ (i : Int) := by omega
  have i1 : (i : Int) < (P.length : Int) := by omega
  have NN := Lib.hid (fun W => number_ok C.sgn raw hrk W)
  clear hg hv hv2 hr hc hc2 hpts
  go_enter Try.func133, Try.ntmps133
  go_wp2_with fail
  go_quiet ((go_at_call 47; exact quiet_left (NN.out _)))
  go_wp2
  go_ret
  exact ⟨ret_int HN.out.symm, _, rfl⟩
set_option maxRecDepth 100000 in
set_option maxHeartbeats 1000000 in
theorem bef_ok (w : World) (g g3 : Nat) (C : Conv) (x : Int) (hg : w.heap[g]? = some (.cells C.cells 26 (0, 0))) (hg3 : w.heap[g3]? = some (.cells #[.int .i64 x] 3 (0, 0))) (raw : Nat) (val : Int) (hr : raw < 256) :
    Calls Try.prog 135 #[.agg #[.int .u8 (raw : Nat), .int .i64 val], .pointer (some ⟨g3, 0, none⟩), .pointer (some ⟨g, 0, none⟩)] w fun e w' => e = .returned (.bool (decide (x ≤ numI C.sgn raw))) ∧ Mods [] w w' := by
  have M0 := Lib.hid ((Mods.refl (S := []) (w := w)).alloc (.cells #[.int .u8 (raw : Nat), .int .i64 val] 72))
  have z1 : (w.alloc (.cells #[.int .u8 (raw : Nat), .int .i64 val] 72)).cell? ⟨g, 1, none⟩ = some (.bool C.sgn) := (cell_blk (heap_alloc hg) 1).trans rfl
  have z3 : (w.alloc (.cells #[.int .u8 (raw : Nat), .int .i64 val] 72)).cell? ⟨g3, 0, none⟩ = some (.int .i64 x) := (cell_blk (heap_alloc hg3) 0).trans rfl
  have NN := Lib.hid (fun W => number_ok C.sgn raw hr W)
  clear hg hg3
  go_enter Try.func135, Try.ntmps135
  go_wp2_with fail
  go_quiet ((go_at_call 47; exact quiet_left (NN.out _)))
  go_wp2
  go_ret
  exact ⟨ret_bool (by first | rfl | simp), M0.out.drewN _⟩
def idxI (sgn : Bool) (P : List Pt) (x : Int) : Int := if idxP sgn P x = P.length then -1 else (idxP sgn P x : Nat)
set_option maxRecDepth 100000 in
set_option maxHeartbeats 2000000 in
theorem idxF_ok (w : World) (g g3 : Nat) (C : Conv) (P : List Pt) (x : Int) (hg : w.heap[g]? = some (.cells C.cells 26 (0, 0))) (hg3 : w.heap[g3]? = some (.cells #[.int .i64 x] 3 (0, 0))) (v : Value) (hv : RdPts w v P) (hr : ∀ i, (P.getD i default).raw < 256) :
    Calls Try.prog 134 #[v, .func (.func 135) #[] #[.pointer (some ⟨g3, 0, none⟩), .pointer (some ⟨g, 0, none⟩)]] w fun e w' => e = .returned (.int .i64 (idxI C.sgn P x)) ∧ Mods [] w w' := by
  obtain ⟨ad, cap, rfl⟩ := hv.len
  have HV := Lib.hid hv
  have HG := Lib.hid hg
  have HG3 := Lib.hid hg3
  have HR := Lib.hid hr
  obtain ⟨K, hK⟩ : ∃ K, K = idxP C.sgn P x := ⟨_, rfl⟩
  have HB := Lib.hid (fun j (hj : j < K) => idxP_bef (sgn := C.sgn) (P := P) (x := x) (hK ▸ hj))
  have HA := Lib.hid (fun (h : K < P.length) => show x ≤ numI C.sgn (P.getD K default).raw from by have := idxP_at (sgn := C.sgn) (P := P) (x := x) (hK ▸ h); rw [← hK] at this; exact this)
  have hKl : K ≤ P.length := hK ▸ idxP_le _ _ _
  have HI := Lib.hid (show idxI C.sgn P x = if K = P.length then -1 else (K : Int) by unfold idxI; rw [← hK])
  generalize idxI C.sgn P x = V at HI ⊢
  have hcap : P.length ≤ 9223372036854775807 := by obtain ⟨_, _, he, h1, h2, _⟩ := hv; exact Nat.le_trans h1 h2
  clear hv hg hg3 hr hK
  go_enter Try.func134, Try.ntmps134
  go_wp2_with fail
  go_loopw [8] (fun i wr => ∃ k : Nat, k ≤ K ∧ i = .int .i64 k ∧ Mods [] w wr) (fun i _ => K - (intOf i).toNat)
  case atStart => exact ⟨0, Nat.zero_le _, rfl, Mods.refl⟩
  case round =>
    obtain ⟨k, hk, rfl, M⟩ := hrel
    have i0 : (0 : Int) ≤ (k : Int) := by omega
    by_cases hlt : k < P.length
    · have i1 : (k : Int) < (P.length : Int) := by omega
      obtain ⟨bb, off, rfl, _, _, _, hc⟩ := (HV.out.mods0 M).at (by omega)
      obtain ⟨y0, y1⟩ := hc k hlt
      have hrk := HR.out k
      have BF := Lib.hid (bef_ok wr g g3 C x (M.heap HG.out (by simp)) (M.heap HG3.out (by simp)) (P.getD k default).raw (ptV P k) hrk)
      have HBk := Lib.hid (HB.out k)
      have HAk := Lib.hid (fun h : k = K => show x ≤ numI C.sgn (P.getD k default).raw from by rw [h]; exact HA.out (h ▸ hlt))
      generalize (P.getD k default).raw = raw at y0 hrk BF HBk HAk
      generalize ptV P k = val at y1 BF
      have HM := Lib.hid M
      clear hc M
      by_cases hkK : k < K
      · have HD := Lib.hid (show decide (x ≤ numI C.sgn raw) = false from decide_eq_false (by have := HBk.out hkK; omega))
        go_wp2_with fail
        refine BF.out.mono ?_
        rw [HD.out]
        rintro e w2 ⟨rfl, M2⟩
        have HM2 := Lib.hid (HM.out.trans M2)
        clear M2
        go_wp2_with fail
        go_roundw
        case rel => exact ⟨k + 1, by omega, by go_num, HM2.out⟩
        case measure => simp [intOf]; omega
      · obtain rfl : k = K := by omega
        have HD := Lib.hid (show decide (x ≤ numI C.sgn raw) = true from decide_eq_true (HAk.out rfl))
        have HRES := Lib.hid (show V = (k : Int) by rw [HI.out, if_neg (by omega)])
        go_wp2_with fail
        refine BF.out.mono ?_
        rw [HD.out]
        rintro e w2 ⟨rfl, M2⟩
        have HM2 := Lib.hid (HM.out.trans M2)
        clear M2
        go_wp2_with fail
        go_ret
        exact ⟨ret_int HRES.out.symm, HM2.out⟩
    · have HRES := Lib.hid (show V = -1 by rw [HI.out, if_pos (by omega)])
      have i1 : ¬ (k : Int) < (P.length : Int) := by omega
      go_wp2_with fail
      go_ret
      exact ⟨ret_int HRES.out.symm, M⟩
set_option maxRecDepth 100000 in
set_option maxHeartbeats 4000000 in
theorem between_ok (w : World) (C : Conv) (P : List Pt) (x : Int) (hv : RdPts w C.pts P) (ht : tableB C.sgn P = true) (hr : ∀ i, (P.getD i default).raw < 256) (hx : -128 ≤ x ∧ x ≤ 255) :
    Calls Try.prog 119 #[.agg C.cells, .int .i64 x] w fun e w' => e = .returned (.int .i64 (tabI C.sgn P x)) ∧ Mods [] w w' := by
  have ⟨hl2, hl12, _, _⟩ := tab_parts ht
  have HT := Lib.hid ht
  have HR := Lib.hid hr
  have HX := Lib.hid hx
  obtain ⟨ad, cap, hpts⟩ := hv.len
  have HP := Lib.hid hpts
  have HV := Lib.hid hv
  have c6 : C.cells[6]? = some (.slice ad P.length cap) := by rw [← hpts]; rfl
  clear hv ht hr hx hpts
  have R0 := heap_alloc (o' := .cells #[.int .i64 x] 3) (heap_alloc_new w (.cells C.cells 26))
  have R1 := heap_alloc_new (w.alloc (.cells C.cells 26)) (.cells #[.int .i64 x] 3)
  rw [World.size_alloc] at R1
  have M0 := ((Mods.refl (S := []) (w := w)).alloc (.cells C.cells 26)).alloc (.cells #[.int .i64 x] 3)
  have HIX := Lib.hid (fun W (hg : W.heap[w.heap.size]? = _) (hg3 : W.heap[w.heap.size + 1]? = _) (M : Mods [] w W) => idxF_ok W w.heap.size (w.heap.size + 1) C P x hg hg3 _ (HV.out.mods0 M) HR.out)
  have HAT := Lib.hid (fun W (hg : W.heap[w.heap.size]? = _) (M : Mods [] w W) i hi => at_ok W w.heap.size C P hg (HV.out.mods0 M) HR.out i hi)
  rw [HP.out] at HIX
  go_enter Try.func119, Try.ntmps119
  go_wp2_with fail
  generalize (w.alloc (.cells C.cells 26)).alloc (.cells #[.int .i64 x] 3) = w2 at R0 R1 M0 ⊢
  refine (HIX.out _ R0 R1 M0).mono ?_
  rintro e w3 ⟨rfl, M3⟩
  have R0 := M3.heap R0 (by simp)
  have R1 := M3.heap R1 (by simp)
  have HM := Lib.hid (M0.trans M3)
  have HR0 := Lib.hid R0
  have z6 : w3.cell? ⟨w.heap.size, 6, none⟩ = some (.slice ad P.length cap) := (cell_blk R0 6).trans (by rw [← HP.out]; rfl)
  have zx : w3.cell? ⟨w.heap.size + 1, 0, none⟩ = some (.int .i64 x) := (cell_blk R1 0).trans rfl
  have HVS := HV.out.mods0 HM.out
  rw [HP.out] at HVS
  obtain ⟨bb, off, rfl, _, hc1, hc2, hc⟩ := HVS.at (by omega)
  have hc3 : cap ≤ 9223372036854775807 := hc2
  have HC := Lib.hid hc
  clear R0 R1 M0 M3 HVS hc hc2 HIX c6
  obtain ⟨K, hK⟩ : ∃ K, K = idxP C.sgn P x := ⟨_, rfl⟩
  have HB := Lib.hid (fun j (hj : j < K) => idxP_bef (sgn := C.sgn) (P := P) (x := x) (hK ▸ hj))
  have hKl : K ≤ P.length := hK ▸ idxP_le _ _ _
  have HI := Lib.hid (show idxI C.sgn P x = if K = P.length then -1 else (K : Int) by unfold idxI; rw [← hK])
  have HQ := Lib.hid (show tabI C.sgn P x = if K = P.length then ptV P (P.length - 1) else if K = 0 ∨ x = ptN C.sgn P K then ptV P K else ptV P (K - 1) + (ptV P K - ptV P (K - 1)) * (x - ptN C.sgn P (K - 1)) / (ptN C.sgn P K - ptN C.sgn P (K - 1)) by unfold tabI; rw [← hK])
  generalize idxI C.sgn P x = ix at HI ⊢
  clear hK
  generalize w.heap.size = g at z6 zx HAT HR0 ⊢
  by_cases hKL : K = P.length
  · have HRES := Lib.hid (show tabI C.sgn P x = ptV P (P.length - 1) by rw [HQ.out, if_pos hKL])
    obtain rfl : ix = -1 := by rw [HI.out, if_pos hKL]
    obtain ⟨y0, y1⟩ := HC.out (P.length - 1) (by omega)
    have w5 : IntKind.i64.wrap ((P.length : Int) - 1) = (P.length : Int) - 1 := IntWalk.i64_in _ (by omega)
    have j2 : (0 : Int) ≤ (P.length : Int) - 1 := by omega
    have j3 : (P.length : Int) - 1 < (P.length : Int) := by omega
    have j4 : ((P.length : Int) - 1).toNat = P.length - 1 := by omega
    have j5 : 1 ≤ (P.length : Int) := by omega
    clear hKL
    go_wp2_with fail
    go_ret
    exact ⟨ret_int HRES.out.symm, HM.out⟩
  · have hlt : K < P.length := by omega
    obtain rfl : ix = (K : Int) := by rw [HI.out, if_neg hKL]
    obtain ⟨y0, y1⟩ := HC.out K hlt
    have i0 : (0 : Int) ≤ (K : Int) := by omega
    have i1 : (K : Int) < (P.length : Int) := by omega
    have dn : decide ((K : Int) < 0) = false := decide_eq_false (by omega)
    have HA1 := Lib.hid (fun W hg M => HAT.out W hg M K hlt)
    by_cases hz : K = 0
    · have HRES := Lib.hid (show tabI C.sgn P x = ptV P K by rw [HQ.out, if_neg hKL, if_pos (.inl hz)])
      have e1 : ((K : Int) == 0) = true := by simp; omega
      have e2 : (K == 0) = true := by simp; omega
      clear hz
      go_wp2_with fail
      go_quiet (fail)
      go_wp2_with fail
      go_ret
      exact ⟨ret_int HRES.out.symm, HM.out.drewN _⟩
    · have e1 : ((K : Int) == 0) = false := by simp; omega
      have e2 : (K == 0) = false := by simp; omega
      by_cases hx : x = ptN C.sgn P K
      · have HRES := Lib.hid (show tabI C.sgn P x = ptV P K by rw [HQ.out, if_neg hKL, if_pos (.inr hx)])
        have e3 : (x == ptN C.sgn P K) = true := by simpa using hx
        clear hz hx
        go_wp2_with fail
        go_quiet ((go_at_call 133; exact Calls.quiet_of (HA1.out _ HR0.out (HM.out.drewN _))))
        go_wp2_with fail
        go_ret
        exact ⟨ret_int HRES.out.symm, HM.out.drewN _⟩
      · have e3 : (x == ptN C.sgn P K) = false := by simpa using hx
        have HRES := Lib.hid (show tabI C.sgn P x = ptV P (K - 1) + (ptV P K - ptV P (K - 1)) * (x - ptN C.sgn P (K - 1)) / (ptN C.sgn P K - ptN C.sgn P (K - 1)) by rw [HQ.out, if_neg hKL, if_neg (fun h => h.elim hz hx)])
        obtain ⟨z0, z1⟩ := HC.out (K - 1) (by omega)
        have hb1 := HB.out (K - 1) (by omega)
        have HS := Lib.hid (tab_step HT.out HR.out HX.out.2 (by omega) hlt hb1)
        have j4 : ((K : Int) - 1).toNat = K - 1 := by omega
        have HA2 := Lib.hid (fun W hg M => HAT.out W hg M (K - 1) (by omega))
        rw [show ((K - 1 : Nat) : Int) = (K : Int) - 1 by omega] at HA2
        have w5 : IntKind.i64.wrap ((K : Int) - 1) = (K : Int) - 1 := IntWalk.i64_in _ (by omega)
        have j2 : (0 : Int) ≤ (K : Int) - 1 := by omega
        have j3 : (K : Int) - 1 < (P.length : Int) := by omega
        clear hb1 hx hz hKL
        have HS2 := HS.out
        have HRES2 := HRES.out
        clear HS HRES HQ HAT HB HC HI
        generalize ptV P K = vk at *
        generalize ptV P (K - 1) = vj at *
        generalize ptN C.sgn P K = nk at *
        generalize ptN C.sgn P (K - 1) = nj at *
        obtain ⟨p, hp⟩ : ∃ p, p = (vk - vj) * (x - nj) := ⟨_, rfl⟩
        obtain ⟨d, hd⟩ : ∃ d, d = nk - nj := ⟨_, rfl⟩
        rw [← hp, ← hd] at HS2 HRES2
        obtain ⟨s1, s2, s3, s4, s5, s6, s7, s8, s9, s10⟩ := HS2
        have hq := quot_bd p d s3 1000000000000000 s1 s2
        have w1 : IntKind.i64.wrap (vk - vj) = vk - vj := IntWalk.i64_in _ (by omega)
        have w2 : IntKind.i64.wrap (x - nj) = x - nj := IntWalk.i64_in _ (by omega)
        have w3' : IntKind.i64.wrap ((vk - vj) * (x - nj)) = p := by rw [← hp]; exact IntWalk.i64_in _ (by omega)
        have w4 : IntKind.i64.wrap (nk - nj) = d := by rw [← hd]; exact IntWalk.i64_in _ (by omega)
        have w6 : IntKind.i64.wrap (vj + p / d) = vj + p / d := IntWalk.i64_in _ (by omega)
        have HF := Lib.hid (fun W => cfloor_ok p d W (by omega) s3 (by omega))
        have HO := Lib.hid HRES2
        clear HRES2 hp hd hq s1 s2 s3 s4 s5 s6 s7 s8 s9 s10 HT HR HX
        go_wp2_with fail
        go_quiet ((go_at_call 133; exact Calls.quiet_of (HA1.out _ HR0.out (HM.out.drewN _))))
        go_wp2_with fail
        have HB1 := Lib.hid (fun n => HA1.out (w3.drewN n) HR0.out (HM.out.drewN n))
        have HB2 := Lib.hid (fun n => HA2.out (w3.drewN n) HR0.out (HM.out.drewN n))
        clear HA1 HA2
        go_quiet ((first
          | (go_at_call 133; first | with_reducible exact quiet_add_of (HB1.out _) | with_reducible exact quiet_add_of (HB2.out _))
          | (go_at_call 136; with_reducible exact quiet_add_left (HF.out _))))
        go_wp2_with fail
        go_ret
        exact ⟨ret_int HO.out.symm, (HM.out.drewN _).drewN _⟩
end Go.Proofs.Ytgjjmiaiclhidaa
