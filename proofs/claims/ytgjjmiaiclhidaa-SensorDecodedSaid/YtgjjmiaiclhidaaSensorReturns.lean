/- SensorReturns: the walk. -/
import Derived.Test.YtgjjmiaiclhidaaSenDec
import Derived.Test.YtgjjmiaiclhidaaSame10
import Derived.Test.YtgjjmiaiclhidaaBaseL
import Derived.Test.YtgjjmiaiclhidaaBaseJ
import Derived.Test.YtgjjmiaiclhidaaMadeSen
import Derived.Test.YtgjjmiaiclhidaaBaseG
import Derived.Test.YtgjjmiaiclhidaaValD
namespace Go.Proofs.Ytgjjmiaiclhidaa
open Go.RowKit

theorem seal8_bytes {A : List Int} (hb : Bytes A) : Bytes (seal8 A) := by
  intro i
  have hs : 0 ≤ sum8 A ∧ sum8 A < 256 := by unfold sum8; omega
  unfold seal8
  rcases Nat.lt_trichotomy i A.length with h | h | h
  · rw [List.getD_eq_getElem?_getD, List.getElem?_append_left h, ← List.getD_eq_getElem?_getD]
    exact hb i
  · rw [List.getD_eq_getElem?_getD, h, List.getElem?_append_right (Nat.le_refl _)]
    simp
    omega
  · rw [List.getD_eq_getElem?_getD, List.getElem?_eq_none (by simp; omega)]
    simp
theorem Bytes.set {A : List Int} (h : Bytes A) (i : Nat) {y : Int} (hy : 0 ≤ y ∧ y ≤ 255) : Bytes (A.set i y) := by
  intro j
  have := h j
  rw [List.getD_eq_getElem?_getD] at this ⊢
  rw [List.getElem?_set]
  split
  · split
    · exact hy
    · exact ⟨by simp, by simp⟩
  · exact this
theorem xor_byte {x m : Nat} (hx : x < 256) (hm : m < 256) (h0 : m ≠ 0) : (x ^^^ m) < 256 ∧ x ^^^ m ≠ x := by
  refine ⟨Nat.xor_lt_two_pow (n := 8) hx hm, fun h => h0 ?_⟩
  have : x ^^^ (x ^^^ m) = x ^^^ x := by rw [h]
  rwa [← Nat.xor_assoc, Nat.xor_self, Nat.zero_xor] at this
set_option maxRecDepth 100000 in
set_option maxHeartbeats 8000000 in
theorem sensorReturns_walk (w : World) (v : Value) (L : List Int) (hv : Rd w v (i64s L)) (hb : ∀ i, -9223372036854775808 ≤ L.getD i 0 ∧ L.getD i 0 ≤ 9223372036854775807) (at_ : Int) (hat : I64 at_) (mask : Int) (hmask : 0 ≤ mask ∧ mask ≤ 255) (cut : Int) (hcut : I64 cut) :
    Calls Try.prog 4 #[v, .int .i64 at_, .int .u8 mask, .int .i64 cut] w fun e w' => e = .returned (.bool true) ∧ Mods [] w w' := by
  have HAT := Lib.hid hat
  have HCT := Lib.hid hcut
  obtain ⟨mk, rfl⟩ := Int.eq_ofNat_of_zero_le hmask.1
  have hmk : mk < 256 := by omega
  clear hat hcut hmask
  have HL := Lib.hid (light_ok w v L hv)
  have HV := Lib.hid hv
  have HB := Lib.hid hb
  clear hv hb
  by_cases hl : L.length ≤ 600
  · skip
    have HLL := Lib.hid (decide_eq_true hl)
    go_enter Try.func4, Try.ntmps4
    go_wp2_with fail
    refine HL.out.mono ?_
    rw [HLL.out]
    rintro e w' ⟨rfl, rfl⟩
    go_wp2_with fail
    refine (roll_ok w v L HV.out (by omega) HB.out).mono ?_
    rintro e w1 ⟨rfl, D1, M1, z1⟩
    go_wp2_with fail
    have HM1 := Lib.hid M1
    have HD1 := Lib.hid D1
    have hb1 := D1.lt
    have hwb := M1.size
    clear M1 D1 z1 HV HB HL
    refine (byte_ok w1 _ v L 0 HD1.out).mono ?_
    rintro e w2 ⟨num, n2, rfl, nu0, nu1, D2, M2⟩
    obtain ⟨num, rfl⟩ := Int.eq_ofNat_of_zero_le nu0
    have HM2 := Lib.hid (HM1.out.comp M2 (fun q hq => by simp at hq; subst hq; exact .inr (Nat.le_refl _)))
    have HD2 := Lib.hid D2
    clear M2 D2 HM1 HD1
    go_wp2_with fail
    refine (sensor_ok w2 _ v L n2 HD2.out num (by omega)).mono ?_
    rintro e w3 ⟨S, P, n3, rfl, IS, VS, OP, PL, SN, D3, M3⟩
    have HM3 := Lib.hid (HM2.out.comp M3 (fun q hq => by simp at hq; subst hq; exact .inr (Nat.le_refl _)))
    have HIS := Lib.hid IS
    have HVS := Lib.hid VS
    have hone := Lib.hid IS.conv.rd.one
    have hw3 := HM3.out.size
    clear M3 D3 IS VS OP PL SN HM2 HD2
    go_wp2_with (first
      | (refine wpList_load_sen rfl (.tmp 10) rfl HB4.out (by rfl) ?_)
      | (refine wpList_store_row (cs := S.cells) rfl 32 (.tmp 10) (.tmp 28) rfl (heap_alloc_new w3 _) (by rfl) (by rfl) (by rfl) (Sen.infoS _) (Sen.one _ hone.out) ?_; intro w4 R4 M4; have HB4 := Lib.hid (show SenBox w4 w3.heap.size S from ⟨R4⟩); have HF4 := Lib.hid (fresh M4); clear R4 M4))
    have HM4 := Lib.hid (HM3.out.trans HF4.out)
    have HIS4 := Lib.hid (HIS.out.mods0 HF4.out)
    generalize hgs : w3.heap.size = gs at HB4 hw3 ⊢
    clear hgs HF4 HIS HM3
    refine (encodeS_ok w4 S P HIS4.out).mono ?_
    rw [HVS.out]
    rintro e w5 h5
    unfold EncRes at h5
    rw [if_pos rfl] at h5
    obtain ⟨u, rfl, O5, M5⟩ := h5
    have hlen := senL_len HVS.out
    have hsb : Bytes (seal8 (senL S P)) := by
      have := O5
      exact seal8_bytes (senL_bytes HIS4.out HVS.out).1
    have hsl : (seal8 (senL S P)).length = (senL S P).length + 1 := by simp [seal8]
    have HE0 := Lib.hid (errS_seal HIS4.out HVS.out)
    have HSX : Hid (∀ pv, senX (seal8 (senL S P)).dropLast pv = S.with (senX (seal8 (senL S P)).dropLast pv).conv.pts ∧ ptsX (seal8 (senL S P)).dropLast = P) := Lib.hid (fun pv => by
      rw [seal_dropLast]
      obtain ⟨_, _, _, _, h5, h6⟩ := sdec_enc HIS4.out HVS.out pv
      exact ⟨h6, h5⟩)
    have HS0 := Lib.hid (sum_seal (senL S P))
    obtain ⟨g, c, cur, hu, hgc, hc1, hc2, hc3, hc4⟩ := owns_form O5 (by rw [u8s_length]; omega)
    rw [u8s_length] at hu
    subst hu
    have HO5 := Lib.hid (show OwnB w5 w4.heap.size (.slice (some ⟨g, 0, none⟩) (seal8 (senL S P)).length c) (seal8 (senL S P)) from O5)
    have hg4 := (HO5.out.lt g rfl).1
    have HM5 := Lib.hid (HM4.out.trans M5)
    have HB5 := Lib.hid (HB4.out.mods0 M5)
    have HIS5 := Lib.hid (HIS4.out.mods0 M5)
    have hw4 := HM4.out.size
    have hgs4 := lt_of_block HB4.out.blk
    clear O5 M5 HB4 HIS4 HM4 hgc hc3 hc4
    generalize seal8 (senL S P) = A at hsb hsl HE0 HSX HS0 HO5 hc1 ⊢
    rw [u8s_length] at hc1
    generalize w4.heap.size = h4 at HO5 hg4 hw4 hgs4
    have hA1 : 10 ≤ A.length := by omega
    have hA2 : A.length ≤ 124 := by omega
    clear hlen hsl
    have HSB := Lib.hid hsb
    clear hsb
    go_wp2_with fail
    refine (senDec_ok w5 _ A HO5.out.rd HSB.out (by omega)).mono ?_
    rintro e w6 h6
    obtain ⟨pv, rfl, IS6, M6⟩ := h6.good HSB.out HE0.out
    obtain ⟨q1, q2⟩ := HSX.out pv
    rw [q1, q2] at IS6
    rw [q1]
    generalize (senX A.dropLast pv).conv.pts = pv' at IS6 ⊢
    have HC6 := Lib.hid (show IsConv w6 (S.conv.with pv') P from IS6.conv)
    have HM6 := Lib.hid (HM5.out.trans M6)
    have HB6 := Lib.hid (HB5.out.mods0 M6)
    have HIS6 := Lib.hid (HIS5.out.mods0 M6)
    have HO6 := Lib.hid (HO5.out.mods0 M6)
    have hon6 := Lib.hid (show (S.with pv').conv.pts.oneCell' = true from IS6.conv.rd.one)
    have hgw : g < w6.heap.size := (HO6.out.lt g rfl).2
    clear q1 q2 IS6 M6 h6 HB5 HIS5 HM5 HO5 HSX
    go_wp2_with (first
      | (refine wpList_load_sen rfl (.tmp 10) rfl HB7.out (by rfl) ?_)
      | (refine wpList_step (fun K hK => ?_); rw [if_pos (by rfl)]; refine wp_load_row _ (.tmp 10) rfl gs rfl _ _ _ _ HB7.out.blk Try.underlying32 rfl (Sen.infoS S) (hK _ _ ?_))
      | (refine wpList_step (fun K hK => ?_); rw [if_pos (by rfl)]; refine wp_load_row _ (.tmp 13) rfl w6.heap.size rfl _ _ _ _ HX7.out Try.underlying32 rfl (Sen.infoS (S.with pv')) (hK _ _ ?_))
      | (refine wpList_store_row (cs := (S.with pv').cells) rfl 32 (.tmp 13) (.tmp 49) rfl (heap_alloc_new w6 _) (by rfl) (by rfl) (by rfl) (Sen.infoS _) (Sen.one _ hon6.out) ?_; intro w7 R7 M7; have HX7 := Lib.hid R7; have HF7 := Lib.hid (fresh M7); have HB7 := Lib.hid (HB6.out.mods0 HF7.out); clear R7 M7))
    have HM7 := Lib.hid (HM6.out.trans HF7.out)
    have HO7 := Lib.hid (HO6.out.mods0 HF7.out)
    refine (refSame10_ok w7 S P S.conv.pts pv' (HIS6.out.mods0 HF7.out).conv (HC6.out.mods0 HF7.out)).mono ?_
    rintro e w8 ⟨rfl, M8⟩
    have HM8 := Lib.hid (HM7.out.trans M8)
    have HO8 := Lib.hid (HO7.out.mods0 M8)
    clear M8 HM7 HO7 HX7 HF7 HB7 HM6 HB6 HIS6 HO6 HC6 hon6
    have ea : (0 : Int) < (A.length : Int) := by omega
    have e10 : decide ((A.length : Int) < 10) = false := decide_eq_false (by omega)
    by_cases hm0 : mk = 0
    · subst hm0
      go_wp2_with fail
      -- the last part: the bytes cut; wt, HMt, HOt : OwnB wt h4 slice At
      refine (mod_ok _ _ _ HCT.out (by omega) (by omega)).mono ?_
      rintro e w' ⟨rfl, rfl⟩
      have hc9 : 0 ≤ cut % 9 ∧ cut % 9 < 9 := by omega
      obtain ⟨ck, hck⟩ : ∃ ck : Nat, cut % 9 = (ck : Int) := ⟨(cut % 9).toNat, by omega⟩
      rw [hck]
      have hk9 : ck < 9 := by omega
      have HRT := Lib.hid (HO8.out.rd.take ck (by first | omega | (simp; omega)))
      have HET := Lib.hid (show errS (A.take ck) = 4 by unfold errS; rw [if_pos (by rw [List.length_take]; omega)])
      have HBT := Lib.hid (HSB.out.take ck)
      have HLT := Lib.hid (show (A.take ck).length ≤ 100000 by rw [List.length_take]; omega)
      have z0 : (0 : Int) ≤ (ck : Int) := by omega
      have z1 : (ck : Int) ≤ (c : Int) := by omega
      clear hck hc9
      go_wp2_with fail
      refine (senDec_ok _ _ (A.take ck) HRT.out HBT.out HLT.out).mono ?_
      rintro e wx hx
      obtain ⟨rfl, Mx⟩ := hx.bad (by rw [HET.out]; decide)
      rw [HET.out]
      have HMX := Lib.hid (HM8.out.trans Mx)
      clear Mx hx HET HRT HBT
      go_wp2_with (refine wpList_store_row (cs := zS.cells) rfl 32 (.tmp 17) (.tmp 84) rfl (heap_alloc_new wx _) (by rfl) (by rfl) (by rfl) (Sen.infoS _) zS_one ?_; intro wy Ry My; have HFY := Lib.hid (fresh My); clear Ry My)
      refine (awakeS_ok _).mono ?_
      rintro e wz ⟨rfl, Mz⟩
      have HMZ := Lib.hid (HMX.out.trans (HFY.out.trans Mz))
      clear Mz
      go_wp2_with fail
      go_ret
      exact ⟨rfl, HMZ.out⟩
    · have em : ((mk : Int) != 0) = true := by simpa using hm0
      go_wp2_with fail
      refine (mod_ok _ _ _ HAT.out (by omega) (by omega)).mono ?_
      rintro e w' ⟨rfl, rfl⟩
      obtain ⟨i, hi⟩ : ∃ i : Nat, at_ % (A.length : Int) = (i : Int) := ⟨(at_ % (A.length : Int)).toNat, by have := Int.emod_nonneg at_ (show (A.length : Int) ≠ 0 by omega); omega⟩
      have hil : i < A.length := by have := Int.emod_lt_of_pos at_ ea; omega
      rw [hi]
      clear hi
      have hx := HSB.out i
      obtain ⟨x, hxx⟩ : ∃ x : Nat, A.getD i 0 = (x : Int) := ⟨(A.getD i 0).toNat, by omega⟩
      rw [hxx] at hx
      have hx8 : x < 256 := by omega
      have hxo : bits .xor .u8 (x : Int) (mk : Int) = ((x ^^^ mk : Nat) : Int) := u8_xor_nat _ _ hx8 hmk
      obtain ⟨hy8, hne⟩ := xor_byte hx8 hmk hm0
      have HSM := Lib.hid (sum8_set HSB.out HS0.out hil (y := ((x ^^^ mk : Nat) : Int)) (by omega) (by rw [hxx]; omega))
      have cx : w8.cell? ⟨g, i, none⟩ = some (.int .u8 (x : Int)) := by
        obtain ⟨_, _, he, _, _, hc⟩ := HO8.out.rd.u8
        injection he with he1 _ _
        obtain ⟨b, o, h, hx⟩ := hc i hil
        rw [← he1] at h
        cases h
        rw [Nat.zero_add, hxx] at hx
        exact hx
      have fx : w8.frozen? ⟨g, i, none⟩ = false := by
        obtain ⟨g', _, cur, he, hgb, _⟩ := owns_form HO8.out (by rw [u8s_length]; omega)
        injection he with he _ _
        injection he with he
        injection he with he _
        subst he
        exact froz_blk hgb i
      have HSB9 := Lib.hid (HSB.out.set i (show 0 ≤ ((x ^^^ mk : Nat) : Int) ∧ ((x ^^^ mk : Nat) : Int) ≤ 255 by omega))
      have HO9 := Lib.hid (HO8.out.set hil ((x ^^^ mk : Nat) : Int)).1
      have HM9 := Lib.hid (HM8.out.setCell (p := ⟨g, i, none⟩) (.inr (by show w.heap.size ≤ g; omega)) (.int .u8 ((x ^^^ mk : Nat) : Int)))
      have i1 : (0 : Int) ≤ (i : Int) := by omega
      have i2 : (i : Int) < (A.length : Int) := by omega
      generalize x ^^^ mk = y at hxo HSM HSB9 HO9 HM9 hy8 hne
      clear hxx hx
      go_wp2_with fail
      clear cx fx
      generalize w8.setCell ⟨g, i, none⟩ (.int .u8 (y : Int)) = w9 at HO9 HM9 ⊢
      have HE9 := Lib.hid (show errS (A.set i (y : Int)) = 5 by unfold errS; rw [if_neg (by rw [List.length_set]; omega), if_pos HSM.out])
      refine (senDec_ok w9 _ (A.set i (y : Int)) HO9.out.rd HSB9.out (by rw [List.length_set]; omega)).mono ?_
      rintro e wa ha
      obtain ⟨rfl, Ma⟩ := ha.bad (by rw [HE9.out]; decide)
      rw [HE9.out]
      have HMa := Lib.hid (HM9.out.trans Ma)
      have HOa := Lib.hid (HO9.out.mods0 Ma)
      clear Ma ha HE9 HSM
      go_wp2_with (refine wpList_store_row (cs := zS.cells) rfl 32 (.tmp 15) (.tmp 74) rfl (heap_alloc_new wa _) (by rfl) (by rfl) (by rfl) (Sen.infoS _) zS_one ?_; intro wb Rb Mb; have HFb := Lib.hid (fresh Mb); clear Rb Mb)
      have HMb := Lib.hid (HMa.out.trans HFb.out)
      have HOb := Lib.hid (HOa.out.mods0 HFb.out)
      -- the last part: the bytes cut; wt, HMt, HOt : OwnB wt h4 slice At
      refine (mod_ok _ _ _ HCT.out (by omega) (by omega)).mono ?_
      rintro e w' ⟨rfl, rfl⟩
      have hc9 : 0 ≤ cut % 9 ∧ cut % 9 < 9 := by omega
      obtain ⟨ck, hck⟩ : ∃ ck : Nat, cut % 9 = (ck : Int) := ⟨(cut % 9).toNat, by omega⟩
      rw [hck]
      have hk9 : ck < 9 := by omega
      have HRT := Lib.hid (HOb.out.rd.take ck (by first | omega | (simp; omega)))
      have HET := Lib.hid (show errS ((A.set i (y : Int)).take ck) = 4 by unfold errS; rw [if_pos (by rw [List.length_take]; omega)])
      have HBT := Lib.hid (HSB9.out.take ck)
      have HLT := Lib.hid (show ((A.set i (y : Int)).take ck).length ≤ 100000 by rw [List.length_take]; omega)
      have z0 : (0 : Int) ≤ (ck : Int) := by omega
      have z1 : (ck : Int) ≤ (c : Int) := by omega
      clear hck hc9
      go_wp2_with fail
      refine (senDec_ok _ _ ((A.set i (y : Int)).take ck) HRT.out HBT.out HLT.out).mono ?_
      rintro e wx hx
      obtain ⟨rfl, Mx⟩ := hx.bad (by rw [HET.out]; decide)
      rw [HET.out]
      have HMX := Lib.hid (HMb.out.trans Mx)
      clear Mx hx HET HRT HBT
      go_wp2_with (refine wpList_store_row (cs := zS.cells) rfl 32 (.tmp 17) (.tmp 84) rfl (heap_alloc_new wx _) (by rfl) (by rfl) (by rfl) (Sen.infoS _) zS_one ?_; intro wy Ry My; have HFY := Lib.hid (fresh My); clear Ry My)
      refine (awakeS_ok _).mono ?_
      rintro e wz ⟨rfl, Mz⟩
      have HMZ := Lib.hid (HMX.out.trans (HFY.out.trans Mz))
      clear Mz
      go_wp2_with fail
      go_ret
      exact ⟨rfl, HMZ.out⟩
  · skip
    have HLL := Lib.hid (decide_eq_false hl)
    go_enter Try.func4, Try.ntmps4
    go_wp2_with fail
    refine HL.out.mono ?_
    rw [HLL.out]
    rintro e w' ⟨rfl, rfl⟩
    go_wp2_with fail
    refine (awakeS_ok _).mono ?_
    rintro e w1 ⟨rfl, M1⟩
    go_wp2
    go_ret
    exact ⟨rfl, M1⟩
end Go.Proofs.Ytgjjmiaiclhidaa
