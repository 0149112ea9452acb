/- threshold.beyond and threshold.next: contracts. -/
import Derived.Test.YtokokojmeepoeaaSev
namespace Go.Proofs.Ytokokojmeepoeaa
open Go.RowKit

def beyI (S : Sen) (i : Nat) (x : Int) : Int := if i ≤ 2 then S.num i - x else x - S.num i
def hysI (S : Sen) (i : Nat) : Nat := if i ≤ 2 then S.hl else S.hu
theorem Sen.num_bd {w : World} {S : Sen} {P : List Pt} (h : IsSen w S P) (i : Nat) : -128 ≤ S.num i ∧ S.num i ≤ 255 := numI_bd (h.raw i)
set_option maxRecDepth 100000 in
set_option maxHeartbeats 1000000 in
theorem beyond_ok (w : World) (S : Sen) (P : List Pt) (hS : IsSen w S P) (i : Nat) (hi : i < 6) (r : Nat) (hr : r < 256) :
    Calls Try.prog 90 #[.agg S.cells, .int .i64 i, .int .u8 r] w fun e w' => e = .returned (.tuple #[.int .i64 (beyI S i (numI S.conv.sgn r)), .int .i64 (hysI S i)]) ∧ Mods [] w w' := by
  have hri := hS.raw i
  have hnum := Sen.num_bd hS i
  have hx := numI_bd (sgn := S.conv.sgn) hr
  have hl := hS.hl
  have hu := hS.hu
  clear hS
  have B0 := SenBox.new w S
  have hc := B0.craw hi
  have M0 := Lib.hid ((Mods.refl (S := []) (w := w)).alloc (.cells S.cells 32))
  obtain ⟨_, x8, _, _, _, _, _⟩ := S.convc
  obtain ⟨x21, x22, _, _, _, _, _⟩ := S.restc
  rw [B0.c] at hc
  clear B0
  have i1 : (0 : Int) ≤ (i : Int) := by omega
  have i2 : (i : Int) < 6 := by omega
  have HN := Lib.hid (show numI S.conv.sgn (S.raw i) = S.num i from rfl)
  generalize hxx : numI S.conv.sgn r = x at hx
  have HX := Lib.hid hxx
  clear hxx
  by_cases h2 : i ≤ 2
  · have HB := Lib.hid (show beyI S i x = S.num i - x by rw [beyI, if_pos h2])
    have HH := Lib.hid (show hysI S i = S.hl by rw [hysI, if_pos h2])
    have e1 : decide ((i : Int) ≤ 2) = true := by simp; omega
    go_enter Try.func90, Try.ntmps90
    go_wp2_with fail
    go_quiet ((go_at_call 103; exact quiet_left (number_ok _ _ (by assumption) _)))
    rw [HX.out, HN.out]
    go_wp2_with fail
    go_quiet (fail)
    go_wp2
    go_ret2
    exact ⟨by rw [HB.out, HH.out]; rfl, (M0.out.drewN _).drewN _⟩
  · have HB := Lib.hid (show beyI S i x = x - S.num i by rw [beyI, if_neg h2])
    have HH := Lib.hid (show hysI S i = S.hu by rw [hysI, if_neg h2])
    have e1 : decide ((i : Int) ≤ 2) = false := by simp; omega
    go_enter Try.func90, Try.ntmps90
    go_wp2_with fail
    go_quiet ((go_at_call 103; exact quiet_left (number_ok _ _ (by assumption) _)))
    rw [HX.out, HN.out]
    go_wp2_with fail
    go_quiet (fail)
    go_wp2
    go_ret2
    exact ⟨by rw [HB.out, HH.out]; rfl, (M0.out.drewN _).drewN _⟩
/-- Threshold i behind a reading of number x. -/
def nextB (S : Sen) (st : Nat) (x : Int) (i : Nat) : Bool := S.mask.testBit i && (decide (0 ≤ beyI S i x) || st.testBit i && decide (-(hysI S i : Int) ≤ beyI S i x))
def nextN (S : Sen) (st : Nat) (x : Int) : Nat := ofBits (nextB S st x) 6
theorem bit_and (m i : Nat) (_hm : m < 256) (hi : i < 8) : bits .and .u8 ((2 ^ i : Nat) : Int) (m : Int) = ((if m.testBit i then 2 ^ i else 0 : Nat) : Int) := by
  have hp : 2 ^ i < 256 := Nat.pow_lt_pow_right (a := 2) (n := 8) (by omega) hi
  rw [u8_and_nat _ _ hp _hm]
  congr 1
  rw [Nat.and_comm, nat_bit, tb]
  rcases Nat.mod_two_eq_zero_or_one (m / 2 ^ i) with h | h <;> simp [h]
set_option maxRecDepth 100000 in
set_option maxHeartbeats 4000000 in
theorem next_state_ok (w : World) (S : Sen) (P : List Pt) (hS : IsSen w S P) (st r : Nat) (hst : st < 256) (hr : r < 256) :
    Calls Try.prog 63 #[.agg S.cells, .int .u8 st, .int .u8 r] w fun e w' => e = .returned (.int .u8 (nextN S st (numI S.conv.sgn r))) ∧ Mods [] w w' := by
  have hm := hS.mask
  have HS := Lib.hid hS
  have hx := numI_bd (sgn := S.conv.sgn) hr
  clear hS
  have B0 := SenBox.new w S
  have M0 := (Mods.refl (S := []) (w := w)).alloc (.cells S.cells 32)
  go_enter Try.func63, Try.ntmps63
  go_wp2_with fail
  generalize w.alloc (.cells S.cells 32) = w1 at B0 M0 ⊢
  generalize w.heap.size = g at B0 ⊢
  obtain ⟨f, hf⟩ : ∃ f, f = nextB S st (numI S.conv.sgn r) := ⟨_, rfl⟩
  have HN := Lib.hid (show nextN S st (numI S.conv.sgn r) = ofBits f 6 by rw [hf]; rfl)
  have HF := Lib.hid hf
  clear hf
  go_loopw [7, 12] (fun o i wr => ∃ k : Nat, k ≤ 6 ∧ i = .int .i64 k ∧ o = .int .u8 (ofBits f k) ∧ Mods [] w wr ∧ SenBox wr g S) (fun _ i _ => 6 - (intOf i).toNat)
  case atStart => exact ⟨0, by omega, rfl, rfl, M0, B0⟩
  case round =>
    obtain ⟨k, hk, rfl, rfl, M1, B1⟩ := hrel
    clear M0 B0
    by_cases hlt : k < 6
    · have y14 := B1.lims.1
      have i1 : (0 : Int) ≤ (k : Int) := by omega
      have i2 : (k : Int) < 8 := by omega
      have MM := Lib.hid M1
      have BB := Lib.hid B1
      clear M1 B1
      have hpow : ((2 : Int) ^ k % 256) = ((2 ^ k : Nat) : Int) := by
        have h1 : 2 ^ k < 256 := Nat.pow_lt_pow_right (a := 2) (n := 8) (by omega) (by omega)
        have h2 : ((2 ^ k : Nat) : Int) = (2 : Int) ^ k := by simp
        rw [← h2]; exact Int.emod_eq_of_lt (Int.natCast_nonneg _) (Int.ofNat_lt.2 h1)
      have hb9 := bit_and S.mask k hm (by omega)
      have hs9 := bit_and st k hst (by omega)
      have HO := Lib.hid (ofBits_or (f := f) (k := k))
      have hol : ofBits f k < 256 := Nat.lt_of_lt_of_le (ofBits_lt f k) (show 2 ^ k ≤ 2 ^ 8 from Nat.pow_le_pow_right (by omega) (by omega))
      have HE := Lib.hid (show f k = (S.mask.testBit k && (decide (0 ≤ beyI S k (numI S.conv.sgn r)) || st.testBit k && decide (-(hysI S k : Int) ≤ beyI S k (numI S.conv.sgn r)))) by rw [HF.out]; rfl)
      have hn1 : -400 ≤ beyI S k (numI S.conv.sgn r) ∧ beyI S k (numI S.conv.sgn r) ≤ 400 := by
        have := Sen.num_bd HS.out k
        unfold beyI; split <;> omega
      have hh1 : hysI S k < 256 := by have := HS.out.hl; have := HS.out.hu; unfold hysI; split <;> omega
      have HBY := Lib.hid (fun W (hW : Mods [] w W) => beyond_ok W S P (HS.out.mods0 hW) k hlt r hr)
      have HHO := Lib.hid (show ofBits f (k + 1) = ofBits f k + if f k then 2 ^ k else 0 from rfl)
      generalize beyI S k (numI S.conv.sgn r) = n at HE hn1 HBY
      generalize hysI S k = h at HE hh1 HBY
      obtain ⟨p, hp⟩ : ∃ p, p = 2 ^ k := ⟨_, rfl⟩
      rw [← hp] at hpow hb9 hs9 HO HHO
      have hp1 : p < 256 := by rw [hp]; exact Nat.pow_lt_pow_right (a := 2) (n := 8) (by omega) (by omega)
      have hp0 : 0 < p := by rw [hp]; exact Nat.pow_pos (by omega)
      clear hp
      obtain ⟨o, ho⟩ : ∃ o, o = ofBits f k := ⟨_, rfl⟩
      rw [← ho] at HO HHO hol ⊢
      have HOO := Lib.hid ho
      clear ho
      rw [← hpow] at hb9
      cases hmb : S.mask.testBit k with
      | false =>
        have HK := Lib.hid (show ofBits f (k + 1) = o by rw [HHO.out, HE.out, hmb]; rfl)
        rw [hmb] at hb9
        simp only [Bool.false_eq_true, if_false, Int.natCast_zero] at hb9
        have hz : bits .and .u8 (st : Int) 0 = 0 := by rw [show (0 : Int) = ((0 : Nat) : Int) from rfl, u8_and_nat _ _ hst (by omega)]; simp
        have hoz : bits .or .u8 (o : Int) 0 = (o : Int) := by rw [show (0 : Int) = ((0 : Nat) : Int) from rfl, u8_or_nat _ _ hol (by omega)]; simp
        clear hmb hpow hs9
        go_wp2_with fail
        go_quiet (fail)
        go_wp2_with (refine wpList_load_sen rfl (.tmp 3) rfl (BB.out.mods0 (Mods.refl.drewN nq)) (by rfl) ?_)
        refine (HBY.out _ (MM.out.drewN nq)).mono ?_
        rintro e w3 ⟨rfl, M3⟩
        have M4 := Lib.hid ((MM.out.drewN nq).trans M3)
        have B4 := Lib.hid (BB.out.mods0 ((Mods.refl.drewN nq).trans M3))
        clear M3
        go_wp2
        all_goals exact ⟨⟨k + 1, by omega, by go_num, by rw [HK.out], M4.out, B4.out⟩, by simp only [intOf]; omega⟩
      | true =>
        have HE := Lib.hid (show f k = (decide (0 ≤ n) || st.testBit k && decide (-(h : Int) ≤ n)) by rw [HE.out, hmb]; rfl)
        rw [hmb] at hb9
        simp only [if_true] at hb9
        have hoo : bits .or .u8 (o : Int) (p : Int) = ((o ||| p : Nat) : Int) := u8_or_nat _ _ hol hp1
        clear hmb hpow
        have hcomm : bits .and .u8 (st : Int) (p : Int) = ((if st.testBit k then p else 0 : Nat) : Int) := by
          rw [u8_and_nat _ _ hst hp1, Nat.and_comm, ← u8_and_nat _ _ hp1 hst] ; exact hs9
        clear hs9
        by_cases hn : 0 ≤ n
        · skip
          have HK := Lib.hid (show ofBits f (k + 1) = o ||| p by rw [← HO.out, HE.out, if_pos (by simp[hn])])
          go_wp2_with fail
          go_quiet (fail)
          go_wp2_with (refine wpList_load_sen rfl (.tmp 3) rfl (BB.out.mods0 (Mods.refl.drewN nq)) (by rfl) ?_)
          refine (HBY.out _ (MM.out.drewN nq)).mono ?_
          rintro e w3 ⟨rfl, M3⟩
          have M4 := Lib.hid ((MM.out.drewN nq).trans M3)
          have B4 := Lib.hid (BB.out.mods0 ((Mods.refl.drewN nq).trans M3))
          clear M3
          go_wp2_with fail
          all_goals try (exfalso; omega)
          exact ⟨⟨k + 1, by omega, by go_num, by rw [HK.out], M4.out, B4.out⟩, by simp only [intOf]; omega⟩
        · cases hsb : st.testBit k with
          | false =>
            have HK := Lib.hid (show ofBits f (k + 1) = o by rw [HHO.out, HE.out, if_neg (by simp[hsb];omega)]; rfl)
            rw [hsb] at hcomm
            simp only [Bool.false_eq_true, if_false, Int.natCast_zero] at hcomm
            clear hsb
            go_wp2_with fail
            go_quiet (fail)
            go_wp2_with (refine wpList_load_sen rfl (.tmp 3) rfl (BB.out.mods0 (Mods.refl.drewN nq)) (by rfl) ?_)
            refine (HBY.out _ (MM.out.drewN nq)).mono ?_
            rintro e w3 ⟨rfl, M3⟩
            have M4 := Lib.hid ((MM.out.drewN nq).trans M3)
            have B4 := Lib.hid (BB.out.mods0 ((Mods.refl.drewN nq).trans M3))
            clear M3
            go_wp2_with fail
            all_goals try (exfalso; omega)
            exact ⟨⟨k + 1, by omega, by go_num, by rw [HK.out], M4.out, B4.out⟩, by simp only [intOf]; omega⟩
          | true =>
            rw [hsb] at hcomm
            simp only [if_true] at hcomm
            have hp2 : ((p : Int) != 0) = true := by simp; omega
            by_cases hh : -(h : Int) ≤ n
            · skip
              have HK := Lib.hid (show ofBits f (k + 1) = o ||| p by rw [← HO.out, HE.out, if_pos (by simp[hsb,hh])])
              clear hsb
              go_wp2_with fail
              go_quiet (fail)
              go_wp2_with (refine wpList_load_sen rfl (.tmp 3) rfl (BB.out.mods0 (Mods.refl.drewN nq)) (by rfl) ?_)
              refine (HBY.out _ (MM.out.drewN nq)).mono ?_
              rintro e w3 ⟨rfl, M3⟩
              have M4 := Lib.hid ((MM.out.drewN nq).trans M3)
              have B4 := Lib.hid (BB.out.mods0 ((Mods.refl.drewN nq).trans M3))
              clear M3
              go_wp2_with fail
              all_goals try (exfalso; omega)
              exact ⟨⟨k + 1, by omega, by go_num, by rw [HK.out], M4.out, B4.out⟩, by simp only [intOf]; omega⟩
            · have hh2 : n < -(h : Int) := by omega
              have HK := Lib.hid (show ofBits f (k + 1) = o by rw [HHO.out, HE.out, if_neg (by simp[hsb];omega)]; rfl)
              clear hsb
              go_wp2_with fail
              go_quiet (fail)
              go_wp2_with (refine wpList_load_sen rfl (.tmp 3) rfl (BB.out.mods0 (Mods.refl.drewN nq)) (by rfl) ?_)
              refine (HBY.out _ (MM.out.drewN nq)).mono ?_
              rintro e w3 ⟨rfl, M3⟩
              have M4 := Lib.hid ((MM.out.drewN nq).trans M3)
              have B4 := Lib.hid (BB.out.mods0 ((Mods.refl.drewN nq).trans M3))
              clear M3
              go_wp2_with fail
              all_goals try (exfalso; omega)
              exact ⟨⟨k + 1, by omega, by go_num, by rw [HK.out], M4.out, B4.out⟩, by simp only [intOf]; omega⟩
    · have hk6 : k = 6 := by omega
      subst hk6
      go_wp2
      go_ret
      exact ⟨ret_int (by rw [HN.out]), M1⟩
end Go.Proofs.Ytokokojmeepoeaa
