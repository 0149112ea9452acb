/- The reference's Reached and Step of thresholds: contracts. -/
import Derived.Test.YtokokojmeepoeaaRef12
import Derived.Test.YtokokojmeepoeaaThresholdStays
namespace Go.Proofs.Ytokokojmeepoeaa
open Go.RowKit

theorem pow8 {j : Nat} (hj : j < 8) : IntKind.u8.wrap ((2 : Int) ^ j) = ((2 ^ j : Nat) : Int) := by
  rw [IntKind.wrap_u8]
  have h1 : 2 ^ j < 256 := Nat.pow_lt_pow_right (a := 2) (n := 8) (by omega) (by omega)
  have h2 : ((2 ^ j : Nat) : Int) = (2 : Int) ^ j := by simp
  rw [← h2]; exact Int.emod_eq_of_lt (Int.natCast_nonneg _) (Int.ofNat_lt.2 h1)
set_option maxRecDepth 100000 in
set_option maxHeartbeats 2000000 in
theorem refReached_ok (w : World) (S : Sen) (P : List Pt) (hS : IsSen w S P) (r : Nat) (hr : r < 256) :
    Calls Try.prog 41 #[.agg S.cells, .int .u8 r] w fun e w' => e = .returned (.tuple #[.int .u8 (reachN S P r).1, .int .i64 (reachN S P r).2]) ∧ Mods [] w w' := by
  have hmk := hS.mask
  have hw := wrap16 (m := S.mask) (by omega)
  have HS := Lib.hid hS
  have hxb := numI_bd (sgn := S.conv.sgn) hr
  clear hS
  have BB := Lib.hid (SenBox.new w S)
  have M0 := Lib.hid ((Mods.refl (S := []) (w := w)).alloc (.cells S.cells 32))
  go_enter Try.func41, Try.ntmps41
  go_wp2_with (refine wpList_load_sen rfl (.tmp 2) rfl BB.out (by rfl) ?_)
  refine (refAnalog_ok _ S P (HS.out.mods0 M0.out)).mono ?_
  rintro e w2 ⟨rfl, M2⟩
  have BB := Lib.hid (BB.out.mods0 M2)
  have M2 := Lib.hid (M0.out.trans M2)
  cases ha : anaB S P with
  | false =>
    have HR := Lib.hid (show reachN S P r = (0, 1) by simp [reachN, ha])
    clear ha
    go_wp2_with fail
    go_ret2
    exact ⟨by rw [HR.out]; rfl, M2.out⟩
  | true =>
    have HR := Lib.hid (show reachN S P r = (nextN S 0 (numI S.conv.sgn r), 0) by simp [reachN, ha])
    have c8 : w2.cell? ⟨w.heap.size, 8, none⟩ = some (.bool S.conv.sgn) := BB.out.conv.2.1
    clear ha
    go_wp2_with fail
    refine (refNumber_ok S.conv.sgn r hr _).mono ?_
    rintro e w3 ⟨rfl, rfl⟩
    generalize hxx : numI S.conv.sgn r = x at hxb HR ⊢
    clear hxx c8
    obtain ⟨f, hf⟩ : ∃ f : Nat → Bool, f = fun i => S.mask.testBit i && reachesB S i x := ⟨_, rfl⟩
    have HN := Lib.hid (show nextN S 0 x = ofBits f 6 by rw [nextN]; exact ofBits_congr fun i _ => by rw [hf]; simp [nextB, reachesB])
    have HF := Lib.hid (show ∀ i, f i = (S.mask.testBit i && reachesB S i x) from fun i => by rw [hf])
    clear hf
    generalize w.heap.size = g at BB ⊢
    go_wp2_with fail
    go_loopw [7, 8] (fun o i wr => ∃ k : Nat, k ≤ 6 ∧ i = .int .i64 k ∧ o = .int .u8 (ofBits f k) ∧ Mods [] w2 wr) (fun _ i _ => 6 - (intOf i).toNat)
    case atStart => exact ⟨0, by omega, rfl, rfl, Mods.refl⟩
    case round =>
      obtain ⟨k, hk, rfl, rfl, M4⟩ := hrel
      by_cases hlt : k < 6
      · have hp := pow8 (j := k) (by omega)
        have hp1 : 2 ^ k < 64 := Nat.pow_lt_pow_right (a := 2) (n := 6) (by omega) (by omega)
        have hol := ofBits_lt f k
        have HO := Lib.hid (show ofBits f (k + 1) = ofBits f k + (if f k then 2 ^ k else 0) from rfl)
        have HFK := Lib.hid (HF.out k)
        have c14 : wr.cell? ⟨g, 14, none⟩ = some (.int .u8 S.mask) := (BB.out.mods0 M4).lims.1
        have HB4 := Lib.hid (BB.out.mods0 M4)
        have HM4 := Lib.hid M4
        have HIS := Lib.hid (HS.out.mods0 (M2.out.trans M4))
        clear M4
        go_wp2_with fail
        refine (has_ok S.mask k (by omega) (by omega) _).mono ?_
        rintro e w5 ⟨rfl, rfl⟩
        cases hb : S.mask.testBit k with
        | false =>
          rw [hb, Bool.false_and] at HFK
          rw [HFK.out] at HO
          clear hb c14
          go_wp2_with fail
          exact ⟨⟨k + 1, by omega, by go_num, by rw [HO.out]; rfl, HM4.out⟩, by simp only [intOf]; omega⟩
        | true =>
          rw [hb, Bool.true_and] at HFK
          clear hb c14
          go_wp2_with (refine wpList_load_senG (by rfl) (.tmp 2) rfl HB4.out (by rfl) ?_)
          refine (reaches_ok _ S P HIS.out k hlt x hxb).mono ?_
          rintro e w6 ⟨rfl, M6⟩
          have HM6 := Lib.hid (HM4.out.trans M6)
          clear M6
          cases hb : reachesB S k x with
          | false =>
            rw [hb] at HFK
            rw [HFK.out] at HO
            clear hb
            go_wp2_with fail
            exact ⟨⟨k + 1, by omega, by go_num, by rw [HO.out]; rfl, HM6.out⟩, by simp only [intOf]; omega⟩
          | true =>
            rw [hb] at HFK
            rw [HFK.out] at HO
            clear hb
            generalize hpp : 2 ^ k = p at hp hp1 hol HO
            clear hpp
            go_wp2_with fail
            exact ⟨⟨k + 1, by omega, by go_num, by rw [HO.out]; simp, HM6.out⟩, by simp only [intOf]; omega⟩
      · have hk6 : k = 6 := by omega
        subst hk6
        go_wp2
        go_ret2
        exact ⟨by rw [HR.out, HN.out]; rfl, M2.out.trans M4⟩
end Go.Proofs.Ytokokojmeepoeaa
