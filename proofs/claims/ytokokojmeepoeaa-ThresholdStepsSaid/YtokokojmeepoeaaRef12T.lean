/- The reference's Step of thresholds: contract. -/
import Derived.Test.YtokokojmeepoeaaRef12Step
namespace Go.Proofs.Ytokokojmeepoeaa
open Go.RowKit

theorem st_masked {st m : Nat} (hm : m < 256) (h : st &&& (255 - m) = 0) {k : Nat} (hk : k < 8) (hb : m.testBit k = false) : st.testBit k = false := by
  cases hs : st.testBit k with
  | false => rfl
  | true =>
    have := congrArg (fun n => n.testBit k) h
    simp only [Nat.testBit_and, sub255 hm, Nat.zero_testBit, hs, hb] at this
    simp at this
    omega
set_option maxRecDepth 100000 in
set_option maxHeartbeats 4000000 in
theorem refTStep_ok (w : World) (S : Sen) (P : List Pt) (hS : IsSen w S P) (st r : Nat) (hst : st < 256) (hr : r < 256) :
    Calls Try.prog 40 #[.agg S.cells, .int .u8 st, .int .u8 r] w fun e w' => StepOut w .u8 (stepN S P st r) e w' := by
  have hmk := hS.mask
  have hw := wrap16 (m := S.mask) (by omega)
  have hws := wrap16 (m := st) (by omega)
  have HS := Lib.hid hS
  have hxb := numI_bd (sgn := S.conv.sgn) hr
  clear hS
  have BB := Lib.hid (SenBox.new w S)
  have M0 := Lib.hid ((Mods.refl (S := []) (w := w)).alloc (.cells S.cells 32))
  go_enter Try.func40, Try.ntmps40
  go_wp2_with (refine wpList_load_sen rfl (.tmp 3) rfl BB.out (by rfl) ?_)
  refine (refAnalog_ok _ S P (HS.out.mods0 M0.out)).mono ?_
  rintro e w2 ⟨rfl, M2⟩
  have BB := Lib.hid (BB.out.mods0 M2)
  have M2 := Lib.hid (M0.out.trans M2)
  have c14 : w2.cell? ⟨w.heap.size, 14, none⟩ = some (.int .u8 S.mask) := BB.out.lims.1
  cases ha : anaB S P with
  | false =>
    have HR := Lib.hid (show stepN S P st r = (0, [], 1) by simp [stepN, ha])
    clear ha c14
    go_wp2_with fail
    go_ret3
    exact ⟨_, by rw [HR.out]; rfl, by rw [HR.out]; exact OwnChg.nil _ _, M2.out⟩
  | true =>
    have ea : bits .andNot .u8 (st : Int) (S.mask : Int) = ((st &&& (255 - S.mask) : Nat) : Int) := u8_andNot_nat _ _ hst hmk
    by_cases hx : st &&& (255 - S.mask) = 0
    · have HR := Lib.hid (show stepN S P st r = (nextN S st (numI S.conv.sgn r), chL st (nextN S st (numI S.conv.sgn r)) 6, 0) by simp [stepN, ha, hx])
      have e1 : (((st &&& (255 - S.mask) : Nat) : Int) != 0) = false := by simp only [hx]; rfl
      have c8 : w2.cell? ⟨w.heap.size, 8, none⟩ = some (.bool S.conv.sgn) := BB.out.conv.2.1
      have HMS := Lib.hid (fun k (hk : k < 8) hb => st_masked hmk hx (k := k) hk hb)
      clear ha hx
      go_wp2_with fail
      refine (refNumber_ok S.conv.sgn r hr _).mono ?_
      rintro e w3 ⟨rfl, rfl⟩
      generalize hxx : numI S.conv.sgn r = x at hxb HR ⊢
      clear hxx c8 ea e1 c14
      obtain ⟨f, hf⟩ : ∃ f : Nat → Bool, f = nextB S st x := ⟨_, rfl⟩
      have HN := Lib.hid (show nextN S st x = ofBits f 6 by rw [hf]; rfl)
      have HF := Lib.hid (show ∀ i, f i = (S.mask.testBit i && (reachesB S i x || st.testBit i && !leavesB S i x)) from fun i => by
        rw [hf]
        unfold nextB reachesB leavesB
        congr 2
        rw [← decide_not]
        congr 1
        exact decide_eq_decide.2 (by omega))
      have HTB := Lib.hid (show ∀ i, i < 6 → (ofBits f 6).testBit i = f i from fun i hi => by rw [testBit_ofBits, decide_eq_true hi, Bool.true_and])
      rw [HN.out] at HR
      clear hf HN
      generalize hg : w.heap.size = g at BB ⊢
      have HG := Lib.hid hg
      clear hg
      go_wp2_with fail
      obtain ⟨to, hto⟩ : ∃ to, to = ofBits f 6 := ⟨_, rfl⟩
      rw [← hto] at HR HTB
      have HTO := Lib.hid hto
      clear hto
      go_loopw [10, 11, 12] (fun o d i wr => ∃ k : Nat, k ≤ 6 ∧ i = .int .i64 k ∧ o = .int .u8 (ofBits f k) ∧ OwnChg wr w2.heap.size d (chL st to k) ∧ Mods [] w2 wr) (fun _ _ i _ => 6 - (intOf i).toNat)
      case atStart => exact ⟨0, by omega, rfl, rfl, OwnChg.nil _ _, Mods.refl⟩
      case round =>
        obtain ⟨k, hk, rfl, rfl, O, M4⟩ := hrel
        by_cases hlt : k < 6
        · have hz := M4.size
          have hz2 := M2.out.size
          have hgw := Lib.hid (show w2.heap.size ≤ wr.heap.size by omega)
          have hp := pow8 (j := k) (by omega)
          have hp1 : 2 ^ k < 64 := Nat.pow_lt_pow_right (a := 2) (n := 6) (by omega) (by omega)
          have hol := ofBits_lt f k
          have hln := chL_length st to k
          have HO := Lib.hid (show ofBits f (k + 1) = ofBits f k + (if f k then 2 ^ k else 0) from rfl)
          have HC := Lib.hid (show chL st to (k + 1) = chL st to k ++ (if (st.testBit k ^^ f k) then [⟨k, f k⟩] else []) by rw [chL, Nat.testBit_xor, HTB.out k hlt])
          have HFK := Lib.hid (HF.out k)
          have HMK := Lib.hid (HMS.out k (by omega))
          have c14 : wr.cell? ⟨g, 14, none⟩ = some (.int .u8 S.mask) := (BB.out.mods0 M4).lims.1
          have HB4 := Lib.hid (BB.out.mods0 M4)
          have HM4 := Lib.hid M4
          have HIS := Lib.hid (HS.out.mods0 (M2.out.trans M4))
          have HOW := Lib.hid O
          clear M4 O hz hz2
          go_wp2_with fail
          refine (has_ok S.mask k (by omega) (by omega) _).mono ?_
          rintro e w5 ⟨rfl, rfl⟩
          cases hb : S.mask.testBit k with
          | false =>
            rw [hb, Bool.false_and] at HFK
            have HSB := HMK.out hb
            rw [HFK.out] at HO HC
            rw [HSB] at HC
            have HC := Lib.hid (show chL st to (k + 1) = chL st to k by rw [HC.out]; simp)
            clear hb c14 HSB
            go_wp2_with fail
            exact ⟨⟨k + 1, by omega, by go_num, by rw [HO.out]; rfl, by rw [HC.out]; exact HOW.out, HM4.out⟩, by simp only [intOf]; omega⟩
          | true =>
            rw [hb, Bool.true_and] at HFK
            clear hb c14 HMK
            go_wp2_with fail
            refine (has_ok st k (by omega) (by omega) _).mono ?_
            rintro e w5 ⟨rfl, rfl⟩
            go_wp2_with (refine wpList_load_sen rfl (.tmp 3) rfl HB4.out (by rfl) ?_)
            refine (reaches_ok _ S P HIS.out k hlt x hxb).mono ?_
            rintro e w6 ⟨rfl, M6⟩
            have HB6 := Lib.hid (HB4.out.mods0 M6)
            have HM6 := Lib.hid (HM4.out.trans M6)
            have HI6 := Lib.hid (HIS.out.mods0 M6)
            have HO6 := Lib.hid (HOW.out.mods0 M6)
            have hg6 := Lib.hid (show w2.heap.size ≤ w6.heap.size by have := hgw.out; have := M6.size; omega)
            clear M6
            generalize st.testBit k = b2 at HFK HC ⊢
            cases hb : reachesB S k x with
            | true =>
              rw [hb, Bool.true_or] at HFK
              clear hb
              cases b2 with
              | true =>
                rw [HFK.out] at HO HC
                have HC := Lib.hid (show chL st to (k + 1) = chL st to k by rw [HC.out]; simp)
                generalize hpp : 2 ^ k = p at hp hp1 hol HO
                clear hpp
                go_wp2_with fail
                exact ⟨⟨k + 1, by omega, by go_num, by rw [HO.out]; simp, by rw [HC.out]; exact HO6.out, HM6.out⟩, by simp only [intOf]; omega⟩
              | false =>
                rw [HFK.out] at HO HC
                have HC2 := Lib.hid (show chL st to (k + 1) = chL st to k ++ [⟨k, true⟩] by rw [HC.out]; simp)
                clear HC
                generalize hpp : 2 ^ k = p at hp hp1 hol HO
                clear hpp
                go_wp2_with (at_builtin; refine wpList_pushC rfl (.tmp 62) (.tmp 66) rfl w2.heap.size _ (chL st to k) (by rfl) (HO6.out.mods0 (Mods.refl.alloc _)) w6.heap.size ⟨k, true⟩ _ _ (heap_alloc_new w6 _) (by rfl) (by omega) (by have := hg6.out; simp; omega) ?_)
                intro v' w8 O8 M8
                have M8 := Lib.hid ((HM6.out.alloc _).then_from M8 (Nat.le_refl _))
                have O8 := Lib.hid O8
                go_wp2
                exact ⟨⟨k + 1, by omega, by go_num, by rw [HO.out]; simp, by rw [HC2.out]; exact O8.out, M8.out⟩, by simp only [intOf]; omega⟩
            | false =>
              rw [hb, Bool.false_or] at HFK
              clear hb
              go_wp2_with (refine wpList_load_sen rfl (.tmp 3) rfl HB6.out (by rfl) ?_)
              refine (leaves_ok _ S P HI6.out k hlt x hxb).mono ?_
              rintro e w7 ⟨rfl, M7⟩
              have HM7 := Lib.hid (HM6.out.trans M7)
              have HO7 := Lib.hid (HO6.out.mods0 M7)
              have hg7 := Lib.hid (show w2.heap.size ≤ w7.heap.size by have := hg6.out; have := M7.size; omega)
              clear M7
              cases hb : leavesB S k x with
              | true =>
                rw [hb, Bool.not_true, Bool.and_false] at HFK
                clear hb
                cases b2 with
                | true =>
                  rw [HFK.out] at HO HC
                  have HC2 := Lib.hid (show chL st to (k + 1) = chL st to k ++ [⟨k, false⟩] by rw [HC.out]; simp)
                  clear HC
                  generalize hpp : 2 ^ k = p at hp hp1 hol HO
                  clear hpp
                  go_wp2_with (at_builtin; refine wpList_pushC rfl (.tmp 62) (.tmp 66) rfl w2.heap.size _ (chL st to k) (by rfl) (HO7.out.mods0 (Mods.refl.alloc _)) w7.heap.size ⟨k, false⟩ _ _ (heap_alloc_new w7 _) (by rfl) (by omega) (by have := hg7.out; simp; omega) ?_)
                  intro v' w8 O8 M8
                  have M8 := Lib.hid ((HM7.out.alloc _).then_from M8 (Nat.le_refl _))
                  have O8 := Lib.hid O8
                  go_wp2
                  exact ⟨⟨k + 1, by omega, by go_num, by rw [HO.out]; simp, by rw [HC2.out]; exact O8.out, M8.out⟩, by simp only [intOf]; omega⟩
                | false =>
                  rw [HFK.out] at HO HC
                  have HC := Lib.hid (show chL st to (k + 1) = chL st to k by rw [HC.out]; simp)
                  generalize hpp : 2 ^ k = p at hp hp1 hol HO
                  clear hpp
                  go_wp2_with fail
                  exact ⟨⟨k + 1, by omega, by go_num, by rw [HO.out]; simp, by rw [HC.out]; exact HO7.out, HM7.out⟩, by simp only [intOf]; omega⟩
              | false =>
                rw [hb, Bool.not_false, Bool.and_true] at HFK
                clear hb
                cases b2 with
                | true =>
                  rw [HFK.out] at HO HC
                  have HC := Lib.hid (show chL st to (k + 1) = chL st to k by rw [HC.out]; simp)
                  generalize hpp : 2 ^ k = p at hp hp1 hol HO
                  clear hpp
                  go_wp2_with fail
                  exact ⟨⟨k + 1, by omega, by go_num, by rw [HO.out]; simp, by rw [HC.out]; exact HO7.out, HM7.out⟩, by simp only [intOf]; omega⟩
                | false =>
                  rw [HFK.out] at HO HC
                  have HC := Lib.hid (show chL st to (k + 1) = chL st to k by rw [HC.out]; simp)
                  generalize hpp : 2 ^ k = p at hp hp1 hol HO
                  clear hpp
                  go_wp2_with fail
                  exact ⟨⟨k + 1, by omega, by go_num, by rw [HO.out]; simp, by rw [HC.out]; exact HO7.out, HM7.out⟩, by simp only [intOf]; omega⟩
        · have hk6 : k = 6 := by omega
          subst hk6
          have HX := Lib.hid (M2.out.trans M4)
          go_wp2
          go_ret3
          exact ⟨_, by rw [HR.out, HTO.out]; rfl, by rw [HR.out]; exact O.down (by have := M2.out.size; omega), HX.out⟩
    · have HR := Lib.hid (show stepN S P st r = (0, [], 2) by simp [stepN, ha, hx])
      have e1 : (((st &&& (255 - S.mask) : Nat) : Int) != 0) = true := by simp only [bne_iff_ne, ne_eq, Int.natCast_eq_zero]; exact hx
      clear ha hx
      go_wp2_with fail
      go_ret3
      exact ⟨_, by rw [HR.out]; rfl, by rw [HR.out]; exact OwnChg.nil _ _, M2.out⟩
end Go.Proofs.Ytokokojmeepoeaa
