/- The reference's Valid of sensor records: contract. -/
import Derived.Test.YtijjkonephjodaaRefOrdered
namespace Go.Proofs.Ytijjkonephjodaa
open Go.RowKit

/-- A sensor record read whole out of its block, in a guarded operation too. -/
theorem wpList_load_senG {ops : Array Oper} {rest : List Oper} {o : Oper} {a : Act} {w : World} {Q : Exit → Act → World → Prop} (hw : Region.wanted o (yielded ops a.tmps) = true) (x : Operand) (ho : o.op = .load 32 x)
    {g : Nat} {S : Sen} (hb : SenBox w g S) (hx : a.eval x = .pointer (some ⟨g, 0, none⟩)) (h : wpList Try.prog ops Q rest (a.put o.dst (.agg S.cells)) w) : wpList Try.prog ops Q (o :: rest) a w :=
  wpList_step fun K hK => by
    rw [if_pos hw]
    exact wp_load_row _ x ho g hx _ _ _ _ hb.blk Try.underlying32 rfl S.infoS (hK _ _ h)
theorem or_and_zero (a d x : Nat) : ((a ||| d) &&& x = 0) ↔ (a &&& x = 0 ∧ d &&& x = 0) := by
  rw [Nat.and_or_distrib_right]
  exact Nat.or_eq_zero_iff
theorem nameB_len {s : ByteArray} (h : ¬ (1 ≤ s.size ∧ s.size ≤ 16)) : nameB s = false := by rw [nameB, decide_eq_false h, Bool.false_and]
theorem natbeq0 (n : Nat) : (((n : Nat) : Int) == 0) = decide (n = 0) := by rw [Bool.eq_iff_iff]; simp
set_option maxRecDepth 100000 in
set_option maxHeartbeats 4000000 in
theorem refValid_ok (w : World) (S : Sen) (P : List Pt) (hS : IsSen w S P) :
    Calls Try.prog 52 #[.agg S.cells] w fun e w' => e = .returned (.bool (validB S P)) ∧ Mods [] w w' := by
  have hn := hS.name
  have hm := hS.mask
  have hst := hS.states
  have ha := hS.asrt
  have hd := hS.deas
  have HS := Lib.hid hS
  clear hS
  have BB := Lib.hid (SenBox.new w S)
  have MM := Lib.hid ((Mods.refl (S := []) (w := w)).alloc (.cells S.cells 32))
  obtain ⟨_, _, _, x3, _, _, x6⟩ := S.headc
  obtain ⟨x7, x8, x9, x10, x11, x12, x13⟩ := S.convc
  obtain ⟨x14, x15, x16, x17, x18, x19, x20⟩ := S.limc
  obtain ⟨x21, x22, x23, x24, x25, _, x27⟩ := S.restc
  have HV := Lib.hid (show validB S P = (nameB S.name && decide (S.samples = 1 ∨ S.samples = 3 ∨ S.samples = 5) && if S.disc then discB S P else analogB S P) from rfl)
  by_cases hl : 1 ≤ S.name.size ∧ S.name.size ≤ 16
  · obtain ⟨l1, l2⟩ := hl
    have e1 : decide ((S.name.size : Int) < 1) = false := by simp; omega
    have e2 : decide ((16 : Int) < (S.name.size : Int)) = false := by simp; omega
    by_cases hs : S.samples = 1 ∨ S.samples = 3 ∨ S.samples = 5
    · have HV := Lib.hid (show validB S P = (nameB S.name && if S.disc then discB S P else analogB S P) by rw [HV.out, decide_eq_true hs, Bool.and_true])
      have hsam : (S.samples != 1 && S.samples != 3 && S.samples != 5) = false := by rcases hs with h | h | h <;> simp [h]
      have hle := fun W => lims_eq (S.mask : Int) (S.r0 : Int) (S.r1 : Int) (S.r2 : Int) (S.r3 : Int) (S.r4 : Int) (S.r5 : Int) 0 0 0 0 0 0 0 W
      have hlz : (((S.mask : Int) == 0) && (((S.r0 : Int) == 0) && ((S.r1 : Int) == 0) && ((S.r2 : Int) == 0) && ((S.r3 : Int) == 0) && ((S.r4 : Int) == 0) && ((S.r5 : Int) == 0))) = decide (S.mask = 0 ∧ S.r0 = 0 ∧ S.r1 = 0 ∧ S.r2 = 0 ∧ S.r3 = 0 ∧ S.r4 = 0 ∧ S.r5 = 0) := by
        rw [Bool.eq_iff_iff]; simp; omega
      rw [hlz] at hle
      clear hlz
      have HLE := Lib.hid hle
      clear hle
      have HSAM := Lib.hid hsam
      have HHS := Lib.hid hs
      clear hsam
      rcases hs with hs | hs | hs
      all_goals
        have HX27 := Lib.hid x27
        rw [hs] at x27
        have HHS := Lib.hid hs
        clear hs
        go_enter Try.func52, Try.ntmps52
        go_wp2_with fail
        have B1 := BB.out
        generalize w.alloc (.cells S.cells 32) = w1 at B1 MM ⊢
        generalize w.heap.size = g at B1 ⊢
        clear BB
        have BB := Lib.hid B1
        have y3 := B1.head.2.2.2.1
        clear B1
        go_loopw [3] (fun i wr => ∃ k : Nat, k ≤ S.name.size ∧ i = .int .i64 k ∧ wr = w1 ∧ Hid (∀ j (hj : j < S.name.size), j < k → charB S.name[j] = true)) (fun i _ => S.name.size - (intOf i).toNat)
        case atStart => exact ⟨0, Nat.zero_le _, rfl, rfl, fun j _ hj => by omega⟩
        case round =>
          obtain ⟨k, hk, rfl, hwr, hs2⟩ := hrel
          subst hwr
          by_cases hlt : k < S.name.size
          · have HX := Lib.hid (fun h => nameB_bad hlt h)
            obtain ⟨c, hc⟩ : ∃ c, c = S.name[k] := ⟨_, rfl⟩
            rw [← hc] at HX
            by_cases h1 : (c.toNat : Int) < 32
            · have e1 : decide ((S.name[k].toNat : Int) < 32) = true := by rw [← hc]; simpa using h1
              have HF := Lib.hid (HX.out (by simp [charB]; omega))
              clear h1 hc
              go_wp2
              go_ret
              exact ⟨ret_bool (by rw [HV.out, HF.out]; rfl), MM.out⟩
            · have e1 : decide ((S.name[k].toNat : Int) < 32) = false := by rw [← hc]; simpa using h1
              by_cases h2 : 126 < (c.toNat : Int)
              · have e2 : decide (126 < (S.name[k].toNat : Int)) = true := by rw [← hc]; simpa using h2
                have HF := Lib.hid (HX.out (by simp [charB]; omega))
                clear h1 h2 hc
                go_wp2
                go_ret
                exact ⟨ret_bool (by rw [HV.out, HF.out]; rfl), MM.out⟩
              · have e2 : decide (126 < (S.name[k].toNat : Int)) = false := by rw [← hc]; simpa using h2
                have HG := Lib.hid (show charB S.name[k] = true by rw [← hc]; simp [charB]; omega)
                clear h1 h2 hc
                go_wp2
                go_roundw
                case rel => exact ⟨k + 1, by omega, by go_num, by first | rfl | trivial, fun j hj hj2 => by
                  rcases Nat.lt_or_ge j k with h | h
                  · exact hs2.out j hj h
                  · obtain rfl : j = k := by omega
                    exact HG.out⟩
                case measure => simp [intOf]; omega
          · have HG := Lib.hid (show validB S P = if S.disc then discB S P else analogB S P by
              rw [HV.out, nameB_good fun j hj => hs2.out j hj (by omega), decide_eq_true ⟨l1, l2⟩, Bool.true_and])
            clear HV y3
            have B1 := BB.out
            obtain ⟨x7, x8, x9, x10, x11, x12, x13⟩ := B1.conv
            obtain ⟨x14, x15, x16, x17, x18, x19, x20⟩ := B1.lims
            obtain ⟨x21, x22, x23, x24, x25, _, x27⟩ := B1.rest
            obtain ⟨_, _, _, y3, _, _, x6⟩ := B1.head
            rw [HHS.out] at x27
            clear B1
            cases hdd : S.disc with
            | false =>
              have HV := Lib.hid (show validB S P = analogB S P by rw [HG.out, hdd]; rfl)
              rw [hdd] at x6
              clear hdd
              have hw := wrap16 hm
              go_wp2_with fail
              refine (refConvValid_ok _ S.conv P (HS.out.mods0 MM.out).conv).mono ?_
              rintro e w2 ⟨rfl, M2⟩
              have B2 := BB.out.mods0 M2
              have MM := Lib.hid (MM.out.trans M2)
              obtain ⟨x14, x15, x16, x17, x18, x19, x20⟩ := B2.lims
              obtain ⟨x21, x22, x23, x24, x25, _, x27⟩ := B2.rest
              have BB := Lib.hid B2
              clear M2 B2
              have b1 : bits .andNot .u16 (S.asrt : Int) (S.mask : Int) = ((S.asrt &&& (65535 - S.mask) : Nat) : Int) := u16_andNot_nat _ _ ha (by omega)
              have b2 : bits .andNot .u16 (S.deas : Int) (S.mask : Int) = ((S.deas &&& (65535 - S.mask) : Nat) : Int) := u16_andNot_nat _ _ hd (by omega)
              cases hcv : convB S.conv P with
              | false =>
                have HF := Lib.hid (show validB S P = false by rw [HV.out]; simp only [analogB, hcv, Bool.false_and])
                clear hcv
                go_wp2_with fail
                go_ret
                exact ⟨ret_bool (by rw [HF.out]), MM.out⟩
              | true =>
                by_cases h64 : S.mask < 64
                · have e1 : decide ((S.mask : Int) ≤ 63) = true := by simp; omega
                  by_cases h0 : S.states = 0
                  · have e2 : ((S.states : Int) == 0) = true := by simp [h0]
                    by_cases hx : S.asrt &&& (65535 - S.mask) = 0
                    · have e3 : (((S.asrt &&& (65535 - S.mask) : Nat) : Int) == 0) = true := by rw [natbeq0]; exact decide_eq_true hx
                      by_cases hy : S.deas &&& (65535 - S.mask) = 0
                      · have e4 : (((S.deas &&& (65535 - S.mask) : Nat) : Int) == 0) = true := by rw [natbeq0]; exact decide_eq_true hy
                        have HB := Lib.hid (show validB S P = (zeroRaw S && ordB S.mask S.num) by
                          rw [HV.out]
                          simp only [analogB, hcv, decide_eq_true h64, decide_eq_true h0, decide_eq_true ((or_and_zero _ _ _).2 ⟨hx, hy⟩), Bool.true_and])
                        clear hcv h0 hx hy
                        go_wp2_with (refine wpList_load_senG (by rfl) (.tmp 1) rfl BB.out (by rfl) ?_)
                        refine (refOrdered_ok _ S P (HS.out.mods0 MM.out)).mono ?_
                        rintro e w3 ⟨rfl, M3⟩
                        go_wp2
                        go_ret
                        exact ⟨ret_bool (by rw [HB.out]), MM.out.trans M3⟩
                      · have e4 : (((S.deas &&& (65535 - S.mask) : Nat) : Int) == 0) = false := by rw [natbeq0]; exact decide_eq_false hy
                        have HF := Lib.hid (show validB S P = false by
                          rw [HV.out]
                          simp only [analogB, decide_eq_false (fun h => hy ((or_and_zero S.asrt S.deas _).1 h).2), Bool.and_false, Bool.false_and])
                        clear hcv h0 hx hy
                        go_wp2_with fail
                        go_ret
                        exact ⟨ret_bool (by rw [HF.out]), MM.out⟩
                    · have e3 : (((S.asrt &&& (65535 - S.mask) : Nat) : Int) == 0) = false := by rw [natbeq0]; exact decide_eq_false hx
                      have HF := Lib.hid (show validB S P = false by
                        rw [HV.out]
                        simp only [analogB, decide_eq_false (fun h => hx ((or_and_zero S.asrt S.deas _).1 h).1), Bool.and_false, Bool.false_and])
                      clear hcv h0 hx
                      go_wp2_with fail
                      go_ret
                      exact ⟨ret_bool (by rw [HF.out]), MM.out⟩
                  · have e2 : ((S.states : Int) == 0) = false := by simp [h0]
                    have HF := Lib.hid (show validB S P = false by
                      rw [HV.out]
                      simp only [analogB, decide_eq_false h0, Bool.and_false, Bool.false_and])
                    clear hcv h0
                    go_wp2_with fail
                    go_ret
                    exact ⟨ret_bool (by rw [HF.out]), MM.out⟩
                · have e1 : decide ((S.mask : Int) ≤ 63) = false := by simp; omega
                  have HF := Lib.hid (show validB S P = false by
                    rw [HV.out]
                    simp only [analogB, decide_eq_false h64, Bool.and_false, Bool.false_and])
                  clear hcv
                  go_wp2_with fail
                  go_ret
                  exact ⟨ret_bool (by rw [HF.out]), MM.out⟩
            | true =>
              have HV := Lib.hid (show validB S P = discB S P by rw [HG.out, hdd]; rfl)
              rw [hdd] at x6
              clear hdd
              go_wp2_with fail
              refine (none_ok _ S.conv P (HS.out.mods0 MM.out).conv).mono ?_
              rintro e w2 ⟨rfl, M2⟩
              have B2 := BB.out.mods0 M2
              have MM := Lib.hid (MM.out.trans M2)
              obtain ⟨x14, x15, x16, x17, x18, x19, x20⟩ := B2.lims
              obtain ⟨x21, x22, x23, x24, x25, _, x27⟩ := B2.rest
              rw [HHS.out] at x27
              clear M2 B2
              have hle := HLE.out
              have b1 : bits .andNot .u16 (S.asrt : Int) (S.states : Int) = ((S.asrt &&& (65535 - S.states) : Nat) : Int) := u16_andNot_nat _ _ ha hst
              have b2 : bits .andNot .u16 (S.deas : Int) (S.states : Int) = ((S.deas &&& (65535 - S.states) : Nat) : Int) := u16_andNot_nat _ _ hd hst
              have HD := Lib.hid (show validB S P = (decide (S.conv.form = 0 ∧ S.conv.sgn = false ∧ S.conv.m = 0 ∧ S.conv.b = 0 ∧ S.conv.k1 = 0 ∧ S.conv.k2 = 0 ∧ P.length = 0)
                  && decide (S.mask = 0 ∧ S.r0 = 0 ∧ S.r1 = 0 ∧ S.r2 = 0 ∧ S.r3 = 0 ∧ S.r4 = 0 ∧ S.r5 = 0) && decide (S.hl = 0) && decide (S.hu = 0) && decide (S.samples = 1) && decide (S.states ≤ 32767) && decide (S.asrt &&& (65535 - S.states) = 0) && decide (S.deas &&& (65535 - S.states) = 0)) by
                rw [HV.out]
                unfold discB
                rw [Bool.eq_iff_iff]
                simp only [Bool.and_eq_true, decide_eq_true_eq, or_and_zero]
                simp [and_assoc])
              rw [HHS.out] at HD
              generalize decide (S.mask = 0 ∧ S.r0 = 0 ∧ S.r1 = 0 ∧ S.r2 = 0 ∧ S.r3 = 0 ∧ S.r4 = 0 ∧ S.r5 = 0) = lz at hle HD
              generalize decide (S.conv.form = 0 ∧ S.conv.sgn = false ∧ S.conv.m = 0 ∧ S.conv.b = 0 ∧ S.conv.k1 = 0 ∧ S.conv.k2 = 0 ∧ P.length = 0) = cz at HD ⊢
              clear HV HLE HSAM HG
              go_wp2
              all_goals
                go_ret
                exact ⟨ret_bool (by rw [HD.out]; first | (simp_all; done) | (rw [Bool.eq_iff_iff]; simp_all; try omega)), MM.out⟩
    · have HF := Lib.hid (show validB S P = false by rw [HV.out, decide_eq_false hs, Bool.and_false, Bool.false_and])
      have e5 : (S.samples != 1) = true := by simp; omega
      have e6 : (S.samples != 3) = true := by simp; omega
      have e7 : (S.samples != 5) = true := by simp; omega
      clear hs
      go_enter Try.func52, Try.ntmps52
      go_wp2_with fail
      go_ret
      exact ⟨ret_bool (by rw [HF.out]), MM.out⟩
  · have HF := Lib.hid (show validB S P = false by rw [HV.out, nameB_len hl, Bool.false_and, Bool.false_and])
    by_cases l1 : S.name.size < 1
    · have e1 : decide ((S.name.size : Int) < 1) = true := by simp; omega
      go_enter Try.func52, Try.ntmps52
      go_wp2_with fail
      go_ret
      exact ⟨ret_bool (by rw [HF.out]), MM.out⟩
    · have e1 : decide ((S.name.size : Int) < 1) = false := by simp; omega
      have e2 : decide ((16 : Int) < (S.name.size : Int)) = true := by simp; omega
      go_enter Try.func52, Try.ntmps52
      go_wp2_with fail
      go_ret
      exact ⟨ret_bool (by rw [HF.out]), MM.out⟩
end Go.Proofs.Ytijjkonephjodaa
