/- Joined texts. The reference's Valid of sensor records: contract. | The dice's small makers: contracts. | The dice's Text and Micro: contracts. | The dice's thresholds: contract. | Points of a conversion in a row of the call's own; conversions made. | A struct under way: its block, the result's block, the dice; a struct stored whole. | The dice's Conversion: contract. -/
import Derived.Test.YtijjkonephjodaaGreatDoorJoAB
import Derived.Deep.MidRow
import Derived.Deep.RegionLaw
namespace Go.Proofs.YtijjkonephjodaaGreatDoor
open Go.RowKit

/-- A sensor record read whole out of its block, in a guarded operation too. -/
theorem wpList_load_senG {ops : Array Oper} {rest : List Oper} {o : Oper} {a : Act} {w : World} {Q : Exit → Act → World → Prop} (hw : Region.wanted o (yielded ops a.tmps) = true) (x : Operand) (ho : o.op = .load 40 x)
    {g : Nat} {S : Sen} (hb : SenBox w g S) (hx : a.eval x = .pointer (some ⟨g, 0, none⟩)) (h : wpList Tryz.prog ops Q rest (a.put o.dst (.agg S.cells)) w) : wpList Tryz.prog ops Q (o :: rest) a w :=
  wpList_step fun K hK => by
    rw [if_pos hw]
    exact wp_load_row _ x ho g hx _ _ _ _ hb.blk Tryz.underlying40 rfl S.infoS (hK _ _ h)
theorem or_and_zero (a d x : Nat) : ((a ||| d) &&& x = 0) ↔ (a &&& x = 0 ∧ d &&& x = 0) := by
  rw [Nat.and_or_distrib_right]
  exact Nat.or_eq_zero_iff
theorem nameB_len {s : ByteArray} (h : ¬ (1 ≤ s.size ∧ s.size ≤ 16)) : nameB s = false := by rw [nameB, decide_eq_false h, Bool.false_and]
theorem natbeq0 (n : Nat) : (((n : Nat) : Int) == 0) = decide (n = 0) := by rw [Bool.eq_iff_iff]; simp
set_option maxRecDepth 100000 in
set_option maxHeartbeats 4000000 in
theorem refValid_ok (w : World) (S : Sen) (P : List Pt) (hS : IsSen w S P) :
    Calls Tryz.prog 99 #[.agg S.cells] w fun e w' => e = .returned (.bool (validB S P)) ∧ Mods [] w w' := by
  have hn := hS.name
  have hm := hS.mask
  have hst := hS.states
  have ha := hS.asrt
  have hd := hS.deas
  have HS := Lib.hid hS
  clear hS
  have BB := Lib.hid (SenBox.new w S)
  have MM := Lib.hid ((Mods.refl (S := []) (w := w)).alloc (.cells S.cells 40))
  obtain ⟨_, _, _, x3, _, _, x6⟩ := S.headc
  obtain ⟨x7, x8, x9, x10, x11, x12, x13⟩ := S.convc
  obtain ⟨x14, x15, x16, x17, x18, x19, x20⟩ := S.limc
  obtain ⟨x21, x22, x23, x24, x25, _, x27⟩ := S.restc
  have HV := Lib.hid (show validB S P = (nameB S.name && decide (S.samples = 1 ∨ S.samples = 3 ∨ S.samples = 5) && if S.disc then discB S P else analogB S P) from rfl)
  by_cases hl : 1 ≤ S.name.size ∧ S.name.size ≤ 16
  · obtain ⟨l1, l2⟩ := hl
    have e1 : decide ((S.name.size : Int) < 1) = false := by simp; omega
    have e2 : decide ((16 : Int) < (S.name.size : Int)) = false := by simp; omega
    by_cases hs : S.samples = 1 ∨ S.samples = 3 ∨ S.samples = 5
    · have HV := Lib.hid (show validB S P = (nameB S.name && if S.disc then discB S P else analogB S P) by rw [HV.out, decide_eq_true hs, Bool.and_true])
      have hsam : (S.samples != 1 && S.samples != 3 && S.samples != 5) = false := by rcases hs with h | h | h <;> simp [h]
      have hle := fun W => lims_eq (S.mask : Int) (S.r0 : Int) (S.r1 : Int) (S.r2 : Int) (S.r3 : Int) (S.r4 : Int) (S.r5 : Int) 0 0 0 0 0 0 0 W
      have hlz : (((S.mask : Int) == 0) && (((S.r0 : Int) == 0) && ((S.r1 : Int) == 0) && ((S.r2 : Int) == 0) && ((S.r3 : Int) == 0) && ((S.r4 : Int) == 0) && ((S.r5 : Int) == 0))) = decide (S.mask = 0 ∧ S.r0 = 0 ∧ S.r1 = 0 ∧ S.r2 = 0 ∧ S.r3 = 0 ∧ S.r4 = 0 ∧ S.r5 = 0) := by
        rw [Bool.eq_iff_iff]; simp; omega
      rw [hlz] at hle
      clear hlz
      have HLE := Lib.hid hle
      clear hle
      have HSAM := Lib.hid hsam
      have HHS := Lib.hid hs
      clear hsam
      rcases hs with hs | hs | hs
      all_goals
        have HX27 := Lib.hid x27
        rw [hs] at x27
        have HHS := Lib.hid hs
        clear hs
        go_enter Tryz.func99, Tryz.ntmps99
        go_wp2_with fail
        have B1 := BB.out
        generalize w.alloc (.cells S.cells 40) = w1 at B1 MM ⊢
        generalize w.heap.size = g at B1 ⊢
        clear BB
        have BB := Lib.hid B1
        have y3 := B1.head.2.2.2.1
        clear B1
        go_loopw [3] (fun i wr => ∃ k : Nat, k ≤ S.name.size ∧ i = .int .i64 k ∧ wr = w1 ∧ Hid (∀ j (hj : j < S.name.size), j < k → charB S.name[j] = true)) (fun i _ => S.name.size - (intOf i).toNat)
        case atStart => exact ⟨0, Nat.zero_le _, rfl, rfl, fun j _ hj => by omega⟩
        case round =>
          obtain ⟨k, hk, rfl, hwr, hs2⟩ := hrel
          subst hwr
          by_cases hlt : k < S.name.size
          · have HX := Lib.hid (fun h => nameB_bad hlt h)
            obtain ⟨c, hc⟩ : ∃ c, c = S.name[k] := ⟨_, rfl⟩
            rw [← hc] at HX
            by_cases h1 : (c.toNat : Int) < 32
            · have e1 : decide ((S.name[k].toNat : Int) < 32) = true := by rw [← hc]; simpa using h1
              have HF := Lib.hid (HX.out (by simp [charB]; omega))
              clear h1 hc
              go_wp2
              go_ret
              exact ⟨ret_bool (by rw [HV.out, HF.out]; rfl), MM.out⟩
            · have e1 : decide ((S.name[k].toNat : Int) < 32) = false := by rw [← hc]; simpa using h1
              by_cases h2 : 126 < (c.toNat : Int)
              · have e2 : decide (126 < (S.name[k].toNat : Int)) = true := by rw [← hc]; simpa using h2
                have HF := Lib.hid (HX.out (by simp [charB]; omega))
                clear h1 h2 hc
                go_wp2
                go_ret
                exact ⟨ret_bool (by rw [HV.out, HF.out]; rfl), MM.out⟩
              · have e2 : decide (126 < (S.name[k].toNat : Int)) = false := by rw [← hc]; simpa using h2
                have HG := Lib.hid (show charB S.name[k] = true by rw [← hc]; simp [charB]; omega)
                clear h1 h2 hc
                go_wp2
                go_roundw
                case rel => exact ⟨k + 1, by omega, by go_num, by first | rfl | trivial, fun j hj hj2 => by
                  rcases Nat.lt_or_ge j k with h | h
                  · exact hs2.out j hj h
                  · obtain rfl : j = k := by omega
                    exact HG.out⟩
                case measure => simp [intOf]; omega
          · have HG := Lib.hid (show validB S P = if S.disc then discB S P else analogB S P by
              rw [HV.out, nameB_good fun j hj => hs2.out j hj (by omega), decide_eq_true ⟨l1, l2⟩, Bool.true_and])
            clear HV y3
            have B1 := BB.out
            obtain ⟨x7, x8, x9, x10, x11, x12, x13⟩ := B1.conv
            obtain ⟨x14, x15, x16, x17, x18, x19, x20⟩ := B1.lims
            obtain ⟨x21, x22, x23, x24, x25, _, x27⟩ := B1.rest
            obtain ⟨_, _, _, y3, _, _, x6⟩ := B1.head
            rw [HHS.out] at x27
            clear B1
            cases hdd : S.disc with
            | false =>
              have HV := Lib.hid (show validB S P = analogB S P by rw [HG.out, hdd]; rfl)
              rw [hdd] at x6
              clear hdd
              have hw := wrap16 hm
              go_wp2_with fail
              refine (refConvValid_ok _ S.conv P (HS.out.mods0 MM.out).conv).mono ?_
              rintro e w2 ⟨rfl, M2⟩
              have B2 := BB.out.mods0 M2
              have MM := Lib.hid (MM.out.trans M2)
              obtain ⟨x14, x15, x16, x17, x18, x19, x20⟩ := B2.lims
              obtain ⟨x21, x22, x23, x24, x25, _, x27⟩ := B2.rest
              have BB := Lib.hid B2
              clear M2 B2
              have b1 : bits .andNot .u16 (S.asrt : Int) (S.mask : Int) = ((S.asrt &&& (65535 - S.mask) : Nat) : Int) := u16_andNot_nat _ _ ha (by omega)
              have b2 : bits .andNot .u16 (S.deas : Int) (S.mask : Int) = ((S.deas &&& (65535 - S.mask) : Nat) : Int) := u16_andNot_nat _ _ hd (by omega)
              cases hcv : convB S.conv P with
              | false =>
                have HF := Lib.hid (show validB S P = false by rw [HV.out]; simp only [analogB, hcv, Bool.false_and])
                clear hcv
                go_wp2_with fail
                go_ret
                exact ⟨ret_bool (by rw [HF.out]), MM.out⟩
              | true =>
                by_cases h64 : S.mask < 64
                · have e1 : decide ((S.mask : Int) ≤ 63) = true := by simp; omega
                  by_cases h0 : S.states = 0
                  · have e2 : ((S.states : Int) == 0) = true := by simp [h0]
                    by_cases hx : S.asrt &&& (65535 - S.mask) = 0
                    · have e3 : (((S.asrt &&& (65535 - S.mask) : Nat) : Int) == 0) = true := by rw [natbeq0]; exact decide_eq_true hx
                      by_cases hy : S.deas &&& (65535 - S.mask) = 0
                      · have e4 : (((S.deas &&& (65535 - S.mask) : Nat) : Int) == 0) = true := by rw [natbeq0]; exact decide_eq_true hy
                        have HB := Lib.hid (show validB S P = (zeroRaw S && ordB S.mask S.num) by
                          rw [HV.out]
                          simp only [analogB, hcv, decide_eq_true h64, decide_eq_true h0, decide_eq_true ((or_and_zero _ _ _).2 ⟨hx, hy⟩), Bool.true_and])
                        clear hcv h0 hx hy
                        go_wp2_with (refine wpList_load_senG (by rfl) (.tmp 1) rfl BB.out (by rfl) ?_)
                        refine (refOrdered_ok _ S P (HS.out.mods0 MM.out)).mono ?_
                        rintro e w3 ⟨rfl, M3⟩
                        go_wp2
                        go_ret
                        exact ⟨ret_bool (by rw [HB.out]), MM.out.trans M3⟩
                      · have e4 : (((S.deas &&& (65535 - S.mask) : Nat) : Int) == 0) = false := by rw [natbeq0]; exact decide_eq_false hy
                        have HF := Lib.hid (show validB S P = false by
                          rw [HV.out]
                          simp only [analogB, decide_eq_false (fun h => hy ((or_and_zero S.asrt S.deas _).1 h).2), Bool.and_false, Bool.false_and])
                        clear hcv h0 hx hy
                        go_wp2_with fail
                        go_ret
                        exact ⟨ret_bool (by rw [HF.out]), MM.out⟩
                    · have e3 : (((S.asrt &&& (65535 - S.mask) : Nat) : Int) == 0) = false := by rw [natbeq0]; exact decide_eq_false hx
                      have HF := Lib.hid (show validB S P = false by
                        rw [HV.out]
                        simp only [analogB, decide_eq_false (fun h => hx ((or_and_zero S.asrt S.deas _).1 h).1), Bool.and_false, Bool.false_and])
                      clear hcv h0 hx
                      go_wp2_with fail
                      go_ret
                      exact ⟨ret_bool (by rw [HF.out]), MM.out⟩
                  · have e2 : ((S.states : Int) == 0) = false := by simp [h0]
                    have HF := Lib.hid (show validB S P = false by
                      rw [HV.out]
                      simp only [analogB, decide_eq_false h0, Bool.and_false, Bool.false_and])
                    clear hcv h0
                    go_wp2_with fail
                    go_ret
                    exact ⟨ret_bool (by rw [HF.out]), MM.out⟩
                · have e1 : decide ((S.mask : Int) ≤ 63) = false := by simp; omega
                  have HF := Lib.hid (show validB S P = false by
                    rw [HV.out]
                    simp only [analogB, decide_eq_false h64, Bool.and_false, Bool.false_and])
                  clear hcv
                  go_wp2_with fail
                  go_ret
                  exact ⟨ret_bool (by rw [HF.out]), MM.out⟩
            | true =>
              have HV := Lib.hid (show validB S P = discB S P by rw [HG.out, hdd]; rfl)
              rw [hdd] at x6
              clear hdd
              go_wp2_with fail
              refine (none_ok _ S.conv P (HS.out.mods0 MM.out).conv).mono ?_
              rintro e w2 ⟨rfl, M2⟩
              have B2 := BB.out.mods0 M2
              have MM := Lib.hid (MM.out.trans M2)
              obtain ⟨x14, x15, x16, x17, x18, x19, x20⟩ := B2.lims
              obtain ⟨x21, x22, x23, x24, x25, _, x27⟩ := B2.rest
              rw [HHS.out] at x27
              clear M2 B2
              have hle := HLE.out
              have b1 : bits .andNot .u16 (S.asrt : Int) (S.states : Int) = ((S.asrt &&& (65535 - S.states) : Nat) : Int) := u16_andNot_nat _ _ ha hst
              have b2 : bits .andNot .u16 (S.deas : Int) (S.states : Int) = ((S.deas &&& (65535 - S.states) : Nat) : Int) := u16_andNot_nat _ _ hd hst
              have HD := Lib.hid (show validB S P = (decide (S.conv.form = 0 ∧ S.conv.sgn = false ∧ S.conv.m = 0 ∧ S.conv.b = 0 ∧ S.conv.k1 = 0 ∧ S.conv.k2 = 0 ∧ P.length = 0)
                  && decide (S.mask = 0 ∧ S.r0 = 0 ∧ S.r1 = 0 ∧ S.r2 = 0 ∧ S.r3 = 0 ∧ S.r4 = 0 ∧ S.r5 = 0) && decide (S.hl = 0) && decide (S.hu = 0) && decide (S.samples = 1) && decide (S.states ≤ 32767) && decide (S.asrt &&& (65535 - S.states) = 0) && decide (S.deas &&& (65535 - S.states) = 0)) by
                rw [HV.out]
                unfold discB
                rw [Bool.eq_iff_iff]
                simp only [Bool.and_eq_true, decide_eq_true_eq, or_and_zero]
                simp [and_assoc])
              rw [HHS.out] at HD
              generalize decide (S.mask = 0 ∧ S.r0 = 0 ∧ S.r1 = 0 ∧ S.r2 = 0 ∧ S.r3 = 0 ∧ S.r4 = 0 ∧ S.r5 = 0) = lz at hle HD
              generalize decide (S.conv.form = 0 ∧ S.conv.sgn = false ∧ S.conv.m = 0 ∧ S.conv.b = 0 ∧ S.conv.k1 = 0 ∧ S.conv.k2 = 0 ∧ P.length = 0) = cz at HD ⊢
              clear HV HLE HSAM HG
              go_wp2
              all_goals
                go_ret
                exact ⟨ret_bool (by rw [HD.out]; first | (simp_all; done) | (rw [Bool.eq_iff_iff]; simp_all; try omega)), MM.out⟩
    · have HF := Lib.hid (show validB S P = false by rw [HV.out, decide_eq_false hs, Bool.and_false, Bool.false_and])
      have e5 : (S.samples != 1) = true := by simp; omega
      have e6 : (S.samples != 3) = true := by simp; omega
      have e7 : (S.samples != 5) = true := by simp; omega
      clear hs
      go_enter Tryz.func99, Tryz.ntmps99
      go_wp2_with fail
      go_ret
      exact ⟨ret_bool (by rw [HF.out]), MM.out⟩
  · have HF := Lib.hid (show validB S P = false by rw [HV.out, nameB_len hl, Bool.false_and, Bool.false_and])
    by_cases l1 : S.name.size < 1
    · have e1 : decide ((S.name.size : Int) < 1) = true := by simp; omega
      go_enter Tryz.func99, Tryz.ntmps99
      go_wp2_with fail
      go_ret
      exact ⟨ret_bool (by rw [HF.out]), MM.out⟩
    · have e1 : decide ((S.name.size : Int) < 1) = false := by simp; omega
      have e2 : decide ((16 : Int) < (S.name.size : Int)) = true := by simp; omega
      go_enter Tryz.func99, Tryz.ntmps99
      go_wp2_with fail
      go_ret
      exact ⟨ret_bool (by rw [HF.out]), MM.out⟩
end Go.Proofs.YtijjkonephjodaaGreatDoor

namespace Go.Proofs.YtijjkonephjodaaGreatDoor
open Go.RowKit

def leastI (sgn : Bool) : Int := if sgn then -128 else 0
theorem least_ok (sgn : Bool) (w : World) :
    Calls Tryz.prog 126 #[.bool sgn] w fun e w' => e = .returned (.int .i64 (leastI sgn)) ∧ w = w' := by
  cases sgn
  all_goals
    go_enter Tryz.func126, Tryz.ntmps126
    go_wp2
    go_ret
    exact ⟨rfl, rfl⟩
def rawI (x : Int) : Nat := ((x + 256) % 256).toNat
theorem rawI_lt (x : Int) : rawI x < 256 := by unfold rawI; omega
theorem num_raw {sgn : Bool} {x : Int} (h1 : leastI sgn ≤ x) (h2 : x ≤ leastI sgn + 255) : numI sgn (rawI x) = x := by
  unfold leastI at h1 h2
  unfold numI rawI
  cases sgn
  · simp at h1 h2 ⊢; omega
  · simp at h1 h2 ⊢
    split <;> omega
theorem raw_ok (x : Int) (h1 : -256 ≤ x) (h2 : x ≤ 1000) (w : World) :
    Calls Tryz.prog 127 #[.int .i64 x] w fun e w' => e = .returned (.int .u8 (rawI x)) ∧ w = w' := by
  have HR := Lib.hid (show x % 256 = (rawI x : Int) by unfold rawI; omega)
  go_enter Tryz.func127, Tryz.ntmps127
  go_wp2
  go_ret
  refine ⟨ret_int ?_, rfl⟩
  rw [← HR.out]
/-- An entity of the dice. -/
def MadeEnt (w : World) (b : Nat) (v : Value) (L : List Int) (e : Ending) (w' : World) : Prop :=
  ∃ (x y n : Nat), e = .returned (.agg #[.int .u8 x, .int .u8 y]) ∧ x < 256 ∧ y < 256 ∧ IsDice w' b v L n ∧ Mods [b] w w'
theorem entity_ok (w : World) (b : Nat) (v : Value) (L : List Int) (n : Nat) (h : IsDice w b v L n) :
    Calls Tryz.prog 34 #[.pointer (some ⟨b, 0, none⟩)] w fun e w' => MadeEnt w b v L e w' := by
  have H := Lib.hid h
  have hb := h.lt
  clear h
  go_enter Tryz.func34, Tryz.ntmps34
  go_wp2_with fail
  have M1 := (Mods.refl (S := [b]) (w := w)).alloc (.cells #[.int .u8 0, .int .u8 0] 31)
  have G1 := heap_alloc_new w (.cells #[.int .u8 0, .int .u8 0] 31)
  have D1 := H.out.mods0 ((Mods.refl (S := []) (w := w)).alloc (.cells #[.int .u8 0, .int .u8 0] 31))
  generalize w.alloc (.cells #[.int .u8 0, .int .u8 0] 31) = w1 at M1 G1 D1 ⊢
  have hg : w.heap.size ≠ b := by omega
  have hgl : w.heap.size ≤ w.heap.size := Nat.le_refl _
  generalize hgg : w.heap.size = g at G1 hg hgl ⊢
  have HG := Lib.hid hgg
  clear hgg
  refine (next_ok w1 b v L n D1 4 (by omega) (by omega)).mono ?_
  rintro e w2 ⟨r, n2, rfl, r1, r2, D2, M2⟩
  have G2 := M2.heap G1 (by simp [hg])
  have MM := M1.trans M2
  clear M1 M2 D1 G1
  go_wp2_with fail
  refine (next_ok w2 b v L n2 D2 2 (by omega) (by omega)).mono ?_
  rintro e w3 ⟨q, n3, rfl, q1, q2, D3, M3⟩
  have G3 := M3.heap G2 (by simp [hg])
  have MM := Lib.hid (MM.trans M3)
  have DD := Lib.hid D3
  clear M3 D2 G2 D3
  have c0 : w3.cell? ⟨g, 0, none⟩ = some (.int .u8 0) := cell_blk G3 0
  have c1 : w3.cell? ⟨g, 1, none⟩ = some (.int .u8 0) := cell_blk G3 1
  have ff := fun i => froz_blk G3 i
  go_wp2_with fail
  have G4 := heap_setCell (i := 1) (v := .int .u8 q) (heap_setCell (i := 0) (v := .int .u8 (1 + r)) G3)
  have MM := (MM.out.setCell (p := ⟨g, 0, none⟩) (.inr (by have := HG.out; simp; omega)) (.int .u8 (1 + r))).setCell (p := ⟨g, 1, none⟩) (.inr (by have := HG.out; simp; omega)) (.int .u8 q)
  have DD : IsDice ((w3.setCell ⟨g, 0, none⟩ (.int .u8 (1 + r))).setCell ⟨g, 1, none⟩ (.int .u8 q)) b v L n3 :=
    DD.out.mods (S := [g]) ((Mods.refl.setCell (.inl (by simp)) _).setCell (.inl (by simp)) _) (by simp; omega) fun hl k hk hk2 => by
      have := H.out.rd.block_lt (fun e => hl (List.eq_nil_of_length_eq_zero (by rw [← i64s_length, e]; rfl))) k hk
      have := HG.out
      simp at hk2
      omega
  obtain ⟨x, hx⟩ := Int.eq_ofNat_of_zero_le (show 0 ≤ 1 + r by omega)
  obtain ⟨y, rfl⟩ := Int.eq_ofNat_of_zero_le q1
  rw [hx] at G4 MM DD ⊢
  refine bodyPost_ret (results_cell_row rfl _ _ g _ _ _ _ rfl G4 Tryz.underlying31 rfl (by kernel_rfl)) rfl ?_
  exact ⟨x, y, n3, rfl, by omega, by omega, DD, MM⟩
end Go.Proofs.YtijjkonephjodaaGreatDoor

namespace Go.Proofs.YtijjkonephjodaaGreatDoor
open Go.RowKit

theorem IsDice.vlt {w : World} {b n : Nat} {v : Value} {L : List Int} (h : IsDice w b v L n) : L ≠ [] → ∀ k, v.ownBlock = some k → k < w.heap.size := fun hl k hk =>
  h.rd.block_lt (fun e => hl (List.eq_nil_of_length_eq_zero (by rw [← i64s_length, e]; rfl))) k hk
theorem IsDice.set {w : World} {b n : Nat} {v : Value} {L : List Int} (h : IsDice w b v L n) {p : Addr} (hp : p.block ≠ b) (hv : L ≠ [] → ∀ k, v.ownBlock = some k → k ≠ p.block) (u : Value) : IsDice (w.setCell p u) b v L n :=
  h.mods (S := [p.block]) (Mods.refl.setCell (.inl (by simp)) _) (by simpa using fun e => hp e.symm) fun hl k hk hk2 => hv hl k hk (by simpa using hk2)
/-- A text of the dice. -/
def MadeText (w : World) (b : Nat) (v : Value) (L : List Int) (A : ByteArray) (m : Nat) (e : Ending) (w' : World) : Prop :=
  ∃ (s : ByteArray) (n : Nat), e = .returned (.string s) ∧ s.size = m ∧ (∀ c ∈ s.data.toList, c ∈ A.data.toList) ∧ IsDice w' b v L n ∧ Mods [b] w w'
theorem text_snoc {s A : ByteArray} {k j : Nat} (hs : s.size = k) (h : ∀ c ∈ s.data.toList, c ∈ A.data.toList) (hj : j < A.size) :
    (s ++ A.extract j (j + 1)).size = k + 1 ∧ Hid (∀ c ∈ (s ++ A.extract j (j + 1)).data.toList, c ∈ A.data.toList) := by
  refine ⟨by simp [hs]; omega, ?_⟩
  show ∀ c ∈ (s ++ A.extract j (j + 1)).data.toList, c ∈ A.data.toList
  intro c hc
  rw [ByteArray.data_append, Array.toList_append, List.mem_append] at hc
  rcases hc with hc | hc
  · exact h c hc
  · rw [ByteArray.data_extract, Array.toList_extract] at hc
    exact List.mem_of_mem_drop (List.mem_of_mem_take hc)
set_option maxHeartbeats 1000000 in
theorem text_ok (w : World) (b : Nat) (v : Value) (L : List Int) (n : Nat) (h : IsDice w b v L n) (A : ByteArray) (hA : 1 ≤ A.size) (hA2 : A.size ≤ 1000) (m : Nat) (hm : m ≤ 1000) :
    Calls Tryz.prog 60 #[.pointer (some ⟨b, 0, none⟩), .string A, .int .i64 m] w fun e w' => MadeText w b v L A m e w' := by
  have H := Lib.hid h
  clear h
  go_enter Tryz.func60, Tryz.ntmps60
  go_wp2_with fail
  go_loopw [7, 8] (fun t i wr => ∃ (k n2 : Nat) (s : ByteArray), k ≤ m ∧ i = .int .i64 k ∧ t = .string s ∧ s.size = k ∧ Hid (∀ c ∈ s.data.toList, c ∈ A.data.toList) ∧ IsDice wr b v L n2 ∧ Mods [b] w wr) (fun _ i _ => m - (intOf i).toNat)
  case atStart => exact ⟨0, n, ⟨#[]⟩, by omega, rfl, rfl, rfl, by intro c hc; simp at hc, H.out, Mods.refl⟩
  case round =>
    obtain ⟨k, n2, s, hk, rfl, rfl, hsz, hs, D, M⟩ := hrel
    have HSZ := Lib.hid hsz
    clear hsz
    by_cases hlt : k < m
    · go_wp2_with fail
      refine (next_ok wr b v L n2 D (A.size : Int) (by omega) (by omega)).mono ?_
      rintro e w2 ⟨r, n3, rfl, r1, r2, D3, M3⟩
      obtain ⟨j, rfl⟩ := Int.eq_ofNat_of_zero_le r1
      have hj : j < A.size := by omega
      have j1 : (0 : Int) ≤ (j : Int) + 1 := by omega
      have j2 : (j : Int) + 1 ≤ (A.size : Int) := by omega
      have hsb : s.size ≤ 1000 := by have := HSZ.out; omega
      have MM := Lib.hid (M.trans M3)
      have HX := Lib.hid (text_snoc HSZ.out hs.out hj)
      clear M M3 D
      go_wp2_with fail
      go_roundw
      case rel => exact ⟨k + 1, n3, _, by omega, by go_num, rfl, HX.out.1, HX.out.2, D3, MM.out⟩
      case measure => simp [intOf]; omega
    · have hkm : k = m := by omega
      subst hkm
      go_wp2
      go_ret
      exact ⟨s, n2, rfl, HSZ.out, hs.out, D, M⟩
/-- A fixed-point number of the dice. -/
def MadeMicro (w : World) (b : Nat) (v : Value) (L : List Int) (e : Ending) (w' : World) : Prop :=
  ∃ (x : Int) (n : Nat), e = .returned (.int .i64 x) ∧ -1000000000000 ≤ x ∧ x ≤ 1000000000000 ∧ IsDice w' b v L n ∧ Mods [b] w w'
def microL : List Int := [0, 1, -1, 1000000, -1000000, 1000000000000, -1000000000000, 500000]
theorem micro_bd {k : Nat} (hk : k < 8) : -1000000000000 ≤ microL.getD k 0 ∧ microL.getD k 0 ≤ 1000000000000 := by
  match k, hk with
  | 0, _ | 1, _ | 2, _ | 3, _ | 4, _ | 5, _ | 6, _ | 7, _ => simp [microL]
set_option maxHeartbeats 1000000 in
theorem micro_ok (w : World) (b : Nat) (v : Value) (L : List Int) (n : Nat) (h : IsDice w b v L n) :
    Calls Tryz.prog 98 #[.pointer (some ⟨b, 0, none⟩)] w fun e w' => MadeMicro w b v L e w' := by
  have hbl := h.lt
  have H := Lib.hid h
  clear h
  go_enter Tryz.func98, Tryz.ntmps98
  go_wp2_with fail
  have M1 := (Mods.refl (S := [b]) (w := w)).alloc (.cells #[.int .i64 0, .int .i64 1, .int .i64 (-1), .int .i64 1000000, .int .i64 (-1000000), .int .i64 1000000000000, .int .i64 (-1000000000000), .int .i64 500000] 190)
  have HL := Lib.hid (fun (k : Nat) (hk : k < 8) => (show (w.alloc (.cells #[.int .i64 0, .int .i64 1, .int .i64 (-1), .int .i64 1000000, .int .i64 (-1000000), .int .i64 1000000000000, .int .i64 (-1000000000000), .int .i64 500000] 190)).cell? ⟨w.heap.size, k, none⟩ = some (.int .i64 (microL.getD k 0)) by
    rw [World.cell?_alloc_at _ _ _ _ rfl]
    match k, hk with
    | 0, _ | 1, _ | 2, _ | 3, _ | 4, _ | 5, _ | 6, _ | 7, _ => rfl))
  have D1 := H.out.mods0 ((Mods.refl (S := []) (w := w)).alloc (.cells #[.int .i64 0, .int .i64 1, .int .i64 (-1), .int .i64 1000000, .int .i64 (-1000000), .int .i64 1000000000000, .int .i64 (-1000000000000), .int .i64 500000] 190))
  generalize w.alloc (.cells #[.int .i64 0, .int .i64 1, .int .i64 (-1), .int .i64 1000000, .int .i64 (-1000000), .int .i64 1000000000000, .int .i64 (-1000000000000), .int .i64 500000] 190) = w1 at M1 HL D1 ⊢
  have hg : w.heap.size ≠ b := by omega
  generalize w.heap.size = g at HL hg ⊢
  refine (next_ok w1 b v L n D1 3 (by omega) (by omega)).mono ?_
  rintro e w2 ⟨r, n2, rfl, r1, r2, D2, M2⟩
  have HL := Lib.hid (fun k hk => M2.cell (HL.out k hk) (by simpa using hg))
  have MM := Lib.hid (M1.trans M2)
  clear M1 M2 D1
  by_cases h0 : r = 0
  · have e0 : (r == 0) = true := by simp [h0]
    clear h0
    go_wp2_with fail
    refine (next_ok w2 b v L n2 D2 8 (by omega) (by omega)).mono ?_
    rintro e w3 ⟨q, n3, rfl, q1, q2, D3, M3⟩
    obtain ⟨k, rfl⟩ := Int.eq_ofNat_of_zero_le q1
    have hk : k < 8 := by omega
    have hc := M3.cell (HL.out k hk) (by simpa using hg)
    have hb := micro_bd hk
    generalize microL.getD k 0 = x at hc hb
    have MM := Lib.hid (MM.out.trans M3)
    clear M3
    go_wp2
    go_ret
    exact ⟨x, n3, rfl, hb.1, hb.2, D3, MM.out⟩
  · have e0 : (r == 0) = false := by simp [h0]
    by_cases h1 : r = 1
    · have e1 : (r == 1) = true := by simp [h1]
      clear h0 h1
      go_wp2_with fail
      refine (next_ok w2 b v L n2 D2 2000001 (by omega) (by omega)).mono ?_
      rintro e w3 ⟨q, n3, rfl, q1, q2, D3, M3⟩
      have MM := Lib.hid (MM.out.trans M3)
      clear M3
      go_wp2
      go_ret
      exact ⟨q - 1000000, n3, rfl, by omega, by omega, D3, MM.out⟩
    · have e1 : (r == 1) = false := by simp [h1]
      clear h0 h1
      go_wp2_with fail
      refine (next_ok w2 b v L n2 D2 2000001 (by omega) (by omega)).mono ?_
      rintro e w3 ⟨q, n3, rfl, q1, q2, D3, M3⟩
      have MM := Lib.hid (MM.out.trans M3)
      clear M3
      go_wp2_with fail
      refine (next_ok w3 b v L n3 D3 1000 (by omega) (by omega)).mono ?_
      rintro e w4 ⟨p, n4, rfl, p1, p2, D4, M4⟩
      have MM := Lib.hid (MM.out.trans M4)
      clear M4
      obtain ⟨a, ha⟩ : ∃ a, a = (q - 1000000) * 1000 := ⟨_, rfl⟩
      have a1 : -1000000000 ≤ a := by omega
      have a2 : a ≤ 1000000000 := by omega
      have hb1 : a * (1 + p) ≤ 1000000000 * 1000 := by
        rcases Int.lt_or_le a 0 with hn | hn
        · have := Int.mul_nonpos_of_nonpos_of_nonneg (show a ≤ 0 by omega) (show 0 ≤ 1 + p by omega); omega
        · exact Int.mul_le_mul a2 (by omega) (by omega) (by omega)
      have hb2 : -(1000000000 * 1000) ≤ a * (1 + p) := by
        rcases Int.lt_or_le a 0 with hn | hn
        · have h1 : (-a) * (1 + p) ≤ 1000000000 * 1000 := Int.mul_le_mul (by omega) (by omega) (by omega) (by omega)
          have h2 : (-a) * (1 + p) = -(a * (1 + p)) := Int.neg_mul _ _
          omega
        · have := Int.mul_nonneg hn (show 0 ≤ 1 + p by omega); omega
      rw [ha] at hb1 hb2
      clear ha a1 a2
      go_wp2
      go_ret
      exact ⟨(q - 1000000) * 1000 * (1 + p), n4, rfl, by omega, by omega, D4, MM.out⟩
end Go.Proofs.YtijjkonephjodaaGreatDoor

namespace Go.Proofs.YtijjkonephjodaaGreatDoor
open Go.RowKit

def ordI (k : Nat) : Nat := if k < 3 then 2 - k else k
def doneP (k i : Nat) : Prop := (i < 3 ∧ 3 ≤ i + k) ∨ (3 ≤ i ∧ i < k)
structure Ths (lo : Int) (m : Nat) (R : Nat → Nat) (N : Nat → Int) (k : Nat) (x : Int) : Prop where
  x0 : lo ≤ x
  x1 : x ≤ lo + 40 + 36 * k
  rng : ∀ i, R i < 256
  zero : ∀ i, i < 6 → ¬ (m.testBit i = true ∧ doneP k i) → R i = 0
  le : ∀ i, i < 6 → m.testBit i = true → doneP k i → N i ≤ x ∧ (i < 3 → 3 < k → N i < x)
  ord : ∀ i j, j < 6 → i < j → m.testBit i = true → m.testBit j = true → doneP k i → doneP k j → (j < 3 → N j ≤ N i) ∧ (3 ≤ i → N i ≤ N j) ∧ (i < 3 → 3 ≤ j → N i < N j)
def stepX (k : Nat) (x : Int) : Int := if k = 3 then x + 1 else x
theorem Ths.skip {lo : Int} {m : Nat} {R : Nat → Nat} {N : Nat → Int} {k : Nat} {x : Int} (h : Ths lo m R N k x) (hk : k < 6) (hb : m.testBit (ordI k) = false) : Ths lo m R N (k + 1) (stepX k x) := by
  have hx : x ≤ stepX k x ∧ stepX k x ≤ x + 1 ∧ (k = 3 → stepX k x = x + 1) := by unfold stepX; split <;> omega
  have dd : ∀ i, i < 6 → m.testBit i = true → doneP (k + 1) i → doneP k i ∧ i ≠ ordI k := by
    intro i hi hbi hd
    have hne : i ≠ ordI k := by rintro rfl; rw [hb] at hbi; cases hbi
    refine ⟨?_, hne⟩
    unfold doneP at hd ⊢
    unfold ordI at hne
    split at hne <;> omega
  have h1 := h.x0
  have h2 := h.x1
  refine ⟨by omega, by omega, h.rng, ?_, ?_, ?_⟩
  · intro i hi hn
    refine h.zero i hi fun ⟨ha, hd⟩ => hn ⟨ha, ?_⟩
    unfold doneP at hd ⊢; omega
  · intro i hi hbi hd
    have ⟨d1, _⟩ := dd i hi hbi hd
    have ⟨a, b⟩ := h.le i hi hbi d1
    refine ⟨by omega, fun h3 hk3 => ?_⟩
    by_cases e : k = 3
    · have := hx.2.2 e; omega
    · have := b h3 (by omega); omega
  · intro i j hj hij hbi hbj hdi hdj
    exact h.ord i j hj hij hbi hbj (dd i (by omega) hbi hdi).1 (dd j hj hbj hdj).1
theorem Ths.put {lo : Int} {m : Nat} {R R' : Nat → Nat} {N N' : Nat → Int} {k : Nat} {x d : Int} (h : Ths lo m R N k x) (hk : k < 6) (hR : ∀ i, R' i < 256) (hR2 : ∀ i, i ≠ ordI k → R' i = R i) (hN : N' (ordI k) = stepX k x) (hN2 : ∀ i, i ≠ ordI k → N' i = N i) (hd0 : 0 ≤ d) (hd1 : d ≤ 35) (hb : m.testBit (ordI k) = true) : Ths lo m R' N' (k + 1) (stepX k x + d) := by
  have hx : x ≤ stepX k x ∧ stepX k x ≤ x + 1 ∧ (k = 3 → stepX k x = x + 1) ∧ (k ≠ 3 → stepX k x = x) := by unfold stepX; split <;> omega
  have ho : ordI k < 6 := by unfold ordI; split <;> omega
  have dd : ∀ i, doneP (k + 1) i → i ≠ ordI k → doneP k i := by
    intro i hd hne
    unfold doneP at hd ⊢
    unfold ordI at hne
    split at hne <;> omega
  have h1 := h.x0
  have h2 := h.x1
  have hfirst : lo ≤ x ∧ x ≤ lo + 40 + 36 * k := ⟨h1, h2⟩
  have hx1 : stepX k x + d ≤ lo + 40 + 36 * ((k + 1 : Nat) : Int) := by omega
  refine ⟨by omega, hx1, hR, ?_, ?_, ?_⟩
  · intro i hi hn
    by_cases e : i = ordI k
    · refine absurd ⟨by rw [e]; exact hb, ?_⟩ hn
      rw [e]; unfold doneP ordI; split <;> omega
    · rw [hR2 i e]
      refine h.zero i hi fun ⟨ha, hd⟩ => hn ⟨ha, ?_⟩
      unfold doneP at hd ⊢; omega
  · intro i hi hbi hd
    by_cases e : i = ordI k
    · rw [e, hN]
      refine ⟨by omega, fun h3 hk3 => ?_⟩
      unfold ordI at h3; split at h3 <;> omega
    · rw [hN2 i e]
      have ⟨a, b⟩ := h.le i hi hbi (dd i hd e)
      refine ⟨by omega, fun h3 hk3 => ?_⟩
      by_cases e3 : k = 3
      · have := hx.2.2.1 e3; omega
      · have := b h3 (by omega); omega
  · intro i j hj hij hbi hbj hdi hdj
    by_cases ei : i = ordI k
    · have ej : j ≠ ordI k := by omega
      have dj := dd j hdj ej
      have ⟨a, b⟩ := h.le j hj hbj dj
      rw [hN2 j ej]
      rw [ei, hN]
      unfold doneP at dj
      unfold ordI at ei ⊢
      split at ei
      · rw [if_pos ‹_›]; refine ⟨fun _ => by omega, fun _ => by omega, fun _ _ => by omega⟩
      · rw [if_neg ‹_›]; refine ⟨fun _ => by omega, fun _ => by omega, fun _ _ => by omega⟩
    · have di := dd i hdi ei
      rw [hN2 i ei]
      by_cases ej : j = ordI k
      · have ⟨a, b⟩ := h.le i (by omega) hbi di
        rw [ej, hN]
        unfold doneP at di
        have hs3 : i < 3 → 3 ≤ ordI k → N i < stepX k x := by
          intro hi3 ho3
          by_cases e3 : k = 3
          · have := hx.2.2.1 e3; omega
          · have : 3 < k := by unfold ordI at ho3; split at ho3 <;> omega
            have := b hi3 this; omega
        refine ⟨fun hh => ?_, fun _ => by omega, hs3⟩
        unfold ordI at ej hh
        split at ej
        · omega
        · rw [if_neg ‹_›] at hh; omega
      · rw [hN2 j ej]
        exact h.ord i j hj hij hbi hbj di (dd j hdj ej)

theorem IsDice.drewN {w : World} {b n : Nat} {v : Value} {L : List Int} (h : IsDice w b v L n) (k : Nat) : IsDice (w.drewN k) b v L n := h.mods0 (Mods.refl.drewN k)
theorem Ths.start {lo : Int} {m : Nat} {N : Nat → Int} {x : Int} (h0 : lo ≤ x) (h1 : x ≤ lo + 39) : Ths lo m (fun _ => 0) N 0 x := by
  have nd : ∀ i, ¬ doneP 0 i := by intro i hd; unfold doneP at hd; omega
  exact ⟨h0, by omega, fun _ => by decide, fun _ _ _ => rfl, fun i _ _ hd => absurd hd (nd i), fun i _ _ _ _ _ hd => absurd hd (nd i)⟩
theorem Ths.fin {lo : Int} {m : Nat} {R : Nat → Nat} {N : Nat → Int} {x : Int} (h : Ths lo m R N 6 x) : ordB m N = true ∧ ∀ i, i < 6 → m.testBit i = false → R i = 0 := by
  have dn : ∀ i, i < 6 → doneP 6 i := by intro i hi; unfold doneP; omega
  refine ⟨?_, fun i hi hb => h.zero i hi fun ⟨ha, _⟩ => by rw [hb] at ha; cases ha⟩
  unfold ordB
  rw [List.all_eq_true]
  intro i hi
  have hi := List.mem_range.1 hi
  cases hbi : m.testBit i with
  | false => rfl
  | true =>
    rw [Bool.not_true, Bool.false_or, List.all_eq_true]
    intro k hk
    have hk := List.mem_range.1 hk
    cases hbk : m.testBit k with
    | false => rfl
    | true =>
      have ⟨a, b, c⟩ := h.ord k i hi hk hbk hbi (dn k (by omega)) (dn i hi)
      simp only [Bool.not_true, Bool.false_or, pairB]
      simp
      omega
def thsCells (m : Nat) (R : Nat → Nat) : Array Value := #[.int .u8 m, .int .u8 (R 0), .int .u8 (R 1), .int .u8 (R 2), .int .u8 (R 3), .int .u8 (R 4), .int .u8 (R 5)]
theorem thsCells_set (m : Nat) (R : Nat → Nat) {o : Nat} (ho : o < 6) (r : Nat) : (thsCells m R).setIfInBounds (1 + o) (.int .u8 r) = thsCells m (fun i => if i = o then r else R i) := by
  match o, ho with
  | 0, _ | 1, _ | 2, _ | 3, _ | 4, _ | 5, _ => rfl
theorem ordCell {w : World} {g k : Nat} {T : TypeId} (h : w.heap[g]? = some (.cells #[.int .i64 2, .int .i64 1, .int .i64 0, .int .i64 3, .int .i64 4, .int .i64 5] T (0, 0))) (hk : k < 6) : w.cell? ⟨g, k, none⟩ = some (.int .i64 (ordI k)) := by
  rw [cell_blk h]
  match k, hk with
  | 0, _ | 1, _ | 2, _ | 3, _ | 4, _ | 5, _ => rfl
/-- Thresholds of the dice. -/
def MadeThs (w : World) (b : Nat) (v : Value) (L : List Int) (sgn : Bool) (e : Ending) (w' : World) : Prop :=
  ∃ (m n : Nat) (R : Nat → Nat), e = .returned (.agg (thsCells m R)) ∧ m < 64 ∧ (∀ i, R i < 256) ∧ ordB m (fun i => numI sgn (R i)) = true ∧ (∀ i, i < 6 → m.testBit i = false → R i = 0) ∧ IsDice w' b v L n ∧ Mods [b] w w'
set_option maxRecDepth 100000 in
set_option maxHeartbeats 2000000 in
theorem thresholds_ok (w : World) (b : Nat) (v : Value) (L : List Int) (n : Nat) (h : IsDice w b v L n) (sgn : Bool) :
    Calls Tryz.prog 97 #[.pointer (some ⟨b, 0, none⟩), .bool sgn] w fun e w' => MadeThs w b v L sgn e w' := by
  have hbl := h.lt
  have H := Lib.hid h
  have hv := Lib.hid h.vlt
  clear h
  have hlo : -128 ≤ leastI sgn ∧ leastI sgn ≤ 0 := by unfold leastI; cases sgn <;> decide
  go_enter Tryz.func97, Tryz.ntmps97
  go_wp2_with fail
  have M1 := (Mods.refl (S := []) (w := w)).alloc (.cells #[.int .u8 0, .int .u8 0, .int .u8 0, .int .u8 0, .int .u8 0, .int .u8 0, .int .u8 0] 37)
  have G1 := heap_alloc_new w (.cells #[.int .u8 0, .int .u8 0, .int .u8 0, .int .u8 0, .int .u8 0, .int .u8 0, .int .u8 0] 37)
  have Z1 : (w.alloc (.cells #[.int .u8 0, .int .u8 0, .int .u8 0, .int .u8 0, .int .u8 0, .int .u8 0, .int .u8 0] 37)).heap.size = w.heap.size + 1 := by simp
  generalize w.alloc (.cells #[.int .u8 0, .int .u8 0, .int .u8 0, .int .u8 0, .int .u8 0, .int .u8 0, .int .u8 0] 37) = w1 at M1 G1 Z1 ⊢
  generalize hgr : w.heap.size = gr at G1 Z1 hbl ⊢
  have HGR := Lib.hid hgr
  clear hgr
  have D1 := H.out.mods0 M1
  refine (next_ok w1 b v L n D1 64 (by omega) (by omega)).mono ?_
  rintro e w2 ⟨mi, n2, rfl, m0, m1, D2, M2⟩
  obtain ⟨m, rfl⟩ := Int.eq_ofNat_of_zero_le m0
  have hm : m < 64 := by omega
  have G2 := M2.heap G1 (by simp; omega)
  have MM := (M1.nil (S := [b])).trans M2
  have Z2 := M2.size
  rw [Z1] at Z2
  clear M1 M2 D1 G1 m0 m1 Z1
  go_wp2_with fail
  refine (least_ok sgn _).mono ?_
  rintro e w3 ⟨rfl, rfl⟩
  have M3 := (Mods.refl (S := []) (w := w2)).alloc (.cells #[.int .u8 m, .int .u8 0, .int .u8 0, .int .u8 0, .int .u8 0, .int .u8 0, .int .u8 0] 37)
  have G3 : (w2.alloc (.cells #[.int .u8 m, .int .u8 0, .int .u8 0, .int .u8 0, .int .u8 0, .int .u8 0, .int .u8 0] 37)).heap[w2.heap.size]? = some (.cells (thsCells m fun _ => 0) 37 (0, 0)) := heap_alloc_new _ _
  have R3 := heap_alloc (o' := .cells #[.int .u8 m, .int .u8 0, .int .u8 0, .int .u8 0, .int .u8 0, .int .u8 0, .int .u8 0] 37) G2
  have Z3 : (w2.alloc (.cells #[.int .u8 m, .int .u8 0, .int .u8 0, .int .u8 0, .int .u8 0, .int .u8 0, .int .u8 0] 37)).heap.size = w2.heap.size + 1 := by simp
  generalize w2.alloc (.cells #[.int .u8 m, .int .u8 0, .int .u8 0, .int .u8 0, .int .u8 0, .int .u8 0, .int .u8 0] 37) = w3 at M3 G3 R3 Z3 ⊢
  have D3 := D2.mods0 M3
  generalize w2.heap.size = g at G3 Z3 Z2 ⊢
  clear D2 G2
  go_wp2_with fail
  refine (next_ok w3 b v L n2 D3 40 (by omega) (by omega)).mono ?_
  rintro e w4 ⟨x, n4, rfl, x0, x1, D4, M4⟩
  have G4 := M4.heap G3 (by simp; omega)
  have R4 := M4.heap R3 (by simp; omega)
  have Z4 := M4.size
  rw [Z3] at Z4
  have MM := (MM.trans M3.nil).trans M4
  clear D3 G3 R3 M3 M4 Z3
  go_wp2_with fail
  have M5 := (Mods.refl (S := []) (w := w4)).alloc (.cells #[.int .i64 2, .int .i64 1, .int .i64 0, .int .i64 3, .int .i64 4, .int .i64 5] 189)
  have O5 := heap_alloc_new w4 (.cells #[.int .i64 2, .int .i64 1, .int .i64 0, .int .i64 3, .int .i64 4, .int .i64 5] 189)
  have G5 := M5.heap G4 (by simp)
  have R5 := M5.heap R4 (by simp)
  have D5 := D4.mods0 M5
  generalize w4.alloc (.cells #[.int .i64 2, .int .i64 1, .int .i64 0, .int .i64 3, .int .i64 4, .int .i64 5] 189) = w5 at M5 O5 G5 R5 D5 ⊢
  have MM := MM.trans M5.nil
  generalize w4.heap.size = g2 at O5 Z4 ⊢
  clear D4 G4 R4 M5
  have T0 : Ths (leastI sgn) m (fun _ => 0) (fun i => numI sgn ((fun _ => 0 : Nat → Nat) i)) 0 (leastI sgn + x) := Ths.start (by omega) (by omega)
  go_loopw [6, 8] (fun y i wr => ∃ (k n6 : Nat) (x : Int) (R : Nat → Nat), k ≤ 6 ∧ i = .int .i64 k ∧ y = .int .i64 x ∧ IsDice wr b v L n6 ∧ Mods [b] w wr ∧ wr.heap[gr]? = some (.cells #[.int .u8 0, .int .u8 0, .int .u8 0, .int .u8 0, .int .u8 0, .int .u8 0, .int .u8 0] 37 (0, 0))
      ∧ wr.heap[g]? = some (.cells (thsCells m R) 37 (0, 0)) ∧ wr.heap[g2]? = some (.cells #[.int .i64 2, .int .i64 1, .int .i64 0, .int .i64 3, .int .i64 4, .int .i64 5] 189 (0, 0)) ∧ Hid (Ths (leastI sgn) m R (fun i => numI sgn (R i)) k x)) (fun _ i _ => 6 - (intOf i).toNat)
  case atStart => exact ⟨0, n4, _, _, by omega, rfl, rfl, D5, MM, R5, G5, O5, T0⟩
  case round =>
    obtain ⟨k, n6, y, R, hk, rfl, rfl, D6, M6, R6, G6, O6, T6⟩ := hrel
    clear D5 MM R5 G5 O5 T0 x0 x1
    by_cases hlt : k < 6
    · have ho : ordI k < 6 := by unfold ordI; split <;> omega
      have tx0 := T6.out.x0
      have tx1 := T6.out.x1
      have c0 : wr.cell? ⟨g, 0, none⟩ = some (.int .u8 m) := cell_blk G6 0
      have c1 := ordCell O6 hlt
      have c2 : wr.cell? ⟨g, 1 + ordI k, none⟩ = some (.int .u8 (R (ordI k))) := by
        rw [cell_blk G6]
        match ordI k, ho with
        | 0, _ | 1, _ | 2, _ | 3, _ | 4, _ | 5, _ => rfl
      have cf : wr.frozen? ⟨g, 1 + ordI k, none⟩ = false := froz_blk G6 _
      have i1 : (0 : Int) ≤ (k : Int) := by omega
      have i2 : (k : Int) < 6 := by omega
      have hw := wrap16 (m := m) (by omega)
      obtain ⟨o, hoo⟩ : ∃ o, o = ordI k := ⟨_, rfl⟩
      rw [← hoo] at ho c1 c2 cf
      have HO := Lib.hid hoo
      clear hoo
      have i3 : (0 : Int) ≤ (o : Int) := by omega
      have i4 : (o : Int) < 6 := by omega
      by_cases h3 : k = 3
      · have e3 : (k == 3) = true := by simp [h3]
        have e4 : ((k : Int) == 3) = true := by simp [h3]
        have HX := Lib.hid (show stepX k y = y + 1 by unfold stepX; rw [if_pos h3])
        clear h3
        cases hb : m.testBit o with
        | false =>
          have TS := Lib.hid (HX.out ▸ T6.out.skip hlt (by rw [← HO.out]; exact hb))
          have HB := Lib.hid (show ∀ W : World, Calls Tryz.prog 69 #[.int .u16 m, .int .i64 o] W fun e w' => e = .returned (.bool false) ∧ W = w' from fun W => hb ▸ has_ok m o (by omega) (by omega) W)
          clear hb
          go_wp2_with fail
          go_quiet ((go_at_call 69; exact quiet_left (HB.out _)))
          go_wp2
          exact ⟨⟨k + 1, n6, (y+1), R, by omega, by go_num, rfl, D6.drewN nq, M6.drewN nq, R6, G6, O6, TS.out⟩, by simp only [intOf]; omega⟩
        | true =>
          have HB := Lib.hid (show ∀ W : World, Calls Tryz.prog 69 #[.int .u16 m, .int .i64 o] W fun e w' => e = .returned (.bool true) ∧ W = w' from fun W => hb ▸ has_ok m o (by omega) (by omega) W)
          have HBB := Lib.hid hb
          clear hb
          go_wp2_with fail
          go_quiet ((go_at_call 69; exact quiet_left (HB.out _)))
          have D7 := D6.drewN nq
          have M7 := M6.drewN nq
          have R7 := heap_drewN (n := nq) R6
          have G7 := heap_drewN (n := nq) G6
          have O7 := heap_drewN (n := nq) O6
          have c1 : (wr.drewN nq).cell? ⟨g2, k, none⟩ = some (.int .i64 o) := c1
          have c2 : (wr.drewN nq).cell? ⟨g, 1 + o, none⟩ = some (.int .u8 (R o)) := by simpa using c2
          have cf : (wr.drewN nq).frozen? ⟨g, 1 + o, none⟩ = false := by simpa using cf
          generalize wr.drewN nq = w7 at D7 M7 R7 G7 O7 c1 c2 cf ⊢
          clear D6 M6 R6 G6 O6 c0
          go_wp2_with fail
          go_still_tail 7, (by kernel_rfl)
          still_call ((raw_ok (y+1) (by omega) (by omega) _).mono fun _ _ ⟨h1, h2⟩ => ⟨h1, h2.symm⟩)
          repeat still_step
          refine wpStill_nil ?_
          change wpList _ _ _ _ _ w7.drew
          have D8 : IsDice w7.drew b v L n6 := D7.drewN 1
          have M8 := M7.drew
          have R8 : w7.drew.heap[gr]? = _ := R7
          have G8 : w7.drew.heap[g]? = _ := G7
          have O8 : w7.drew.heap[g2]? = _ := O7
          have c2 : w7.drew.cell? ⟨g, 1 + o, none⟩ = some (.int .u8 (R o)) := by simpa using c2
          have cf : w7.drew.frozen? ⟨g, 1 + o, none⟩ = false := by simpa using cf
          generalize w7.drew = w8 at D8 M8 R8 G8 O8 c2 cf ⊢
          clear D7 M7 R7 G7 O7 c1
          go_wp2_with fail
          have D9 := D8.set (p := ⟨g, 1 + o, none⟩) (by simp; omega) (fun hl k hk => by have := hv.out hl k hk; have := HGR.out; simp; omega) (.int .u8 (rawI (y+1)))
          have M9 := M8.setCell (p := ⟨g, 1 + o, none⟩) (.inr (by have := HGR.out; simp; omega)) (.int .u8 (rawI (y+1)))
          have R9 := heap_setCell_ne (a := ⟨g, 1 + o, none⟩) (v := .int .u8 (rawI (y+1))) R8 (by simp; omega)
          have O9 := heap_setCell_ne (a := ⟨g, 1 + o, none⟩) (v := .int .u8 (rawI (y+1))) O8 (by simp; omega)
          have G9 := heap_setCell (i := 1 + o) (v := .int .u8 (rawI (y+1))) G8
          rw [thsCells_set m R ho (rawI (y+1))] at G9
          generalize w8.setCell ⟨g, 1 + o, none⟩ (.int .u8 (rawI (y+1))) = w9 at D9 M9 R9 O9 G9 ⊢
          clear D8 M8 R8 G8 O8 c2 cf
          refine (next_ok w9 b v L n6 D9 36 (by omega) (by omega)).mono ?_
          rintro e w10 ⟨d, n10, rfl, d0, d1, D10, M10⟩
          have TS := Lib.hid (T6.out.put (R' := fun i => if i = o then rawI (y+1) else R i) (N' := fun i => numI sgn ((fun i => if i = o then rawI (y+1) else R i) i)) (d := d) hlt
            (fun i => by show (if i = o then rawI (y+1) else R i) < 256; split; exact rawI_lt _; exact T6.out.rng i) (fun i hi => by rw [← HO.out] at hi; simp [hi])
            (by rw [← HO.out, HX.out]; simp only [if_true]; exact num_raw (by omega) (by omega)) (fun i hi => by rw [← HO.out] at hi; simp [hi]) d0 (by omega) (by rw [← HO.out]; exact HBB.out))
          rw [HX.out] at TS
          have R10 := M10.heap R9 (by simp; omega)
          have O10 := M10.heap O9 (by simp; omega)
          have G10 := M10.heap G9 (by simp; omega)
          have MM := Lib.hid (M9.trans M10)
          clear M9 M10 R9 O9 G9 D9
          go_wp2
          exact ⟨⟨k + 1, n10, (y+1) + d, _, by omega, by go_num, rfl, D10, MM.out, R10, G10, O10, TS.out⟩, by simp only [intOf]; omega⟩
      · have e3 : (k == 3) = false := by simp [h3]
        have e4 : ((k : Int) == 3) = false := by simp; omega
        have HX := Lib.hid (show stepX k y = y by unfold stepX; rw [if_neg h3])
        clear h3
        cases hb : m.testBit o with
        | false =>
          have TS := Lib.hid (HX.out ▸ T6.out.skip hlt (by rw [← HO.out]; exact hb))
          have HB := Lib.hid (show ∀ W : World, Calls Tryz.prog 69 #[.int .u16 m, .int .i64 o] W fun e w' => e = .returned (.bool false) ∧ W = w' from fun W => hb ▸ has_ok m o (by omega) (by omega) W)
          clear hb
          go_wp2_with fail
          go_quiet ((go_at_call 69; exact quiet_left (HB.out _)))
          go_wp2
          exact ⟨⟨k + 1, n6, y, R, by omega, by go_num, rfl, D6.drewN nq, M6.drewN nq, R6, G6, O6, TS.out⟩, by simp only [intOf]; omega⟩
        | true =>
          have HB := Lib.hid (show ∀ W : World, Calls Tryz.prog 69 #[.int .u16 m, .int .i64 o] W fun e w' => e = .returned (.bool true) ∧ W = w' from fun W => hb ▸ has_ok m o (by omega) (by omega) W)
          have HBB := Lib.hid hb
          clear hb
          go_wp2_with fail
          go_quiet ((go_at_call 69; exact quiet_left (HB.out _)))
          have D7 := D6.drewN nq
          have M7 := M6.drewN nq
          have R7 := heap_drewN (n := nq) R6
          have G7 := heap_drewN (n := nq) G6
          have O7 := heap_drewN (n := nq) O6
          have c1 : (wr.drewN nq).cell? ⟨g2, k, none⟩ = some (.int .i64 o) := c1
          have c2 : (wr.drewN nq).cell? ⟨g, 1 + o, none⟩ = some (.int .u8 (R o)) := by simpa using c2
          have cf : (wr.drewN nq).frozen? ⟨g, 1 + o, none⟩ = false := by simpa using cf
          generalize wr.drewN nq = w7 at D7 M7 R7 G7 O7 c1 c2 cf ⊢
          clear D6 M6 R6 G6 O6 c0
          go_wp2_with fail
          go_still_tail 7, (by kernel_rfl)
          still_call ((raw_ok y (by omega) (by omega) _).mono fun _ _ ⟨h1, h2⟩ => ⟨h1, h2.symm⟩)
          repeat still_step
          refine wpStill_nil ?_
          change wpList _ _ _ _ _ w7.drew
          have D8 : IsDice w7.drew b v L n6 := D7.drewN 1
          have M8 := M7.drew
          have R8 : w7.drew.heap[gr]? = _ := R7
          have G8 : w7.drew.heap[g]? = _ := G7
          have O8 : w7.drew.heap[g2]? = _ := O7
          have c2 : w7.drew.cell? ⟨g, 1 + o, none⟩ = some (.int .u8 (R o)) := by simpa using c2
          have cf : w7.drew.frozen? ⟨g, 1 + o, none⟩ = false := by simpa using cf
          generalize w7.drew = w8 at D8 M8 R8 G8 O8 c2 cf ⊢
          clear D7 M7 R7 G7 O7 c1
          go_wp2_with fail
          have D9 := D8.set (p := ⟨g, 1 + o, none⟩) (by simp; omega) (fun hl k hk => by have := hv.out hl k hk; have := HGR.out; simp; omega) (.int .u8 (rawI y))
          have M9 := M8.setCell (p := ⟨g, 1 + o, none⟩) (.inr (by have := HGR.out; simp; omega)) (.int .u8 (rawI y))
          have R9 := heap_setCell_ne (a := ⟨g, 1 + o, none⟩) (v := .int .u8 (rawI y)) R8 (by simp; omega)
          have O9 := heap_setCell_ne (a := ⟨g, 1 + o, none⟩) (v := .int .u8 (rawI y)) O8 (by simp; omega)
          have G9 := heap_setCell (i := 1 + o) (v := .int .u8 (rawI y)) G8
          rw [thsCells_set m R ho (rawI y)] at G9
          generalize w8.setCell ⟨g, 1 + o, none⟩ (.int .u8 (rawI y)) = w9 at D9 M9 R9 O9 G9 ⊢
          clear D8 M8 R8 G8 O8 c2 cf
          refine (next_ok w9 b v L n6 D9 36 (by omega) (by omega)).mono ?_
          rintro e w10 ⟨d, n10, rfl, d0, d1, D10, M10⟩
          have TS := Lib.hid (T6.out.put (R' := fun i => if i = o then rawI y else R i) (N' := fun i => numI sgn ((fun i => if i = o then rawI y else R i) i)) (d := d) hlt
            (fun i => by show (if i = o then rawI y else R i) < 256; split; exact rawI_lt _; exact T6.out.rng i) (fun i hi => by rw [← HO.out] at hi; simp [hi])
            (by rw [← HO.out, HX.out]; simp only [if_true]; exact num_raw (by omega) (by omega)) (fun i hi => by rw [← HO.out] at hi; simp [hi]) d0 (by omega) (by rw [← HO.out]; exact HBB.out))
          rw [HX.out] at TS
          have R10 := M10.heap R9 (by simp; omega)
          have O10 := M10.heap O9 (by simp; omega)
          have G10 := M10.heap G9 (by simp; omega)
          have MM := Lib.hid (M9.trans M10)
          clear M9 M10 R9 O9 G9 D9
          go_wp2
          exact ⟨⟨k + 1, n10, y + d, _, by omega, by go_num, rfl, D10, MM.out, R10, G10, O10, TS.out⟩, by simp only [intOf]; omega⟩
    · have hk6 : k = 6 := by omega
      subst hk6
      have HT := Lib.hid T6.out.fin
      have HR := Lib.hid T6.out.rng
      have cs : ∀ i, wr.cell? ⟨g, i, none⟩ = (thsCells m R)[i]? := fun i => cell_blk G6 i
      have s0 : wr.cell? ⟨g, 0, none⟩ = some (.int .u8 m) := cs 0
      have s1 : wr.cell? ⟨g, 1, none⟩ = some (.int .u8 (R 0)) := cs 1
      have s2 : wr.cell? ⟨g, 2, none⟩ = some (.int .u8 (R 1)) := cs 2
      have s3 : wr.cell? ⟨g, 3, none⟩ = some (.int .u8 (R 2)) := cs 3
      have s4 : wr.cell? ⟨g, 4, none⟩ = some (.int .u8 (R 3)) := cs 4
      have s5 : wr.cell? ⟨g, 5, none⟩ = some (.int .u8 (R 4)) := cs 5
      have s6 : wr.cell? ⟨g, 6, none⟩ = some (.int .u8 (R 5)) := cs 6
      have u0 : wr.cell? ⟨gr, 0, none⟩ = some (.int .u8 0) := cell_blk R6 0
      have u1 : wr.cell? ⟨gr, 1, none⟩ = some (.int .u8 0) := cell_blk R6 1
      have u2 : wr.cell? ⟨gr, 2, none⟩ = some (.int .u8 0) := cell_blk R6 2
      have u3 : wr.cell? ⟨gr, 3, none⟩ = some (.int .u8 0) := cell_blk R6 3
      have u4 : wr.cell? ⟨gr, 4, none⟩ = some (.int .u8 0) := cell_blk R6 4
      have u5 : wr.cell? ⟨gr, 5, none⟩ = some (.int .u8 0) := cell_blk R6 5
      have u6 : wr.cell? ⟨gr, 6, none⟩ = some (.int .u8 0) := cell_blk R6 6
      have uf := fun i => froz_blk R6 i
      have DD := Lib.hid D6
      have MM := Lib.hid M6
      have RR := Lib.hid R6
      clear cs D6 M6 R6 G6 O6 T6
      go_wp2_with fail
      have G := heap_setCell (i := 6) (v := .int .u8 (R 5)) (heap_setCell (i := 5) (v := .int .u8 (R 4)) (heap_setCell (i := 4) (v := .int .u8 (R 3)) (heap_setCell (i := 3) (v := .int .u8 (R 2)) (heap_setCell (i := 2) (v := .int .u8 (R 1)) (heap_setCell (i := 1) (v := .int .u8 (R 0)) (heap_setCell (i := 0) (v := .int .u8 m) RR.out))))))
      have HB : gr ≠ b := by omega
      have HV : L ≠ [] → ∀ k, v.ownBlock = some k → k ≠ gr := fun hl k hk => by have := hv.out hl k hk; have := HGR.out; omega
      have HM : ∀ (i : Nat) (u : Value) (W : World), Mods [b] w W → Mods [b] w (W.setCell ⟨gr, i, none⟩ u) := fun i u W h => h.setCell (.inr (by have := HGR.out; simp; omega)) u
      have HD : ∀ (i : Nat) (u : Value) (W : World), IsDice W b v L n6 → IsDice (W.setCell ⟨gr, i, none⟩ u) b v L n6 := fun i u W h => h.set (by simp; omega) HV u
      refine bodyPost_ret (results_cell_row rfl _ _ gr _ _ _ _ rfl G Tryz.underlying37 rfl (by kernel_rfl)) rfl ?_
      exact ⟨m, n6, R, rfl, hm, HR.out, HT.out.1, HT.out.2, HD _ _ _ (HD _ _ _ (HD _ _ _ (HD _ _ _ (HD _ _ _ (HD _ _ _ (HD _ _ _ DD.out)))))), HM _ _ _ (HM _ _ _ (HM _ _ _ (HM _ _ _ (HM _ _ _ (HM _ _ _ (HM _ _ _ MM.out))))))⟩
end Go.Proofs.YtijjkonephjodaaGreatDoor

namespace Go.Proofs.YtijjkonephjodaaGreatDoor
open Go.RowKit

def ptsCells (P : List Pt) : List Value := P.flatMap fun p => [.int .u8 p.raw, .int .i64 p.val]
theorem ptsCells_length (P : List Pt) : (ptsCells P).length = P.length * 2 := by
  induction P with
  | nil => rfl
  | cons p P ih => simp only [ptsCells, List.flatMap_cons, List.length_append, List.length_cons, List.length_nil] at ih ⊢; omega
theorem ptsCells_snoc (P : List Pt) (p : Pt) : ptsCells (P ++ [p]) = ptsCells P ++ [.int .u8 p.raw, .int .i64 p.val] := by simp [ptsCells]
theorem ptsCells_get (P : List Pt) : ∀ i, i < P.length → (ptsCells P)[i * 2]? = some (.int .u8 (P.getD i default).raw) ∧ (ptsCells P)[i * 2 + 1]? = some (.int .i64 (P.getD i default).val) := by
  induction P with
  | nil => intro i hi; simp at hi
  | cons p P ih =>
    intro i hi
    match i with
    | 0 => exact ⟨rfl, rfl⟩
    | i + 1 =>
      have := ih i (by simpa using hi)
      have e : ptsCells (p :: P) = .int .u8 p.raw :: .int .i64 p.val :: ptsCells P := rfl
      rw [e, show (i + 1) * 2 = i * 2 + 1 + 1 by omega]
      simpa [List.getD_cons_succ] using this
/-- The slice v is the call's own from block B on and holds the points P. -/
def OwnPts (w : World) (B : Nat) (v : Value) (P : List Pt) : Prop := w.ownsRow B 117 2 v P.length (ptsCells P)
theorem OwnPts.rd {w : World} {B : Nat} {v : Value} {P : List Pt} (h : OwnPts w B v P) : RdPts w v P := by
  obtain ⟨hl, h⟩ := h
  rcases h with ⟨rfl, h0⟩ | ⟨g, cap, cur, rfl, _, hg, h1, h2, h3, h4⟩
  · have : P = [] := List.eq_nil_of_length_eq_zero h0
    subst this
    exact RdPts.nil w
  · refine ⟨_, cap, rfl, h1, h2, fun i hi => ⟨g, 0, rfl, ?_⟩⟩
    have ⟨a, b⟩ := ptsCells_get P i hi
    rw [cell_blk hg, cell_blk hg]
    rw [← h4] at a b
    rw [List.getElem?_take, if_pos (by omega)] at a b
    constructor
    · rw [← a]; simp
    · rw [← b, show 0 + i * 2 + 1 = i * 2 + 1 by omega]; simp
theorem OwnPts.mods {S : List Nat} {w w' : World} {B : Nat} {v : Value} {P : List Pt} (h : OwnPts w B v P) (hm : Mods S w w') (hS : ∀ k ∈ S, k < B) : OwnPts w' B v P :=
  hm.owns h fun k hk hk2 => by have := (World.ownsRow.lt h k hk).1; have := hS k hk2; omega
theorem OwnPts.own {w : World} {B : Nat} {v : Value} {P : List Pt} (h : OwnPts w B v P) : ∀ k, v.ownBlock = some k → B ≤ k ∧ k < w.heap.size := fun k hk => ⟨(World.ownsRow.lt h k hk).1, (World.ownsRow.lt h k hk).2⟩
theorem OwnPts.form {w : World} {B : Nat} {v : Value} {P : List Pt} (h : OwnPts w B v P) (hl : 0 < P.length) : ∃ g cap, v = .slice (some ⟨g, 0, none⟩) P.length cap := by
  obtain ⟨g, cap, _, rfl, _⟩ := owns_form h hl
  exact ⟨g, cap, rfl⟩
theorem OwnPts.down {w : World} {B B' : Nat} {v : Value} {P : List Pt} (h : OwnPts w B v P) (hB : B' ≤ B) : OwnPts w B' v P := by
  obtain ⟨hl, h⟩ := h
  refine ⟨hl, ?_⟩
  rcases h with h | ⟨g, cap, cur, hv, hg, rest⟩
  · exact .inl h
  · exact .inr ⟨g, cap, cur, hv, by omega, rest⟩
theorem OwnPts.nil (w : World) (B : Nat) : OwnPts w B (.slice none 0 0) [] := World.ownsRow_nil _ _ _ _
theorem Tryz.infoP : (Tryz.prog.info? 117).map (fun i => (i.zero, i.size, i.bytes)) = some (some (.agg #[.int .u8 0, .int .i64 0]), 2, 16) := by kernel_rfl
/-- append of one point within a region that draws its order. -/
theorem step_pushP {ops : Array Oper} {o : Oper} {a : Act} {w : World} {K : Act → World → Prop} {Q : Exit → Act → World → Prop} {E : Prop} (hgd : o.guard = none) (s x : Operand)
    (ho : o.op = .call { callee := .builtin .append, args := #[s, x], argTypes := #[32, 32] })
    (B : Nat) (v : Value) (P : List Pt) (hs : a.eval s = v) (hown : OwnPts w B v P) (g : Nat) (p : Pt) (T : TypeId) (fr : Nat × Nat) (hg : w.heap[g]? = some (.cells #[.int .u8 p.raw, .int .i64 p.val] T fr)) (hx : a.eval x = .slice (some ⟨g, 0, none⟩) 1 1)
    (hn : P.length ≤ 1000000) (hbase : B ≤ w.heap.size)
    (h : ∀ v' w', OwnPts w' B v' (P ++ [p]) → Mods (from_ B w) w w' → K (a.put o.dst v') w') :
    if Region.wanted o (yielded ops a.tmps) = true then Oper.wp Tryz.prog o a w K Q else E := by
  obtain ⟨i0, hi, hz0, hz1, hz2⟩ := info_parts Tryz.infoP
  refine step_append_lies _ hgd s x _ ho B 117 i0 _ 2 16 Tryz.underlying32 hi hz0 hz1 hz2 rfl (by decide) v P.length (ptsCells P) hs hown ⟨g, 0, none⟩ 1 1 [.int .u8 p.raw, .int .i64 p.val] hx rfl ?_ (by intro u hu; simp at hu; rcases hu with rfl | rfl <;> rfl) (by decide) (by unfold maxLen; omega) (by omega) hbase w.heap.size rfl ?_
  · intro j u hj
    exact World.news_of_block (cs := #[.int .u8 p.raw, .int .i64 p.val]) (t := T) (fr := fr) hg j u hj
  · intro g' cap w' h1 h2 _ _
    refine h _ _ ?_ (Mods.of_from ((Below.refl B w).grown h2 hbase fun k hk => (World.ownsRow.lt hown k hk).1))
    unfold OwnPts
    rw [ptsCells_snoc, List.length_append]
    exact h1
/-- A table under way: its points are in order, and the next number is x. -/
structure TabIn (sgn : Bool) (P : List Pt) (x : Int) : Prop where
  x0 : leastI sgn ≤ x
  x1 : x ≤ leastI sgn + 39 + 18 * P.length
  raw : ∀ i, (P.getD i default).raw < 256
  val : ∀ i, -1000000000000 ≤ (P.getD i default).val ∧ (P.getD i default).val ≤ 1000000000000
  pt : ∀ i, i < P.length → ptB sgn P i = true
  last : 0 < P.length → numI sgn (P.getD (P.length - 1) default).raw < x
theorem TabIn.start {sgn : Bool} {x : Int} (h0 : leastI sgn ≤ x) (h1 : x ≤ leastI sgn + 39) : TabIn sgn [] x :=
  ⟨h0, by simp; omega, fun i => by simp [default], fun i => by simp [default], fun i hi => by simp at hi, fun h => by simp at h⟩
theorem getD_snoc (P : List Pt) (p : Pt) (i : Nat) : (P ++ [p]).getD i default = if i < P.length then P.getD i default else if i = P.length then p else default := by
  rcases Nat.lt_trichotomy i P.length with h | h | h
  · rw [if_pos h]; simp [List.getD_eq_getElem?_getD, List.getElem?_append_left h]
  · subst h; simp [List.getD_eq_getElem?_getD]
  · rw [if_neg (by omega), if_neg (by omega)]; simp [List.getD_eq_getElem?_getD]; rw [List.getElem?_eq_none (by simp; omega)]; rfl
theorem TabIn.push {sgn : Bool} {P : List Pt} {x d val : Int} (h : TabIn sgn P x) (hl : P.length ≤ 11) (hv : -1000000000000 ≤ val ∧ val ≤ 1000000000000) (d0 : 1 ≤ d) (d1 : d ≤ 18) : TabIn sgn (P ++ [⟨rawI x, val⟩]) (x + d) := by
  have hx0 := h.x0
  have hx1 := h.x1
  have hnum : numI sgn (rawI x) = x := num_raw hx0 (by omega)
  have hlt := rawI_lt x
  refine ⟨by omega, by simp; omega, fun i => ?_, fun i => ?_, fun i hi => ?_, fun _ => ?_⟩
  · rw [getD_snoc]; split
    · exact h.raw i
    · split
      · exact hlt
      · simp [default]
  · rw [getD_snoc]; split
    · exact h.val i
    · split
      · exact hv
      · simp [default]
  · simp at hi
    unfold ptB
    rw [getD_snoc, getD_snoc]
    rcases Nat.lt_or_ge i P.length with hi2 | hi2
    · rw [if_pos hi2, if_pos (show i - 1 < P.length by omega)]
      exact h.pt i hi2
    · obtain rfl : i = P.length := by omega
      rw [if_neg (by omega), if_pos rfl, decide_eq_true hv, Bool.true_and, Bool.or_eq_true]
      by_cases h0 : P.length = 0
      · exact .inl (by simpa using h0)
      · refine .inr ?_
        rw [if_pos (by omega), decide_eq_true_eq]
        have := h.last (by omega)
        simp only [hnum]
        exact this
  · rw [List.length_append, show P.length + [(⟨rawI x, val⟩ : Pt)].length - 1 = P.length from rfl, getD_snoc, if_neg (by omega), if_pos rfl]
    show numI sgn (rawI x) < _
    omega
theorem TabIn.tab {sgn : Bool} {P : List Pt} {x : Int} (h : TabIn sgn P x) (h2 : 2 ≤ P.length) (h12 : P.length ≤ 12) : tableB sgn P = true := by
  unfold tableB
  rw [decide_eq_true ⟨h2, h12⟩, Bool.true_and, List.all_eq_true]
  exact fun i hi => h.pt i (List.mem_range.1 hi)
theorem TabIn.ok {sgn : Bool} {P : List Pt} {x : Int} (h : TabIn sgn P x) (h12 : P.length ≤ 1000) : PtsOk P :=
  ⟨h12, h.raw, fun i => by have := h.val i; constructor <;> omega⟩
theorem PtsOk.nil : PtsOk [] := ⟨by simp, fun i => by simp [default], fun i => by simp [default, I64]⟩
/-- A conversion of the dice. -/
def MadeConv (w : World) (b : Nat) (v : Value) (L : List Int) (e : Ending) (w' : World) : Prop :=
  ∃ (C : Conv) (P : List Pt) (n : Nat), e = .returned (.agg C.cells) ∧ IsConv w' C P ∧ convB C P = true ∧ OwnPts w' w.heap.size C.pts P ∧ P.length ≤ 12 ∧ IsDice w' b v L n ∧ Mods [b] w w'
end Go.Proofs.YtijjkonephjodaaGreatDoor

namespace Go.Proofs.YtijjkonephjodaaGreatDoor
open Go.RowKit

def setAll : Array Value → Nat → List Value → Array Value
  | c, _, [] => c
  | c, o, v :: r => setAll (c.setIfInBounds o v) (o + 1) r
theorem heap_setCells {b : Nat} {T : TypeId} : ∀ (vs : List Value) (o : Nat) (w : World) (c : Array Value), w.heap[b]? = some (.cells c T (0, 0)) → (w.setCells b o vs).heap[b]? = some (.cells (setAll c o vs) T (0, 0))
  | [], _, _, _, h => h
  | _ :: r, o, _, _, h => heap_setCells r (o + 1) _ _ (heap_setCell h)
theorem size_setAll : ∀ (vs : List Value) (c : Array Value) (o : Nat), (setAll c o vs).size = c.size
  | [], _, _ => rfl
  | _ :: r, c, o => by rw [setAll, size_setAll r]; simp
theorem get_setAll : ∀ (vs : List Value) (c : Array Value) (o i : Nat), i < c.size → (setAll c o vs)[i]? = if o ≤ i ∧ i < o + vs.length then vs[i - o]? else c[i]?
  | [], c, o, i, _ => by rw [setAll, if_neg (by simp)]
  | v :: r, c, o, i, hi => by
    rw [setAll, get_setAll r _ _ _ (by simpa using hi)]
    by_cases h : i = o
    · subst h
      rw [if_neg (by omega), if_pos (by simp)]
      simp [hi]
    · by_cases h2 : o + 1 ≤ i ∧ i < o + 1 + r.length
      · rw [if_pos h2, if_pos (by simp; omega), show i - o = i - (o + 1) + 1 by omega]; rfl
      · rw [if_neg h2, if_neg (by simp; omega), Array.getElem?_setIfInBounds_ne (by omega)]
theorem setAll_whole {c cs : Array Value} (h : c.size = cs.size) : setAll c 0 cs.toList = cs := by
  refine Array.ext_getElem? fun i => ?_
  rcases Nat.lt_or_ge i c.size with hi | hi
  · rw [get_setAll _ _ _ _ hi, if_pos (by simp; omega)]; simp
  · rw [Array.getElem?_eq_none (by rw [size_setAll]; exact hi), Array.getElem?_eq_none (by omega)]
theorem Mods.setCells {b : Nat} : ∀ (vs : List Value) (o : Nat) (w : World), Mods [b] w (w.setCells b o vs)
  | [], _, _ => Mods.refl
  | v :: r, o, w => (Mods.refl.setCell (p := ⟨b, o, none⟩) (.inl (by simp)) v).trans (Mods.setCells r (o + 1) _)
/-- A struct stored whole into its block; the world behind it is a letter. -/
theorem wpList_store_row {P : Program} {ops : Array Oper} {rest : List Oper} {o : Oper} {a : Act} {w : World} {Q : Exit → Act → World → Prop} (hgd : o.guard = none) (ty : TypeId) (x y : Operand) (ho : o.op = .store ty x y)
    {g : Nat} {c0 cs : Array Value} {T : TypeId} (hg : w.heap[g]? = some (.cells c0 T (0, 0))) (hx : a.eval x = .pointer (some ⟨g, 0, none⟩)) (hy : a.eval y = .agg cs) (hs : c0.size = cs.size)
    (hi : (P.info? ty).map (·.size) = some cs.size) (h1 : cs.all (·.oneCell') = true) (h : ∀ W, W.heap[g]? = some (.cells cs T (0, 0)) → Mods [g] w W → wpList P ops Q rest (a.put o.dst undef) W) : wpList P ops Q (o :: rest) a w := by
  refine wpList_store_mid hgd ty x y ho g 0 cs hx hy ?_ hi h1 (h _ ?_ (Mods.setCells _ _ _))
  · intro j hj
    refine ⟨?_, froz_blk hg _⟩
    rw [cell_blk hg, Nat.zero_add, Array.getElem?_eq_getElem (by omega)]
    rfl
  · rw [heap_setCells _ _ _ _ hg, setAll_whole hs]

/-- A struct under way at gc, the result's block gr, the dice at b. -/
structure Bld (w0 w : World) (b : Nat) (v : Value) (L : List Int) (n : Nat) (T : TypeId) (gr gc : Nat) (cr cc : Array Value) : Prop where
  D : IsDice w b v L n
  M : Mods [b] w0 w
  R : w.heap[gr]? = some (.cells cr T (0, 0))
  G : w.heap[gc]? = some (.cells cc T (0, 0))
  hb : b < w0.heap.size
  hr : w0.heap.size ≤ gr
  hc : w0.heap.size ≤ gc
  ne : gr ≠ gc
  hv : L ≠ [] → ∀ k, v.ownBlock = some k → k < w0.heap.size
section
variable {w0 w w' : World} {b n n' : Nat} {v : Value} {L : List Int} {T : TypeId} {gr gc : Nat} {cr cc : Array Value}
theorem Bld.dice (h : Bld w0 w b v L n T gr gc cr cc) (D : IsDice w' b v L n') (M : Mods [b] w w') : Bld w0 w' b v L n' T gr gc cr cc :=
  ⟨D, h.M.trans M, M.heap h.R (by have := h.hb; have := h.hr; simp; omega), M.heap h.G (by have := h.hb; have := h.hc; simp; omega), h.hb, h.hr, h.hc, h.ne, h.hv⟩
theorem Bld.mods0 (h : Bld w0 w b v L n T gr gc cr cc) (M : Mods [] w w') : Bld w0 w' b v L n T gr gc cr cc := h.dice (h.D.mods0 M) M.nil
theorem Bld.mods {S : List Nat} (h : Bld w0 w b v L n T gr gc cr cc) (M : Mods S w w') (hS : ∀ k ∈ S, w0.heap.size ≤ k ∧ k ≠ gr ∧ k ≠ gc) : Bld w0 w' b v L n T gr gc cr cc :=
  ⟨h.D.mods M (fun hk => by have := (hS _ hk).1; have := h.hb; omega) (fun hl k hk hk2 => by have := h.hv hl k hk; have := (hS _ hk2).1; omega), h.M.comp M fun k hk => .inr (hS k hk).1,
    M.heap h.R (fun hk => (hS _ hk).2.1 rfl), M.heap h.G (fun hk => (hS _ hk).2.2 rfl), h.hb, h.hr, h.hc, h.ne, h.hv⟩
theorem Bld.set (h : Bld w0 w b v L n T gr gc cr cc) (i : Nat) (u : Value) : Bld w0 (w.setCell ⟨gc, i, none⟩ u) b v L n T gr gc cr (cc.setIfInBounds i u) :=
  ⟨h.D.set (by have := h.hb; have := h.hc; simp; omega) (fun hl k hk => by have := h.hv hl k hk; have := h.hc; simp; omega) u, h.M.setCell (.inr h.hc) u, heap_setCell_ne h.R h.ne, heap_setCell h.G, h.hb, h.hr, h.hc, h.ne, h.hv⟩
theorem Bld.fin (h : Bld w0 w b v L n T gr gc cr cc) {cs : Array Value} (R : w'.heap[gr]? = some (.cells cs T (0, 0))) (M : Mods [gr] w w') : Bld w0 w' b v L n T gr gc cs cc :=
  ⟨h.D.mods M (by have := h.hb; have := h.hr; simp; omega) (fun hl k hk hk2 => by have := h.hv hl k hk; have := h.hr; simp at hk2; omega), h.M.comp M (fun k hk => by simp at hk; subst hk; exact .inr h.hr), R, M.heap h.G (by simpa using h.ne.symm), h.hb, h.hr, h.hc, h.ne, h.hv⟩
theorem Bld.c (h : Bld w0 w b v L n T gr gc cr cc) (i : Nat) : w.cell? ⟨gc, i, none⟩ = cc[i]? := cell_blk h.G i
theorem Bld.f (h : Bld w0 w b v L n T gr gc cr cc) (i : Nat) : w.frozen? ⟨gc, i, none⟩ = false := froz_blk h.G i
end
end Go.Proofs.YtijjkonephjodaaGreatDoor

namespace Go.Proofs.YtijjkonephjodaaGreatDoor
open Go.RowKit

theorem Tryz.infoC : (Tryz.prog.info? 34).map (·.size) = some 7 := by kernel_rfl
def cvC (form : Int) (sgn : Bool) (m b k1 k2 : Int) (v : Value) : Array Value := #[.int .i64 form, .bool sgn, .int .i64 m, .int .i64 b, .int .i64 k1, .int .i64 k2, v]
theorem i64_small {x : Int} (h : -1000000 ≤ x ∧ x ≤ 1000000) : I64 x := ⟨by omega, by omega⟩
theorem cvC_one (form : Int) (sgn : Bool) (m b k1 k2 : Int) (ad : Option Addr) (l c : Nat) : (cvC form sgn m b k1 k2 (.slice ad l c)).all (·.oneCell') = true := by
  simp [cvC, Value.oneCell']
set_option maxRecDepth 100000 in
set_option maxHeartbeats 4000000 in
theorem conversion_ok (w : World) (b : Nat) (v : Value) (L : List Int) (n : Nat) (h : IsDice w b v L n) :
    Calls Tryz.prog 96 #[.pointer (some ⟨b, 0, none⟩)] w fun e w' => MadeConv w b v L e w' := by
  have hbl := h.lt
  have H := Lib.hid h
  have hv := Lib.hid h.vlt
  clear h
  go_enter Tryz.func96, Tryz.ntmps96
  go_wp2_with fail
  have M1 := (Mods.refl (S := []) (w := w)).alloc (.cells #[.int .i64 0, .bool false, .int .i64 0, .int .i64 0, .int .i64 0, .int .i64 0, .slice none 0 0] 34)
  have R1 : (w.alloc (.cells #[.int .i64 0, .bool false, .int .i64 0, .int .i64 0, .int .i64 0, .int .i64 0, .slice none 0 0] 34)).heap[w.heap.size]? = some (.cells (cvC 0 false 0 0 0 0 (.slice none 0 0)) 34 (0, 0)) := heap_alloc_new _ _
  have Z1 : (w.alloc (.cells #[.int .i64 0, .bool false, .int .i64 0, .int .i64 0, .int .i64 0, .int .i64 0, .slice none 0 0] 34)).heap.size = w.heap.size + 1 := by simp
  generalize w.alloc (.cells #[.int .i64 0, .bool false, .int .i64 0, .int .i64 0, .int .i64 0, .int .i64 0, .slice none 0 0] 34) = w1 at M1 R1 Z1 ⊢
  generalize hgr : w.heap.size = gr at R1 Z1 hbl ⊢
  have HGR := Lib.hid hgr
  clear hgr
  have D1 := H.out.mods0 M1
  refine (next_ok w1 b v L n D1 5 (by omega) (by omega)).mono ?_
  rintro e w2 ⟨f, n2, rfl, f0, f1, D2, M2⟩
  go_wp2_with fail
  refine (bool_ok w2 b v L n2 D2 2 (by omega) (by omega)).mono ?_
  rintro e w3 ⟨sgn, n3, rfl, D3, M3⟩
  have R3 := M3.heap (M2.heap R1 (by simp; omega)) (by simp; omega)
  have MM := (M1.nil (S := [b])).trans (M2.trans M3)
  have Z3 := M2.size
  have Z3b := M3.size
  clear D1 D2 M1 M2 M3 R1
  have hne5 : ((1 + f != 5) = true ∧ f ≤ 3) ∨ ((1 + f != 5) = false ∧ f = 4) := by
    by_cases hf : f = 4
    · exact .inr ⟨by simp [hf], hf⟩
    · exact .inl ⟨by simp; omega, by omega⟩
  rcases hne5 with ⟨e5, hf⟩ | ⟨e5, hf⟩
  · have G3 : (w3.alloc (.cells (cvC (1 + f) sgn 0 0 0 0 (.slice none 0 0)) 34)).heap[w3.heap.size]? = some (.cells (cvC (1 + f) sgn 0 0 0 0 (.slice none 0 0)) 34 (0, 0)) := heap_alloc_new _ _
    have MA := (Mods.refl (S := []) (w := w3)).alloc (.cells (cvC (1 + f) sgn 0 0 0 0 (.slice none 0 0)) 34)
    have B4 : Bld w (w3.alloc (.cells (cvC (1 + f) sgn 0 0 0 0 (.slice none 0 0)) 34)) b v L n3 34 gr w3.heap.size (cvC 0 false 0 0 0 0 (.slice none 0 0)) (cvC (1 + f) sgn 0 0 0 0 (.slice none 0 0)) :=
      ⟨D3.mods0 MA, MM.trans MA.nil, heap_alloc R3, G3, by have := HGR.out; omega, by have := HGR.out; omega, by have := HGR.out; omega, by omega, hv.out⟩
    clear MM R3 G3 MA D3
    have HB := Lib.hid B4
    have c0 : (w3.alloc (.cells (cvC (1 + f) sgn 0 0 0 0 (.slice none 0 0)) 34)).cell? ⟨w3.heap.size, 0, none⟩ = some (.int .i64 (1 + f)) := B4.c 0
    clear B4
    go_wp2_with fail
    have e : w3.alloc (.cells (cvC (1 + f) sgn 0 0 0 0 (.slice none 0 0)) 34) = w3.alloc (.cells #[.int .i64 (1 + f), .bool sgn, .int .i64 0, .int .i64 0, .int .i64 0, .int .i64 0, .slice none 0 0] 34) := rfl
    rw [e] at HB c0
    clear e
    generalize w3.alloc (.cells #[.int .i64 (1 + f), .bool sgn, .int .i64 0, .int .i64 0, .int .i64 0, .int .i64 0, .slice none 0 0] 34) = w4 at HB c0 ⊢
    generalize w3.heap.size = gc at HB c0 ⊢
    clear c0
    refine (next_ok w4 b v L _ HB.out.D 1024 (by omega) (by omega)).mono ?_
    rintro e w5 ⟨rm, n5, rfl, rm0, rm1, Dx, Mx⟩
    have HB := Lib.hid (HB.out.dice Dx Mx)
    have cx : w5.cell? ⟨gc, 2, none⟩ = some (.int .i64 0) := HB.out.c 2
    have fx : w5.frozen? ⟨gc, 2, none⟩ = false := HB.out.f 2
    clear Dx Mx
    go_wp2_with fail
    have HB := Lib.hid (HB.out.set 2 (.int .i64 (rm - 512)))
    clear cx fx
    generalize w5.setCell ⟨gc, 2, none⟩ (.int .i64 (rm - 512)) = w6 at HB ⊢
    refine (next_ok w6 b v L _ HB.out.D 1024 (by omega) (by omega)).mono ?_
    rintro e w7 ⟨rb, n7, rfl, rb0, rb1, Dx, Mx⟩
    have HB := Lib.hid (HB.out.dice Dx Mx)
    have cx : w7.cell? ⟨gc, 3, none⟩ = some (.int .i64 0) := HB.out.c 3
    have fx : w7.frozen? ⟨gc, 3, none⟩ = false := HB.out.f 3
    clear Dx Mx
    go_wp2_with fail
    have HB := Lib.hid (HB.out.set 3 (.int .i64 (rb - 512)))
    clear cx fx
    generalize w7.setCell ⟨gc, 3, none⟩ (.int .i64 (rb - 512)) = w8 at HB ⊢
    refine (bool_ok w8 b v L _ HB.out.D 2 (by omega) (by omega)).mono ?_
    rintro e w9 ⟨q, n9, rfl, D9, M9⟩
    have HB := Lib.hid (HB.out.dice D9 M9)
    clear D9 M9
    cases q with
    | false =>
      go_wp2_with fail
      refine (next_ok w9 b v L _ HB.out.D 7 (by omega) (by omega)).mono ?_
      rintro e w15 ⟨rk, n15, rfl, rk0, rk1, Dx, Mx⟩
      have HB := Lib.hid (HB.out.dice Dx Mx)
      have cx : w15.cell? ⟨gc, 4, none⟩ = some (.int .i64 0) := HB.out.c 4
      have fx : w15.frozen? ⟨gc, 4, none⟩ = false := HB.out.f 4
      clear Dx Mx
      go_wp2_with fail
      have HB := Lib.hid (HB.out.set 4 (.int .i64 (rk - 3)))
      clear cx fx
      generalize w15.setCell ⟨gc, 4, none⟩ (.int .i64 (rk - 3)) = w16 at HB ⊢
      refine (next_ok w16 b v L _ HB.out.D 7 (by omega) (by omega)).mono ?_
      rintro e w17 ⟨rl, n17, rfl, rl0, rl1, D17, M17⟩
      have HB := Lib.hid (HB.out.dice D17 M17)
      have cx : w17.cell? ⟨gc, 5, none⟩ = some (.int .i64 0) := HB.out.c 5
      have fx : w17.frozen? ⟨gc, 5, none⟩ = false := HB.out.f 5
      clear D17 M17
      have HB : Hid (Bld w (w17.setCell ⟨gc, 5, none⟩ (.int .i64 (rl - 3))) b v L n17 34 gr gc (cvC 0 false 0 0 0 0 (.slice none 0 0)) (cvC (1 + f) sgn (rm-512) (rb-512) (rk - 3) (rl - 3) (.slice none 0 0))) := Lib.hid (HB.out.set 5 (.int .i64 (rl - 3)))
      go_wp2_with (first
        | (refine wpList_load_row rfl 34 (.tmp 3) rfl gc (by rfl) _ _ _ _ HB.out.G Tryz.underlying34 rfl Tryz.infoC ?_)
        | (refine wpList_store_row (cs := cvC (1 + f) sgn (rm-512) (rb-512) (rk - 3) (rl - 3) (.slice none 0 0)) rfl 34 (.tmp 2) (.tmp 42) rfl HB.out.R (by rfl) (by rfl) rfl Tryz.infoC (cvC_one _ _ _ _ _ _ _ _ _) ?_; intro w19 R19 M19))
      have HB := Lib.hid (HB.out.fin R19 M19)
      clear R19 M19
      refine bodyPost_ret (results_cell_row rfl _ _ gr _ _ _ _ rfl HB.out.R Tryz.underlying34 rfl Tryz.infoC) rfl ?_
      refine ⟨⟨1 + f, sgn, (rm-512), (rb-512), rk - 3, rl - 3, .slice none 0 0⟩, [], n17, rfl, ⟨RdPts.nil _, PtsOk.nil, ?_, ?_, ?_, ?_, ?_⟩, ?_, OwnPts.nil _ _, by simp, HB.out.D, HB.out.M⟩
      · exact i64_small (x := 1 + f) ⟨by omega, by omega⟩
      · exact i64_small (x := (rm-512)) ⟨by omega, by omega⟩
      · exact i64_small (x := (rb-512)) ⟨by omega, by omega⟩
      · exact i64_small (x := rk - 3) ⟨by omega, by omega⟩
      · exact i64_small (x := rl - 3) ⟨by omega, by omega⟩
      · rw [convB, if_pos (show 1 ≤ 1 + f ∧ 1 + f ≤ 4 by omega)]
        simp [facB, powB]
        omega
    | true =>
      go_wp2_with fail
      refine (next_ok w9 b v L _ HB.out.D 21 (by omega) (by omega)).mono ?_
      rintro e w10 ⟨rc, n10, rfl, rc0, rc1, Dx, Mx⟩
      have HB := Lib.hid (HB.out.dice Dx Mx)
      have cx : w10.cell? ⟨gc, 2, none⟩ = some (.int .i64 (rm-512)) := HB.out.c 2
      have fx : w10.frozen? ⟨gc, 2, none⟩ = false := HB.out.f 2
      clear Dx Mx
      go_wp2_with fail
      have HB := Lib.hid (HB.out.set 2 (.int .i64 (rc - 10)))
      clear cx fx
      generalize w10.setCell ⟨gc, 2, none⟩ (.int .i64 (rc - 10)) = w11 at HB ⊢
      refine (next_ok w11 b v L _ HB.out.D 41 (by omega) (by omega)).mono ?_
      rintro e w12 ⟨rd, n12, rfl, rd0, rd1, Dx, Mx⟩
      have HB := Lib.hid (HB.out.dice Dx Mx)
      have cx : w12.cell? ⟨gc, 3, none⟩ = some (.int .i64 (rb-512)) := HB.out.c 3
      have fx : w12.frozen? ⟨gc, 3, none⟩ = false := HB.out.f 3
      clear Dx Mx
      go_wp2_with fail
      have HB := Lib.hid (HB.out.set 3 (.int .i64 (rd - 20)))
      clear cx fx
      generalize w12.setCell ⟨gc, 3, none⟩ (.int .i64 (rd - 20)) = w13 at HB ⊢
      refine (next_ok w13 b v L _ HB.out.D 7 (by omega) (by omega)).mono ?_
      rintro e w15 ⟨rk, n15, rfl, rk0, rk1, Dx, Mx⟩
      have HB := Lib.hid (HB.out.dice Dx Mx)
      have cx : w15.cell? ⟨gc, 4, none⟩ = some (.int .i64 0) := HB.out.c 4
      have fx : w15.frozen? ⟨gc, 4, none⟩ = false := HB.out.f 4
      clear Dx Mx
      go_wp2_with fail
      have HB := Lib.hid (HB.out.set 4 (.int .i64 (rk - 3)))
      clear cx fx
      generalize w15.setCell ⟨gc, 4, none⟩ (.int .i64 (rk - 3)) = w16 at HB ⊢
      refine (next_ok w16 b v L _ HB.out.D 7 (by omega) (by omega)).mono ?_
      rintro e w17 ⟨rl, n17, rfl, rl0, rl1, D17, M17⟩
      have HB := Lib.hid (HB.out.dice D17 M17)
      have cx : w17.cell? ⟨gc, 5, none⟩ = some (.int .i64 0) := HB.out.c 5
      have fx : w17.frozen? ⟨gc, 5, none⟩ = false := HB.out.f 5
      clear D17 M17
      have HB : Hid (Bld w (w17.setCell ⟨gc, 5, none⟩ (.int .i64 (rl - 3))) b v L n17 34 gr gc (cvC 0 false 0 0 0 0 (.slice none 0 0)) (cvC (1 + f) sgn (rc-10) (rd-20) (rk - 3) (rl - 3) (.slice none 0 0))) := Lib.hid (HB.out.set 5 (.int .i64 (rl - 3)))
      go_wp2_with (first
        | (refine wpList_load_row rfl 34 (.tmp 3) rfl gc (by rfl) _ _ _ _ HB.out.G Tryz.underlying34 rfl Tryz.infoC ?_)
        | (refine wpList_store_row (cs := cvC (1 + f) sgn (rc-10) (rd-20) (rk - 3) (rl - 3) (.slice none 0 0)) rfl 34 (.tmp 2) (.tmp 42) rfl HB.out.R (by rfl) (by rfl) rfl Tryz.infoC (cvC_one _ _ _ _ _ _ _ _ _) ?_; intro w19 R19 M19))
      have HB := Lib.hid (HB.out.fin R19 M19)
      clear R19 M19
      refine bodyPost_ret (results_cell_row rfl _ _ gr _ _ _ _ rfl HB.out.R Tryz.underlying34 rfl Tryz.infoC) rfl ?_
      refine ⟨⟨1 + f, sgn, (rc-10), (rd-20), rk - 3, rl - 3, .slice none 0 0⟩, [], n17, rfl, ⟨RdPts.nil _, PtsOk.nil, ?_, ?_, ?_, ?_, ?_⟩, ?_, OwnPts.nil _ _, by simp, HB.out.D, HB.out.M⟩
      · exact i64_small (x := 1 + f) ⟨by omega, by omega⟩
      · exact i64_small (x := (rc-10)) ⟨by omega, by omega⟩
      · exact i64_small (x := (rd-20)) ⟨by omega, by omega⟩
      · exact i64_small (x := rk - 3) ⟨by omega, by omega⟩
      · exact i64_small (x := rl - 3) ⟨by omega, by omega⟩
      · rw [convB, if_pos (show 1 ≤ 1 + f ∧ 1 + f ≤ 4 by omega)]
        simp [facB, powB]
        omega
  · subst hf
    have G3 : (w3.alloc (.cells (cvC 5 sgn 0 0 0 0 (.slice none 0 0)) 34)).heap[w3.heap.size]? = some (.cells (cvC 5 sgn 0 0 0 0 (.slice none 0 0)) 34 (0, 0)) := heap_alloc_new _ _
    have MA := (Mods.refl (S := []) (w := w3)).alloc (.cells (cvC 5 sgn 0 0 0 0 (.slice none 0 0)) 34)
    have B4 : Bld w (w3.alloc (.cells (cvC 5 sgn 0 0 0 0 (.slice none 0 0)) 34)) b v L n3 34 gr w3.heap.size (cvC 0 false 0 0 0 0 (.slice none 0 0)) (cvC 5 sgn 0 0 0 0 (.slice none 0 0)) :=
      ⟨D3.mods0 MA, MM.trans MA.nil, heap_alloc R3, G3, by have := HGR.out; omega, by have := HGR.out; omega, by have := HGR.out; omega, by omega, hv.out⟩
    clear MM R3 G3 MA D3
    have HB := Lib.hid B4
    have c0 : (w3.alloc (.cells (cvC 5 sgn 0 0 0 0 (.slice none 0 0)) 34)).cell? ⟨w3.heap.size, 0, none⟩ = some (.int .i64 5) := B4.c 0
    clear B4
    go_wp2_with fail
    have e : w3.alloc (.cells (cvC 5 sgn 0 0 0 0 (.slice none 0 0)) 34) = w3.alloc (.cells #[.int .i64 5, .bool sgn, .int .i64 0, .int .i64 0, .int .i64 0, .int .i64 0, .slice none 0 0] 34) := rfl
    rw [e] at HB c0
    clear e
    generalize w3.alloc (.cells #[.int .i64 5, .bool sgn, .int .i64 0, .int .i64 0, .int .i64 0, .int .i64 0, .slice none 0 0] 34) = w4 at HB c0 ⊢
    generalize w3.heap.size = gc at HB c0 ⊢
    clear c0
    refine (next_ok w4 b v L _ HB.out.D 11 (by omega) (by omega)).mono ?_
    rintro e w5 ⟨rn, n5, rfl, rn0, rn1, D5, M5⟩
    have HB := Lib.hid (HB.out.dice D5 M5)
    have cx : w5.cell? ⟨gc, 1, none⟩ = some (.bool sgn) := HB.out.c 1
    clear D5 M5
    obtain ⟨N, rfl⟩ := Int.eq_ofNat_of_zero_le rn0
    have hN2 : N ≤ 10 := by omega
    clear rn0 rn1
    go_wp2_with fail
    refine (least_ok sgn _).mono ?_
    rintro e w5' ⟨rfl, rfl⟩
    go_wp2_with fail
    refine (next_ok w5 b v L _ HB.out.D 40 (by omega) (by omega)).mono ?_
    rintro e w6 ⟨x, n6, rfl, x0, x1, D6, M6⟩
    have HB := Lib.hid (HB.out.dice D6 M6)
    clear D6 M6 cx
    have hlo : -128 ≤ leastI sgn ∧ leastI sgn ≤ 0 := by unfold leastI; cases sgn <;> decide
    go_wp2_with fail
    obtain ⟨B0, hB0⟩ : ∃ B0, B0 = w6.heap.size := ⟨_, rfl⟩
    have hgc : gc < B0 := by rw [hB0]; exact lt_of_block HB.out.G
    have hgr : gr < B0 := by rw [hB0]; exact lt_of_block HB.out.R
    have hBle : B0 ≤ w6.heap.size := by omega
    have HWB := Lib.hid (show w.heap.size ≤ B0 by have := HB.out.hr; omega)
    clear hB0
    have hneg := Lib.hid HB.out.ne
    go_loopw [5, 6] (fun y i wr => ∃ (k n7 : Nat) (x : Int) (P : List Pt) (pv : Value), k ≤ 2 + N ∧ i = .int .i64 k ∧ y = .int .i64 x ∧ Hid (P.length = k) ∧ Hid (TabIn sgn P x) ∧ OwnPts wr B0 pv P ∧ B0 ≤ wr.heap.size ∧ Hid (Bld w wr b v L n7 34 gr gc (cvC 0 false 0 0 0 0 (.slice none 0 0)) (cvC 5 sgn 0 0 0 0 pv))) (fun _ i _ => 2 + N - (intOf i).toNat)
    case atStart => exact ⟨0, n6, _, [], _, by omega, rfl, rfl, rfl, TabIn.start (by omega) (by omega), OwnPts.nil _ _, hBle, HB.out⟩
    case round =>
      obtain ⟨k, n7, y, P, pv, hk, rfl, rfl, HL, HT, O, hz, HB⟩ := hrel
      clear hBle x0 x1
      by_cases hlt : k < 2 + N
      · have hx0 := HT.out.x0
        have hx1 := HT.out.x1
        rw [HL.out] at hx1
        have c6 : wr.cell? ⟨gc, 6, none⟩ = some pv := HB.out.c 6
        have f6 : wr.frozen? ⟨gc, 6, none⟩ = false := HB.out.f 6
        have HO := Lib.hid O
        clear O
        have r1 : -256 ≤ y := by omega
        have r2 : y ≤ 1000 := by omega
        have RAW := Lib.hid (fun W => raw_ok y r1 r2 W)
        have MIC := Lib.hid (fun W (D : IsDice W b v L n7) => micro_ok W b v L n7 D)
        have DD := Lib.hid (HB.out.D.drewN 1)
        go_wp2_with fail
        go_region_law (first
          | (go_simp; go_at_call 127; refine (RAW.out _).mono ?_; rintro e w' ⟨rfl, rfl⟩)
          | (go_simp; go_at_call 98; refine (MIC.out _ DD.out).mono ?_; rintro e w20 ⟨u, n20, rfl, u0, u1, D20, M20⟩; have HB20 := Lib.hid ((HB.out.mods0 (Mods.refl.drewN 1)).dice D20 M20); have c6b : w20.cell? ⟨gc, 6, none⟩ = some pv := HB20.out.c 6; have c6d : (w20.alloc (.cells #[.int .u8 (rawI y : Int), .int .i64 u] 117)).cell? ⟨gc, 6, none⟩ = some pv := (Mods.refl (S := [])).alloc _ |>.cell c6b (by simp); have O20 := Lib.hid ((HO.out.mods (S := []) (Mods.refl.drewN 1) (by simp)).mods M20 (by simp; omega)); have z20 := Lib.hid M20.size; clear D20 M20)
          | (refine step_pushP (by rfl) _ _ (by rfl) B0 pv P (by rfl) (O20.out.mods (S := []) (by first | exact (Mods.refl.alloc _).drew | exact Mods.refl.alloc _ | exact (Mods.refl.drew).alloc _) (by simp)) w20.heap.size ⟨rawI y, u⟩ _ _ (heap_alloc_new w20 _) (by rfl) (by have := HL.out; omega) (by have := z20.out; simp at this ⊢; omega) ?_; intro v' w21 O21 M21; obtain ⟨g', cap', rfl⟩ := O21.form (by simp); have eL : (P ++ [(⟨rawI y, u⟩ : Pt)]).length = P.length + 1 := (by simp); rw [eL] at O21; clear eL; have HB21 := Lib.hid ((HB20.out.mods0 (by first | exact (Mods.refl.alloc _).drew | exact Mods.refl.alloc _ | exact (Mods.refl.drew).alloc _)).mods M21 (fun k hk => by have := mem_from hk; have := HWB.out; omega)); have c6c : w21.cell? ⟨gc, 6, none⟩ = some pv := HB21.out.c 6; have f6c : w21.frozen? ⟨gc, 6, none⟩ = false := HB21.out.f 6; have O21 := Lib.hid O21; have ZZ := Lib.hid M21.size; clear M21))
        all_goals
          have HB22 := Lib.hid (HB21.out.set 6 (.slice (some ⟨g', 0, none⟩) (P.length + 1) cap'))
          have O22 := Lib.hid (O21.out.mods (S := [gc]) (Mods.refl.setCell (p := ⟨gc, 6, none⟩) (.inl (by simp)) (.slice (some ⟨g', 0, none⟩) (P.length + 1) cap')) (by simp; exact hgc))
          have z22 := Lib.hid (show B0 ≤ (w21.setCell ⟨gc, 6, none⟩ (.slice (some ⟨g', 0, none⟩) (P.length + 1) cap')).heap.size by
            have h1 : w20.heap.size ≤ w21.heap.size := by have := ZZ.out; simp at this ⊢; omega
            have := z20.out; simp at this ⊢; omega)
          clear c6b c6c c6d f6c c6 f6
          go_wp2_with fail
          generalize w21.setCell ⟨gc, 6, none⟩ (.slice (some ⟨g', 0, none⟩) (P.length + 1) cap') = w22 at HB22 O22 z22 ⊢
          refine (next_ok w22 b v L _ HB22.out.D 18 (by omega) (by omega)).mono ?_
          rintro e w23 ⟨d, n23, rfl, d0, d1, D23, M23⟩
          have HB23 := Lib.hid (HB22.out.dice D23 M23)
          have O23 := Lib.hid (O22.out.mods M23 (by simp; omega))
          have z23 := Lib.hid M23.size
          have HT23 := Lib.hid (HT.out.push (val := u) (d := 1 + d) (by have := HL.out; omega) ⟨u0, u1⟩ (by omega) (by omega))
          have HL23 := Lib.hid (show (P ++ [(⟨rawI y, u⟩ : Pt)]).length = k + 1 by rw [List.length_append, HL.out]; rfl)
          clear D23 M23
          go_wp2
          exact ⟨⟨k + 1, n23, y + (1 + d), P ++ [⟨rawI y, u⟩], _, by omega, by go_num, rfl, HL23, HT23, O23.out, by have := z22.out; have := z23.out; omega, HB23⟩, by simp only [intOf]; omega⟩
      · have hkN : k = 2 + N := by omega
        have hlen : P.length = 2 + N := by rw [HL.out, hkN]
        obtain ⟨ad, cap, hpv⟩ := O.rd.len
        subst hpv
        have HTAB := Lib.hid (HT.out.tab (by omega) (by omega))
        have HOK := Lib.hid (HT.out.ok (by omega))
        have HLEN := Lib.hid hlen
        clear hlen
        go_wp2_with (first
          | (refine wpList_load_row rfl 34 (.tmp 3) rfl gc (by rfl) _ _ _ _ HB.out.G Tryz.underlying34 rfl Tryz.infoC ?_)
          | (refine wpList_store_row (cs := cvC 5 sgn 0 0 0 0 (.slice ad P.length cap)) rfl 34 (.tmp 2) (.tmp 72) rfl HB.out.R (by rfl) (by rfl) rfl Tryz.infoC (cvC_one _ _ _ _ _ _ _ _ _) ?_; intro w19 R19 M19))
        have HB9 := Lib.hid (HB.out.fin R19 M19)
        have O9 := O.mods M19 (by simp; exact hgr)
        have HW := HWB.out
        clear R19 M19
        refine bodyPost_ret (results_cell_row rfl _ _ gr _ _ _ _ rfl HB9.out.R Tryz.underlying34 rfl Tryz.infoC) rfl ?_
        refine ⟨⟨5, sgn, 0, 0, 0, 0, .slice ad P.length cap⟩, P, n7, rfl, ⟨O9.rd, HOK.out, ?_, ?_, ?_, ?_, ?_⟩, ?_, ?_, ?_, HB9.out.D, HB9.out.M⟩
        · exact i64_small (x := 5) ⟨by omega, by omega⟩
        · exact i64_small (x := 0) ⟨by omega, by omega⟩
        · exact i64_small (x := 0) ⟨by omega, by omega⟩
        · exact i64_small (x := 0) ⟨by omega, by omega⟩
        · exact i64_small (x := 0) ⟨by omega, by omega⟩
        · rw [convB, if_neg (show ¬ (1 ≤ (5 : Int) ∧ (5 : Int) ≤ 4) by omega), HTAB.out]; rfl
        · exact O9.down HW
        · have := HLEN.out; omega
end Go.Proofs.YtijjkonephjodaaGreatDoor
