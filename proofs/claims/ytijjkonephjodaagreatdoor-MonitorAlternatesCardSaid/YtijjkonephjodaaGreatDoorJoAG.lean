/- Joined texts. The reference's Step of thresholds: contract. | Filters of samples as plain data; the median. No program stands here. | What every law's proof wants: a slice of ints that came in, read. | Slices of bytes that came in. | slices.Clone of bytes, checksum.Sum8 and Seal8: contracts. | slices.Values and slices.Collect of bytes: contracts. | slices.SortedFunc of bytes by their numbers: contract (the sort by the shelf's contract, laid in plain words by the kit's own program). | sampling.Valid, the reference's, and its Same: contracts. -/
import Derived.Test.YtijjkonephjodaaGreatDoorJoAF
import Derived.Test.YtijjkonephjodaaGreatDoorJoAA
import Derived.ProofKit
import Derived.OpenShut
import Derived.RangeFuncBox
import Derived.RangeFuncLeaves
import Derived.Shelf.Abstract
import Derived.WalkKit
import Derived.OwnWalkIn
import Derived.TacticsInMore
import Derived.LoopNIn
import Derived.LoopIn
import Derived.Maps.AppendAt
import Derived.Shelf.SlSortCmp.Small
import Derived.Shelf.Small.Bits
import Derived.Shelf.SlSortFunc.HeapSort
import Derived.Test.YtijjkonephjodaaGreatDoorJoAE
import Derived.Test.YtijjkonephjodaaGreatDoorJoAB
import Derived.Test.YtijjkonephjodaaGreatDoorJoAC
import Derived.BigGuardPart
namespace Go.Proofs.YtijjkonephjodaaGreatDoor
open Go.RowKit

theorem st_masked {st m : Nat} (hm : m < 256) (h : st &&& (255 - m) = 0) {k : Nat} (hk : k < 8) (hb : m.testBit k = false) : st.testBit k = false := by
  cases hs : st.testBit k with
  | false => rfl
  | true =>
    have := congrArg (fun n => n.testBit k) h
    simp only [Nat.testBit_and, sub255 hm, Nat.zero_testBit, hs, hb] at this
    simp at this
    omega
set_option maxRecDepth 100000 in
set_option maxHeartbeats 4000000 in
theorem refTStep_ok (w : World) (S : Sen) (P : List Pt) (hS : IsSen w S P) (st r : Nat) (hst : st < 256) (hr : r < 256) :
    Calls Tryz.prog 109 #[.agg S.cells, .int .u8 st, .int .u8 r] w fun e w' => StepOut w .u8 (stepN S P st r) e w' := by
  have hmk := hS.mask
  have hw := wrap16 (m := S.mask) (by omega)
  have hws := wrap16 (m := st) (by omega)
  have HS := Lib.hid hS
  have hxb := numI_bd (sgn := S.conv.sgn) hr
  clear hS
  have BB := Lib.hid (SenBox.new w S)
  have M0 := Lib.hid ((Mods.refl (S := []) (w := w)).alloc (.cells S.cells 40))
  go_enter Tryz.func109, Tryz.ntmps109
  go_wp2_with (refine wpList_load_sen rfl (.tmp 3) rfl BB.out (by rfl) ?_)
  refine (refAnalog_ok _ S P (HS.out.mods0 M0.out)).mono ?_
  rintro e w2 ⟨rfl, M2⟩
  have BB := Lib.hid (BB.out.mods0 M2)
  have M2 := Lib.hid (M0.out.trans M2)
  have c14 : w2.cell? ⟨w.heap.size, 14, none⟩ = some (.int .u8 S.mask) := BB.out.lims.1
  cases ha : anaB S P with
  | false =>
    have HR := Lib.hid (show stepN S P st r = (0, [], 1) by simp [stepN, ha])
    clear ha c14
    go_wp2_with fail
    go_ret3
    exact ⟨_, by rw [HR.out]; rfl, by rw [HR.out]; exact OwnChg.nil _ _, M2.out⟩
  | true =>
    have ea : bits .andNot .u8 (st : Int) (S.mask : Int) = ((st &&& (255 - S.mask) : Nat) : Int) := u8_andNot_nat _ _ hst hmk
    by_cases hx : st &&& (255 - S.mask) = 0
    · have HR := Lib.hid (show stepN S P st r = (nextN S st (numI S.conv.sgn r), chL st (nextN S st (numI S.conv.sgn r)) 6, 0) by simp [stepN, ha, hx])
      have e1 : (((st &&& (255 - S.mask) : Nat) : Int) != 0) = false := by simp only [hx]; rfl
      have c8 : w2.cell? ⟨w.heap.size, 8, none⟩ = some (.bool S.conv.sgn) := BB.out.conv.2.1
      have HMS := Lib.hid (fun k (hk : k < 8) hb => st_masked hmk hx (k := k) hk hb)
      clear ha hx
      go_wp2_with fail
      refine (refNumber_ok S.conv.sgn r hr _).mono ?_
      rintro e w3 ⟨rfl, rfl⟩
      generalize hxx : numI S.conv.sgn r = x at hxb HR ⊢
      clear hxx c8 ea e1 c14
      obtain ⟨f, hf⟩ : ∃ f : Nat → Bool, f = nextB S st x := ⟨_, rfl⟩
      have HN := Lib.hid (show nextN S st x = ofBits f 6 by rw [hf]; rfl)
      have HF := Lib.hid (show ∀ i, f i = (S.mask.testBit i && (reachesB S i x || st.testBit i && !leavesB S i x)) from fun i => by
        rw [hf]
        unfold nextB reachesB leavesB
        congr 2
        rw [← decide_not]
        congr 1
        exact decide_eq_decide.2 (by omega))
      have HTB := Lib.hid (show ∀ i, i < 6 → (ofBits f 6).testBit i = f i from fun i hi => by rw [testBit_ofBits, decide_eq_true hi, Bool.true_and])
      rw [HN.out] at HR
      clear hf HN
      generalize hg : w.heap.size = g at BB ⊢
      have HG := Lib.hid hg
      clear hg
      go_wp2_with fail
      obtain ⟨to, hto⟩ : ∃ to, to = ofBits f 6 := ⟨_, rfl⟩
      rw [← hto] at HR HTB
      have HTO := Lib.hid hto
      clear hto
      go_loopw [10, 11, 12] (fun o d i wr => ∃ k : Nat, k ≤ 6 ∧ i = .int .i64 k ∧ o = .int .u8 (ofBits f k) ∧ OwnChg wr w2.heap.size d (chL st to k) ∧ Mods [] w2 wr) (fun _ _ i _ => 6 - (intOf i).toNat)
      case atStart => exact ⟨0, by omega, rfl, rfl, OwnChg.nil _ _, Mods.refl⟩
      case round =>
        obtain ⟨k, hk, rfl, rfl, O, M4⟩ := hrel
        by_cases hlt : k < 6
        · have hz := M4.size
          have hz2 := M2.out.size
          have hgw := Lib.hid (show w2.heap.size ≤ wr.heap.size by omega)
          have hp := pow8 (j := k) (by omega)
          have hp1 : 2 ^ k < 64 := Nat.pow_lt_pow_right (a := 2) (n := 6) (by omega) (by omega)
          have hol := ofBits_lt f k
          have hln := chL_length st to k
          have HO := Lib.hid (show ofBits f (k + 1) = ofBits f k + (if f k then 2 ^ k else 0) from rfl)
          have HC := Lib.hid (show chL st to (k + 1) = chL st to k ++ (if (st.testBit k ^^ f k) then [⟨k, f k⟩] else []) by rw [chL, Nat.testBit_xor, HTB.out k hlt])
          have HFK := Lib.hid (HF.out k)
          have HMK := Lib.hid (HMS.out k (by omega))
          have c14 : wr.cell? ⟨g, 14, none⟩ = some (.int .u8 S.mask) := (BB.out.mods0 M4).lims.1
          have HB4 := Lib.hid (BB.out.mods0 M4)
          have HM4 := Lib.hid M4
          have HIS := Lib.hid (HS.out.mods0 (M2.out.trans M4))
          have HOW := Lib.hid O
          clear M4 O hz hz2
          go_wp2_with fail
          refine (has_ok S.mask k (by omega) (by omega) _).mono ?_
          rintro e w5 ⟨rfl, rfl⟩
          cases hb : S.mask.testBit k with
          | false =>
            rw [hb, Bool.false_and] at HFK
            have HSB := HMK.out hb
            rw [HFK.out] at HO HC
            rw [HSB] at HC
            have HC := Lib.hid (show chL st to (k + 1) = chL st to k by rw [HC.out]; simp)
            clear hb c14 HSB
            go_wp2_with fail
            exact ⟨⟨k + 1, by omega, by go_num, by rw [HO.out]; rfl, by rw [HC.out]; exact HOW.out, HM4.out⟩, by simp only [intOf]; omega⟩
          | true =>
            rw [hb, Bool.true_and] at HFK
            clear hb c14 HMK
            go_wp2_with fail
            refine (has_ok st k (by omega) (by omega) _).mono ?_
            rintro e w5 ⟨rfl, rfl⟩
            go_wp2_with (refine wpList_load_sen rfl (.tmp 3) rfl HB4.out (by rfl) ?_)
            refine (reaches_ok _ S P HIS.out k hlt x hxb).mono ?_
            rintro e w6 ⟨rfl, M6⟩
            have HB6 := Lib.hid (HB4.out.mods0 M6)
            have HM6 := Lib.hid (HM4.out.trans M6)
            have HI6 := Lib.hid (HIS.out.mods0 M6)
            have HO6 := Lib.hid (HOW.out.mods0 M6)
            have hg6 := Lib.hid (show w2.heap.size ≤ w6.heap.size by have := hgw.out; have := M6.size; omega)
            clear M6
            generalize st.testBit k = b2 at HFK HC ⊢
            cases hb : reachesB S k x with
            | true =>
              rw [hb, Bool.true_or] at HFK
              clear hb
              cases b2 with
              | true =>
                rw [HFK.out] at HO HC
                have HC := Lib.hid (show chL st to (k + 1) = chL st to k by rw [HC.out]; simp)
                generalize hpp : 2 ^ k = p at hp hp1 hol HO
                clear hpp
                go_wp2_with fail
                exact ⟨⟨k + 1, by omega, by go_num, by rw [HO.out]; simp, by rw [HC.out]; exact HO6.out, HM6.out⟩, by simp only [intOf]; omega⟩
              | false =>
                rw [HFK.out] at HO HC
                have HC2 := Lib.hid (show chL st to (k + 1) = chL st to k ++ [⟨k, true⟩] by rw [HC.out]; simp)
                clear HC
                generalize hpp : 2 ^ k = p at hp hp1 hol HO
                clear hpp
                go_wp2_with (at_builtin; refine wpList_pushC rfl (.tmp 62) (.tmp 66) rfl w2.heap.size _ (chL st to k) (by rfl) (HO6.out.mods0 (Mods.refl.alloc _)) w6.heap.size ⟨k, true⟩ _ _ (heap_alloc_new w6 _) (by rfl) (by omega) (by have := hg6.out; simp; omega) ?_)
                intro v' w8 O8 M8
                have M8 := Lib.hid ((HM6.out.alloc _).then_from M8 (Nat.le_refl _))
                have O8 := Lib.hid O8
                go_wp2
                exact ⟨⟨k + 1, by omega, by go_num, by rw [HO.out]; simp, by rw [HC2.out]; exact O8.out, M8.out⟩, by simp only [intOf]; omega⟩
            | false =>
              rw [hb, Bool.false_or] at HFK
              clear hb
              go_wp2_with (refine wpList_load_sen rfl (.tmp 3) rfl HB6.out (by rfl) ?_)
              refine (leaves_ok _ S P HI6.out k hlt x hxb).mono ?_
              rintro e w7 ⟨rfl, M7⟩
              have HM7 := Lib.hid (HM6.out.trans M7)
              have HO7 := Lib.hid (HO6.out.mods0 M7)
              have hg7 := Lib.hid (show w2.heap.size ≤ w7.heap.size by have := hg6.out; have := M7.size; omega)
              clear M7
              cases hb : leavesB S k x with
              | true =>
                rw [hb, Bool.not_true, Bool.and_false] at HFK
                clear hb
                cases b2 with
                | true =>
                  rw [HFK.out] at HO HC
                  have HC2 := Lib.hid (show chL st to (k + 1) = chL st to k ++ [⟨k, false⟩] by rw [HC.out]; simp)
                  clear HC
                  generalize hpp : 2 ^ k = p at hp hp1 hol HO
                  clear hpp
                  go_wp2_with (at_builtin; refine wpList_pushC rfl (.tmp 62) (.tmp 66) rfl w2.heap.size _ (chL st to k) (by rfl) (HO7.out.mods0 (Mods.refl.alloc _)) w7.heap.size ⟨k, false⟩ _ _ (heap_alloc_new w7 _) (by rfl) (by omega) (by have := hg7.out; simp; omega) ?_)
                  intro v' w8 O8 M8
                  have M8 := Lib.hid ((HM7.out.alloc _).then_from M8 (Nat.le_refl _))
                  have O8 := Lib.hid O8
                  go_wp2
                  exact ⟨⟨k + 1, by omega, by go_num, by rw [HO.out]; simp, by rw [HC2.out]; exact O8.out, M8.out⟩, by simp only [intOf]; omega⟩
                | false =>
                  rw [HFK.out] at HO HC
                  have HC := Lib.hid (show chL st to (k + 1) = chL st to k by rw [HC.out]; simp)
                  generalize hpp : 2 ^ k = p at hp hp1 hol HO
                  clear hpp
                  go_wp2_with fail
                  exact ⟨⟨k + 1, by omega, by go_num, by rw [HO.out]; simp, by rw [HC.out]; exact HO7.out, HM7.out⟩, by simp only [intOf]; omega⟩
              | false =>
                rw [hb, Bool.not_false, Bool.and_true] at HFK
                clear hb
                cases b2 with
                | true =>
                  rw [HFK.out] at HO HC
                  have HC := Lib.hid (show chL st to (k + 1) = chL st to k by rw [HC.out]; simp)
                  generalize hpp : 2 ^ k = p at hp hp1 hol HO
                  clear hpp
                  go_wp2_with fail
                  exact ⟨⟨k + 1, by omega, by go_num, by rw [HO.out]; simp, by rw [HC.out]; exact HO7.out, HM7.out⟩, by simp only [intOf]; omega⟩
                | false =>
                  rw [HFK.out] at HO HC
                  have HC := Lib.hid (show chL st to (k + 1) = chL st to k by rw [HC.out]; simp)
                  generalize hpp : 2 ^ k = p at hp hp1 hol HO
                  clear hpp
                  go_wp2_with fail
                  exact ⟨⟨k + 1, by omega, by go_num, by rw [HO.out]; simp, by rw [HC.out]; exact HO7.out, HM7.out⟩, by simp only [intOf]; omega⟩
        · have hk6 : k = 6 := by omega
          subst hk6
          have HX := Lib.hid (M2.out.trans M4)
          go_wp2
          go_ret3
          exact ⟨_, by rw [HR.out, HTO.out]; rfl, by rw [HR.out]; exact O.down (by have := M2.out.size; omega), HX.out⟩
    · have HR := Lib.hid (show stepN S P st r = (0, [], 2) by simp [stepN, ha, hx])
      have e1 : (((st &&& (255 - S.mask) : Nat) : Int) != 0) = true := by simp only [bne_iff_ne, ne_eq, Int.natCast_eq_zero]; exact hx
      clear ha hx
      go_wp2_with fail
      go_ret3
      exact ⟨_, by rw [HR.out]; rfl, by rw [HR.out]; exact OwnChg.nil _ _, M2.out⟩
end Go.Proofs.YtijjkonephjodaaGreatDoor

namespace Go.Proofs.YtijjkonephjodaaGreatDoor

/-- Whether a filter is one of a sensor. -/
def fltB (S : Sen) (P : List Pt) (W : List Int) (n : Int) : Bool :=
  validB S P && decide ((W.length : Int) ≤ S.samples ∧ 0 ≤ n ∧ n ≤ 3 ∧ (n < 3 ∨ W.length = 0))
/-- The next window. -/
def nextW (k : Int) (W : List Int) (r : Int) : List Int := if k < (W.length : Int) + 1 then (W ++ [r]).drop 1 else W ++ [r]
/-- The next filter of a valid one. -/
def stepF (k : Int) (W : List Int) (n : Int) (r : Int) (ok : Bool) : List Int × Int :=
  if ok then (nextW k W r, 0) else if min (n + 1) 3 = 3 then ([], 3) else (W, min (n + 1) 3)
def numZ (sgn : Bool) (x : Int) : Int := numI sgn x.toNat
theorem numZ_inj {sgn : Bool} {x y : Int} (hx : 0 ≤ x ∧ x ≤ 255) (hy : 0 ≤ y ∧ y ≤ 255) (h : numZ sgn x = numZ sgn y) : x = y := by
  unfold numZ numI at h
  cases sgn
  · simp at h; omega
  · simp only [true_and] at h
    split at h <;> split at h <;> omega
def ltC (sgn : Bool) (m : Int) (W : List Int) : Nat := W.countP fun y => decide (numZ sgn y < numZ sgn m)
def eqC (m : Int) (W : List Int) : Nat := W.countP fun y => decide (y = m)
def gtC (sgn : Bool) (m : Int) (W : List Int) : Nat := W.countP fun y => decide (numZ sgn m < numZ sgn y)
/-- The median: half of the others are ahead of it. -/
structure IsMed (sgn : Bool) (W : List Int) (m : Int) : Prop where
  lo : ltC sgn m W ≤ W.length / 2
  hi : W.length / 2 < ltC sgn m W + eqC m W
theorem IsMed.mem {sgn : Bool} {W : List Int} {m : Int} (h : IsMed sgn W m) : m ∈ W := by
  have : 0 < eqC m W := by have := h.lo; have := h.hi; omega
  obtain ⟨x, hx, he⟩ := List.countP_pos_iff.1 this
  rw [← of_decide_eq_true he]; exact hx
theorem cnt3 (sgn : Bool) {W : List Int} (hb : ∀ x ∈ W, 0 ≤ x ∧ x ≤ 255) {m : Int} (hm : 0 ≤ m ∧ m ≤ 255) : ltC sgn m W + eqC m W + gtC sgn m W = W.length := by
  unfold ltC eqC gtC
  induction W with
  | nil => rfl
  | cons a l ih =>
    have ih := ih fun x hx => hb x (.tail _ hx)
    have ha := hb a (.head _)
    rw [List.countP_cons, List.countP_cons, List.countP_cons, List.length_cons]
    have hi := fun h => numZ_inj (sgn := sgn) ha hm h
    by_cases h1 : a = m
    · subst h1
      simp
      omega
    · have h2 : numZ sgn a ≠ numZ sgn m := fun h => h1 (hi h)
      rcases Int.lt_or_lt_of_ne h2 with h3 | h3
      · simp [h1, h3, show ¬ numZ sgn m < numZ sgn a by omega]; omega
      · simp [h1, h3, show ¬ numZ sgn a < numZ sgn m by omega]; omega
theorem IsMed.above {sgn : Bool} {W : List Int} (hb : ∀ x ∈ W, 0 ≤ x ∧ x ≤ 255) {m : Int} (h : IsMed sgn W m) : gtC sgn m W + W.length / 2 + 1 ≤ W.length := by
  have := cnt3 sgn hb (hb m h.mem)
  have := h.hi
  omega
theorem lt_le {sgn : Bool} {a b : Int} (hl : numZ sgn a < numZ sgn b) : ∀ l : List Int, (l.countP fun y => decide (numZ sgn y < numZ sgn a)) + (l.countP fun y => decide (y = a)) ≤ l.countP fun y => decide (numZ sgn y < numZ sgn b)
  | [] => Nat.le_refl _
  | c :: l => by
    have ih := lt_le hl l
    rw [List.countP_cons, List.countP_cons, List.countP_cons]
    by_cases h1 : c = a
    · subst h1
      simp [hl]
      omega
    · by_cases h2 : numZ sgn c < numZ sgn a
      · simp [h1, h2, show numZ sgn c < numZ sgn b by omega]; omega
      · simp [h1, h2]; omega
theorem med_uniq {sgn : Bool} {W : List Int} (hb : ∀ x ∈ W, 0 ≤ x ∧ x ≤ 255) {m m' : Int} (h : IsMed sgn W m) (h' : IsMed sgn W m') : m = m' := by
  have hm := hb m h.mem
  have hm' := hb m' h'.mem
  have key : ∀ {a b : Int}, IsMed sgn W a → IsMed sgn W b → ¬ numZ sgn a < numZ sgn b := by
    intro a b ha hb' hl
    have h1 : ltC sgn a W + eqC a W ≤ ltC sgn b W := lt_le hl W
    have := ha.hi
    have := hb'.lo
    omega
  rcases Int.lt_trichotomy (numZ sgn m) (numZ sgn m') with hl | he | hl
  · exact absurd hl (key h h')
  · exact numZ_inj hm hm' he
  · exact absurd hl (key h' h)
theorem lteq_all {sgn : Bool} {m : Int} (hm : 0 ≤ m ∧ m ≤ 255) : ∀ l : List Int, (∀ y ∈ l, numZ sgn y ≤ numZ sgn m ∧ 0 ≤ y ∧ y ≤ 255) → (l.countP fun y => decide (numZ sgn y < numZ sgn m)) + (l.countP fun y => decide (y = m)) = l.length
  | [], _ => rfl
  | c :: l, h => by
    have ih := lteq_all hm l fun y hy => h y (.tail _ hy)
    have hc := h c (.head _)
    rw [List.countP_cons, List.countP_cons, List.length_cons]
    by_cases h1 : c = m
    · subst h1
      simp
      omega
    · have h2 : numZ sgn c < numZ sgn m := by
        rcases Int.lt_or_eq_of_le hc.1 with h | h
        · exact h
        · exact absurd (numZ_inj hc.2 hm h) h1
      simp [h1, h2]; omega
/-- The middle of a sorted list. -/
theorem med_sorted {sgn : Bool} {W l : List Int} (hb : ∀ x ∈ W, 0 ≤ x ∧ x ≤ 255) (hp : l.Perm W) (hs : l.Pairwise fun x y => numZ sgn x ≤ numZ sgn y) (hne : 0 < W.length) : IsMed sgn W (l.getD (W.length / 2) 0) := by
  have hlen := hp.length_eq
  obtain ⟨h, hh⟩ : ∃ h, h = W.length / 2 := ⟨_, rfl⟩
  rw [← hh]
  have hlt : h < l.length := by omega
  have hbl : ∀ x ∈ l, 0 ≤ x ∧ x ≤ 255 := fun x hx => hb x (hp.mem_iff.1 hx)
  have e : l = l.take h ++ (l.getD h 0 :: l.drop (h + 1)) := by
    rw [List.getD_eq_getElem?_getD, List.getElem?_eq_getElem hlt]
    simp
  have hml : l.getD h 0 ∈ l := by
    rw [List.getD_eq_getElem?_getD, List.getElem?_eq_getElem hlt]
    exact List.getElem_mem hlt
  generalize l.getD h 0 = m at *
  have htl : (l.take h).length = h := by rw [List.length_take]; omega
  rw [e] at hs
  obtain ⟨s1, s2, s3⟩ := List.pairwise_append.1 hs
  obtain ⟨s4, s5⟩ := List.pairwise_cons.1 s2
  have c1 : ltC sgn m W = (l.countP fun y => decide (numZ sgn y < numZ sgn m)) := (hp.countP_eq _).symm
  have c2 : eqC m W = (l.countP fun y => decide (y = m)) := (hp.countP_eq _).symm
  rw [e, List.countP_append, List.countP_cons] at c1 c2
  have d0 : ((l.drop (h + 1)).countP fun y => decide (numZ sgn y < numZ sgn m)) = 0 := List.countP_eq_zero.2 fun y hy => by
    have := s4 y hy
    simp; omega
  have d1 : ((l.take h).countP fun y => decide (numZ sgn y < numZ sgn m)) + ((l.take h).countP fun y => decide (y = m)) = h := by
    rw [lteq_all (hbl m hml) _ fun y hy => ⟨s3 y hy m (.head _), hbl y (List.mem_of_mem_take hy)⟩, htl]
  simp at c1 c2
  refine ⟨?_, ?_⟩
  · rw [← hh]; omega
  · rw [← hh]; omega
/-- How many stand before the i-th, among the first k. -/
def befN (sgn : Bool) (W : List Int) (i : Nat) : Nat → Nat
  | 0 => 0
  | k + 1 => befN sgn W i k + if numZ sgn (W.getD k 0) < numZ sgn (W.getD i 0) ∨ (numZ sgn (W.getD k 0) = numZ sgn (W.getD i 0) ∧ k < i) then 1 else 0
theorem befN_le (sgn : Bool) (W : List Int) (i : Nat) : ∀ k, befN sgn W i k ≤ k
  | 0 => Nat.le_refl _
  | k + 1 => by have := befN_le sgn W i k; simp only [befN]; split <;> omega
theorem take_snocI {l : List Int} {k : Nat} (h : k < l.length) : l.take (k + 1) = l.take k ++ [l.getD k 0] := by
  rw [List.take_succ_eq_append_getElem h, List.getD_eq_getElem?_getD, List.getElem?_eq_getElem h]; rfl
theorem getD_memI {l : List Int} {k : Nat} (h : k < l.length) : l.getD k 0 ∈ l := by
  rw [List.getD_eq_getElem?_getD, List.getElem?_eq_getElem h]; exact List.getElem_mem h
theorem befN_eq {sgn : Bool} {W : List Int} (hb : ∀ x ∈ W, 0 ≤ x ∧ x ≤ 255) {i : Nat} (hi : i < W.length) : ∀ k, k ≤ W.length →
    befN sgn W i k = ((W.take k).countP fun y => decide (numZ sgn y < numZ sgn (W.getD i 0))) + ((W.take (min k i)).countP fun y => decide (y = W.getD i 0))
  | 0, _ => by simp [befN]
  | k + 1, h => by
    have ih := befN_eq (sgn := sgn) hb hi k (by omega)
    have hk : k < W.length := by omega
    simp only [befN]
    rw [ih, take_snocI hk, List.countP_append]
    have hbk := hb _ (getD_memI hk)
    have hbi := hb _ (getD_memI hi)
    have hij := fun h => numZ_inj (sgn := sgn) hbk hbi h
    by_cases hki : k < i
    · rw [show min (k + 1) i = k + 1 by omega, show min k i = k by omega, take_snocI hk, List.countP_append]
      generalize W.getD k 0 = x at *
      generalize W.getD i 0 = m at *
      by_cases h1 : x = m
      · subst h1; simp [hki]; omega
      · by_cases h2 : numZ sgn x < numZ sgn m
        · simp [h1, h2]; omega
        · have h3 : numZ sgn x ≠ numZ sgn m := fun h => h1 (hij h)
          simp [h1, h2, h3]
    · rw [show min (k + 1) i = i by omega, show min k i = i by omega]
      generalize W.getD k 0 = x at *
      generalize W.getD i 0 = m at *
      by_cases h2 : numZ sgn x < numZ sgn m
      · simp [h2]; omega
      · simp [h2, hki]
theorem bef_med {sgn : Bool} {W : List Int} (hb : ∀ x ∈ W, 0 ≤ x ∧ x ≤ 255) {i : Nat} (hi : i < W.length) (h : befN sgn W i W.length = W.length / 2) : IsMed sgn W (W.getD i 0) := by
  rw [befN_eq hb hi _ (Nat.le_refl _), List.take_length, show min W.length i = i by omega] at h
  have e : eqC (W.getD i 0) W = ((W.take i).countP fun y => decide (y = W.getD i 0)) + ((W.drop i).countP fun y => decide (y = W.getD i 0)) := by
    unfold eqC; rw [← List.countP_append, List.take_append_drop]
  have hd : 0 < (W.drop i).countP fun y => decide (y = W.getD i 0) := by
    refine List.countP_pos_iff.2 ⟨W.getD i 0, ?_, by simp⟩
    rw [List.drop_eq_getElem_cons hi, List.getD_eq_getElem?_getD, List.getElem?_eq_getElem hi]
    exact .head _
  refine ⟨?_, ?_⟩
  · unfold ltC; omega
  · unfold ltC at *; omega
theorem nth_in {p : Int → Bool} : ∀ (l : List Int) (t : Nat), t < l.countP p → ∃ i, i < l.length ∧ p (l.getD i 0) = true ∧ (l.take i).countP p = t
  | [], t, h => by simp at h
  | a :: l, t, h => by
    rw [List.countP_cons] at h
    by_cases ha : p a = true
    · rcases t with _ | t
      · exact ⟨0, by simp, by simpa using ha, by simp⟩
      · rw [if_pos ha] at h
        obtain ⟨i, h1, h2, h3⟩ := nth_in (p := p) l t (by omega)
        exact ⟨i + 1, by simp; omega, by simpa using h2, by rw [List.take_succ_cons, List.countP_cons, if_pos ha, h3]⟩
    · rw [if_neg ha] at h
      obtain ⟨i, h1, h2, h3⟩ := nth_in (p := p) l t (by omega)
      exact ⟨i + 1, by simp; omega, by simpa using h2, by rw [List.take_succ_cons, List.countP_cons, if_neg ha, h3]; rfl⟩
theorem med_bef {sgn : Bool} {W : List Int} (hb : ∀ x ∈ W, 0 ≤ x ∧ x ≤ 255) {m : Int} (h : IsMed sgn W m) : ∃ i, i < W.length ∧ befN sgn W i W.length = W.length / 2 := by
  have h1 := h.lo
  have h2 := h.hi
  obtain ⟨i, hi, he, hc⟩ := nth_in (p := fun y => decide (y = m)) W (W.length / 2 - ltC sgn m W) (by unfold eqC at h2; omega)
  refine ⟨i, hi, ?_⟩
  have he := of_decide_eq_true he
  rw [befN_eq hb hi _ (Nat.le_refl _), List.take_length, show min W.length i = i by omega, he, hc]
  unfold ltC at *; omega
theorem bef_is {sgn : Bool} {W : List Int} (hb : ∀ x ∈ W, 0 ≤ x ∧ x ≤ 255) {m : Int} (h : IsMed sgn W m) {i : Nat} (hi : i < W.length) (he : befN sgn W i W.length = W.length / 2) : W.getD i 0 = m :=
  med_uniq hb (bef_med hb hi he) h
end Go.Proofs.YtijjkonephjodaaGreatDoor

namespace Go.Proofs.YtijjkonephjodaaGreatDoor
open Go.RowKit
theorem rd_add {w : World} {x : Addr} {i : Nat} {v : Value} (h : w.cell? (x.add i) = some v) : ∃ b off, x = ⟨b, off, x.spot⟩ ∧ w.cell? ⟨b, off + i, none⟩ = some v ∧ (i = 0 → x.spot = none) := by
  obtain ⟨b, off, spot⟩ := x
  refine ⟨b, off, rfl, ?_, ?_⟩
  · unfold Addr.add at h
    split at h
    · rename_i h0
      subst h0
      have := World.cell?_spot h
      simp at this
      subst this
      simpa using h
    · exact h
  · intro h0
    subst h0
    have := World.cell?_spot (a := ⟨b, off, spot⟩) (by simpa [Addr.add] using h)
    exact this
/-- The reading of a slice that came in, out of its cells. -/
theorem rd_in {w : World} {x : Addr} {len cap : Nat} {l : List Value} (hl : l.length = len) (h1 : len ≤ cap) (h2 : cap ≤ maxLen) (hc : ∀ i, i < len → w.cell? (x.add i) = some (l.getD i undef)) : Rd w (.slice (some x) len cap) l := by
  subst hl
  refine ⟨some x, cap, rfl, h1, h2, fun i hi => ?_⟩
  obtain ⟨b0, off0, e0, _, h0⟩ := rd_add (hc 0 (by omega))
  obtain ⟨b, off, e, h3, _⟩ := rd_add (hc i hi)
  rw [h0 rfl] at e
  exact ⟨b, off, congrArg some e, h3⟩
/-- A slice of integers that came in: nil, or a row of 'cap' cells. -/
def IsRow (k : IntKind) (w : World) (a : Option Addr) (len cap : Nat) (zs : List Int) : Prop :=
  (a = none ∧ len = 0 ∧ cap = 0 ∧ zs = []) ∨
  ∃ x, a = some x ∧ len ≤ cap ∧ cap ≤ maxLen ∧ zs.length = cap ∧ (∀ i, i < zs.length → w.cell? (x.add i) = some (.int k (zs.getD i 0))) ∧ ∀ n ∈ zs, (Lit.int k n).wf = true
theorem IsRow.rd {k : IntKind} {w : World} {a : Option Addr} {len cap : Nat} {zs : List Int} (h : IsRow k w a len cap zs) : Rd w (.slice a len cap) ((zs.take len).map (Value.int k)) ∧ (zs.take len).length = len := by
  rcases h with ⟨rfl, rfl, rfl, rfl⟩ | ⟨x, rfl, h1, h2, h3, h4, _⟩
  · exact ⟨Rd.nil w, rfl⟩
  · have hl : (zs.take len).length = len := by simp; omega
    refine ⟨rd_in (by rw [List.length_map, hl]) h1 h2 fun i hi => ?_, hl⟩
    rw [h4 i (by omega)]
    simp only [List.getD_eq_getElem?_getD, List.getElem?_map, List.getElem?_take, if_pos hi]
    rw [List.getElem?_eq_getElem (by omega)]
    rfl
theorem IsRow.i64 {w : World} {a : Option Addr} {len cap : Nat} {zs : List Int} (h : IsRow .i64 w a len cap zs) (i : Nat) : -9223372036854775808 ≤ (zs.take len).getD i 0 ∧ (zs.take len).getD i 0 ≤ 9223372036854775807 := by
  have hz : ∀ n ∈ zs, (Lit.int .i64 n).wf = true := by
    rcases h with ⟨_, _, _, rfl⟩ | ⟨_, _, _, _, _, _, h⟩
    · simp
    · exact h
  have := range_i64 (zs := zs.take len) (fun n hn => hz n (List.mem_of_mem_take hn)) i
  simpa [List.getD_eq_getElem?_getD] using this
end Go.Proofs.YtijjkonephjodaaGreatDoor

namespace Go.Proofs.YtijjkonephjodaaGreatDoor
open Go.RowKit
/-- Every number is a byte. -/
def Bytes (l : List Int) : Prop := ∀ i, 0 ≤ l.getD i 0 ∧ l.getD i 0 ≤ 255
theorem IsRow.u8 {w : World} {a : Option Addr} {len cap : Nat} {zs : List Int} (h : IsRow .u8 w a len cap zs) : Bytes (zs.take len) := fun i => by
  have hz : ∀ n ∈ zs, (Lit.int .u8 n).wf = true := by
    rcases h with ⟨_, _, _, rfl⟩ | ⟨_, _, _, _, _, _, h⟩
    · simp
    · exact h
  have := range_u8 (zs := zs.take len) (fun n hn => hz n (List.mem_of_mem_take hn)) i
  simpa [List.getD_eq_getElem?_getD] using this
end Go.Proofs.YtijjkonephjodaaGreatDoor

namespace Go.Proofs.YtijjkonephjodaaGreatDoor
open Go.RowKit
theorem Tryz.infoB : (Tryz.prog.info? 5).map (fun i => (i.zero, i.size, i.bytes)) = some (some (.int .u8 0), 1, 1) := by kernel_rfl

/-- The cells of a reading, as the law on append asks them. -/
theorem rd_news {w : World} {b off : Nat} {l : List Value} (hc : ∀ i, i < l.length → w.cell? ⟨b, off + i, none⟩ = some (l.getD i undef)) : ∀ j u, l[j]? = some u → w.cell? ((⟨b, off, none⟩ : Addr).add j) = some u := by
  intro j u hu
  have hj : j < l.length := by rcases Nat.lt_or_ge j l.length with h | h; exact h; rw [List.getElem?_eq_none h] at hu; cases hu
  have := hc j hj
  rw [List.getD_eq_getElem?_getD, hu] at this
  unfold Addr.add
  split
  · rename_i h0; subst h0; simpa using this
  · simpa using this
def OneCells (l : List Value) : Prop := ∀ u ∈ l, u.oneCell' = true
theorem one_u8s (l : List Int) : OneCells (u8s l) := ints_oneCell _ _
theorem one_i64s (l : List Int) : OneCells (i64s l) := ints_oneCell _ _

/-- A new slice of elements e that reads as l is handed back; nothing that was there has turned. -/
def OwnedBy (T : TypeId) (w : World) (l : List Value) (e : Ending) (w' : World) : Prop := ∃ v', e = .returned v' ∧ w'.ownsRow w.heap.size T 1 v' l.length l ∧ Mods [] w w'

set_option maxHeartbeats 400000 in
theorem cloneB_ok (w : World) (v : Value) (l : List Value) (hv : Rd w v l) (h1 : OneCells l) (hl : l.length ≤ 1000000) :
    Calls Tryz.prog 119 #[v] w fun e w' => OwnedBy 5 w l e w' := by
  obtain ⟨ad, cap, rfl, hcap, hcap2, hvc⟩ := hv
  obtain ⟨i0, hi, hz0, hz1, hz2⟩ := info_parts Tryz.infoB
  have hq := fun (w : World) (a : Option Addr) (n c : Nat) => Lib.run_eql_slice_nil (P := Tryz.prog) w 121 5 a n c 0 0 Tryz.underlying121
  cases ad with
  | none =>
    have hl0 : l = [] := by
      rcases Nat.eq_zero_or_pos l.length with h | h
      · exact List.eq_nil_of_length_eq_zero h
      · obtain ⟨b, off, h, _⟩ := hvc 0 h; cases h
    subst hl0
    clear hvc
    go_enter Tryz.func119, Tryz.ntmps119
    go_wp2
    go_ret
    exact ⟨_, rfl, World.ownsRow_nil _ _ _ _, Mods.refl⟩
  | some a =>
    have hnews : ∀ j u, l[j]? = some u → w.cell? (a.add j) = some u := by
      rcases Nat.eq_zero_or_pos l.length with h | h
      · intro j u hj; rw [List.eq_nil_of_length_eq_zero h] at hj; simp at hj
      · obtain ⟨b, off, ha, hc⟩ := hvc 0 h
        cases ha
        refine rd_news fun i hi => ?_
        obtain ⟨b', off', ha, hc⟩ := hvc i hi
        cases ha
        exact hc
    have HN := Lib.hid hnews
    have H1 := Lib.hid h1
    clear hvc hnews h1
    go_enter Tryz.func119, Tryz.ntmps119
    go_wp2_with (at_builtin; refine wpList_append_own _ rfl (.tmp 5) (.tmp 6) 121 rfl w.heap.size 5 i0 (.int .u8 0) 1 1 Tryz.underlying121 hi hz0 hz1 hz2 rfl (by decide) _ 0 [] rfl (World.ownsRow_lit w #[] 0 (Nat.le_refl _) (Nat.zero_le _) rfl) a l.length cap l rfl (by simp) ?c1 H1.out ?c3 ?c4 ?c5 ?_)
    case c1 =>
      intro j u hj
      have h2 := HN.out j u hj
      exact (Mods.refl (S := [])).alloc _ |>.cell h2 (by simp)
    case c3 => unfold maxLen; omega
    case c4 => omega
    case c5 => simp
    intro v' w1 hown' hgrow _
    have HO := Lib.hid hown'
    have HG := Lib.hid hgrow
    clear hown' hgrow
    go_wp2
    go_ret
    exact ⟨_, rfl, HO.out, (Mods.refl.alloc _).grown HG.out (by intro k hk; simp [Value.ownBlock] at hk; right; omega)⟩


/-- The byte that completes the sum. -/
def sum8 (A : List Int) : Int := -(A.sum) % 256
def seal8 (A : List Int) : List Int := A ++ [sum8 A]
theorem sum_step (A : List Int) (k : Nat) (hk : k < A.length) : ((A.take k).sum % 256 + A.getD k 0) % 256 = (A.take (k + 1)).sum % 256 := by
  rw [List.take_add_one, List.getElem?_eq_getElem hk, List.sum_append, List.getD_eq_getElem?_getD, List.getElem?_eq_getElem hk]
  simp
theorem sum8_byte (A : List Int) : 0 ≤ sum8 A ∧ sum8 A ≤ 255 := by unfold sum8; omega
end Go.Proofs.YtijjkonephjodaaGreatDoor

namespace Go.Proofs.YtijjkonephjodaaGreatDoor
open Go.RowKit Go.Shelf

attribute [local go_sem] Oper.semAt_some

set_option maxRecDepth 100000 in
set_option maxHeartbeats 1000000 in
theorem values1_in (n : Nat) (hn : 1 ≤ n) (l Bs n₀ b off cap : Nat) (A : List Int) (hA : A.length ≤ 1000) (J Jx : List Int → World → Prop)
    (hY : ∀ pre x W, J pre W → pre.length < A.length → YieldAt Fence.wide (n - 1) Tryz.prog l #[.int .u8 x] W fun e W' =>
      (e = .returned (.bool true) ∧ J (pre ++ [x]) W' ∧ Below n₀ W W') ∨ (e = .returned (.bool false) ∧ Jx (pre ++ [x]) W'))
    (W : World) (hBs : W.cell? ⟨Bs, 0, none⟩ = some (.slice (some ⟨b, off, none⟩) A.length cap)) (hb : b < n₀) (hC : ∀ i, i < A.length → W.cell? ⟨b, off + i, none⟩ = some (.int .u8 (A.getD i 0))) (h0 : J [] W) :
    CallsIn Fence.wide n Tryz.prog 124 #[.func (.yield l) #[] #[], .pointer (some ⟨Bs, 0, none⟩)] W fun e W' => (∃ v, e = .returned v) ∧
      ((∃ ys, ys = A ∧ J ys W') ∨ (∃ pre, pre <+: A ∧ Jx pre W')) := by
  refine callsIn_of_wp Tryz.func124 rfl trivial ?_ rfl
  simp only [Tryz.ntmps124, List.size_toArray, List.length_cons, List.length_nil, Nat.reduceAdd, Nat.reduceSub, Array.replicate_succ, Array.replicate_zero, List.push_toArray, List.append_toArray, List.nil_append, List.cons_append]
  have HY := Lib.hid hY
  have HC := Lib.hid hC
  clear hY hC
  gi_wp2
  gi_loopw [7] (fun i wr => ∃ j : Nat, j ≤ A.length ∧ i = .int .i64 j ∧ J (A.take j) wr ∧ Below n₀ W wr) (fun i _ => A.length - (intOf i).toNat)
  case atStart => exact ⟨0, Nat.zero_le _, rfl, h0, Below.refl _ _⟩
  case round =>
    obtain ⟨j, hj, rfl, hJs, hB⟩ := hrel
    by_cases hlt : j < A.length
    · have c0 := (hB.cell (p := ⟨b, off + j, none⟩) hb).trans (HC.out j hlt)
      have i0 : (0 : Int) ≤ (j : Int) := by omega
      have i1 : (j : Int) < (A.length : Int) := by omega
      obtain ⟨fn, tmps, assign, body, hy, hR⟩ := HY.out _ (A.getD j 0) wr hJs (by rw [List.length_take]; omega)
      have HT := Lib.hid (take_snocI hlt)
      generalize A.getD j 0 = x at *
      gi_wp2
      refine hR.mono ?_
      rintro e W3 (⟨rfl, hJ3, hk3⟩ | ⟨rfl, hJx3⟩)
      · gi_wp2
        go_roundw
        case rel => exact ⟨j + 1, by omega, by go_num, by rw [HT.out]; exact hJ3, hB.trans hk3⟩
        case measure => simp [intOf]; omega
      · gi_wp2
        refine bodyPost_ret (results_none rfl _ _ _) rfl ?_
        exact ⟨⟨_, rfl⟩, .inr ⟨_, by rw [← HT.out]; exact List.take_prefix _ _, hJx3⟩⟩
    · have hjk : j = A.length := by omega
      rw [hjk, List.take_length] at hJs
      gi_wp2
      go_end0
      exact ⟨⟨_, rfl⟩, .inl ⟨_, rfl, hJs⟩⟩
theorem values_stops (n : Nat) (hn : 1 ≤ n) (Bs n₀ b off cap : Nat) (A : List Int) (hA : A.length ≤ 1000) (w : World) (h1 : Bs < w.heap.size) (h2 : n₀ ≤ w.heap.size) (hb : b < n₀)
    (hBs : w.cell? ⟨Bs, 0, none⟩ = some (.slice (some ⟨b, off, none⟩) A.length cap)) (hC : ∀ i, i < A.length → w.cell? ⟨b, off + i, none⟩ = some (.int .u8 (A.getD i 0))) :
    SeqStopsK Fence.wide n Tryz.prog 124 #[.pointer (some ⟨Bs, 0, none⟩)] (fun x : Int => #[Value.int .u8 x]) (Below n₀) (fun ys => ys = A) (fun pre => pre <+: A) A.length w := fun l J Jx W hW _ _ hY h0 =>
  values1_in n hn l Bs n₀ b off cap A hA J Jx hY W ((hW.cell (p := ⟨Bs, 0, none⟩) h1).trans hBs) hb (fun i hi => (hW.cell (p := ⟨b, off + i, none⟩) (Nat.lt_of_lt_of_le hb h2)).trans (hC i hi)) h0
set_option maxHeartbeats 1000000 in
theorem values_ok (v : Value) (w : World) (ad : Option Addr) (k cap : Nat) (hv : v = .slice ad k cap) :
    Calls Tryz.prog 92 #[v] w fun e w' => e = .returned (.func (.func 124) #[] #[.pointer (some ⟨w.heap.size, 0, none⟩)]) ∧ w' = w.alloc (.cells #[v] 121) := by
  subst hv
  go_enter Tryz.func92, Tryz.ntmps92
  go_wp2
  go_ret
  exact ⟨rfl, rfl⟩
set_option maxRecDepth 100000 in
set_option maxHeartbeats 2000000 in
/-- slices.AppendSeq(nil, slices.Values(a)). -/
theorem appendSeq_in (n : Nat) (h3 : 3 ≤ n) (Bs b off cap : Nat) (A : List Int) (hA : A.length ≤ 1000) (w : World) (h1 : Bs < w.heap.size) (hb : b < w.heap.size)
    (hBs : w.cell? ⟨Bs, 0, none⟩ = some (.slice (some ⟨b, off, none⟩) A.length cap)) (hC : ∀ i, i < A.length → w.cell? ⟨b, off + i, none⟩ = some (.int .u8 (A.getD i 0))) :
    CallsIn Fence.wide n Tryz.prog 151 #[.slice none 0 0, .func (.func 124) #[] #[.pointer (some ⟨Bs, 0, none⟩)]] w fun e w' => ∃ v, e = .returned v ∧ w'.ownsRow w.heap.size 5 1 v A.length (u8s A) ∧ Below w.heap.size w w' := by
  obtain ⟨i0, hi, hz0, hz1, hz2⟩ := info_parts Tryz.infoB
  refine callsIn_of_wp_marks Tryz.func151 rfl trivial ?_ rfl
  simp only [Tryz.ntmps151, List.size_toArray, List.length_cons, List.length_nil, Nat.reduceAdd, Nat.reduceSub, Array.replicate_succ, Array.replicate_zero, List.push_toArray, List.append_toArray, List.nil_append, List.cons_append]
  have bO := Boxed.new w 121 (.slice none 0 0)
  have hB0 : Below w.heap.size w (w.alloc (.cells #[.slice none 0 0] 121)) := (Below.refl _ w).alloc (Nat.le_refl _) _
  have HC := Lib.hid hC
  clear hC
  gi_wp2
  refine wpIn_rangeFunc_ownG rfl (by omega) (gf := 124) (lb := #[.pointer (some ⟨Bs, 0, none⟩)]) rfl trivial (enters_of Tryz.func124 (by kernel_rfl) rfl)
    (values_stops (n - 1) (by omega) Bs w.heap.size b off cap A hA _ (by simp; omega) (by simp) hb ((hB0.cell (p := ⟨Bs, 0, none⟩) h1).trans hBs) (fun i hi => (hB0.cell (p := ⟨b, off + i, none⟩) hb).trans (HC.out i hi))) belowK_t (belowK_b (by simp)) (Below.refl _ _) (fun _ => rfl)
    (fun pre W => (∃ v, Boxed W w.heap.size 121 v ∧ W.ownsRow w.heap.size 5 1 v pre.length (u8s pre) ∧ True) ∧ Below w.heap.size w W)
    (fun _ _ _ => False)
    (OwnFrom.and (Own.from (holdsRow_own w.heap.size w.heap.size 121 5 1 (fun pre : List Int => pre.length) (fun pre => u8s pre) (fun _ _ => True)) _) (ownFrom_below (Nat.le_refl _) (by simp)))
    (fun _ _ _ _ _ hs _ _ => hs)
    ⟨⟨_, bO, World.ownsRow_nil _ _ _ _, trivial⟩, hB0⟩ ?a1 ?assign ?body ?done ?stop
  case assign =>
    intro l x W K hK
    gi_wp2
    exact hK
  case body =>
    rintro l pre x W ⟨⟨v, hv, hrow, -⟩, hB⟩ hlt
    have hc := hv.cell
    have hsz := hB.size
    gi_wp2_with (gi_at_builtin; refine wpListIn_append_own _ rfl _ _ 121 rfl w.heap.size 5 i0 (.int .u8 0) 1 1 Tryz.underlying121 hi hz0 hz1 hz2 rfl (by decide) _ _ _ rfl (hrow.alloc _) ⟨W.heap.size, 0, none⟩ 1 1 [.int .u8 x] rfl rfl (cell_one_new _ _ _) (by simp [Value.oneCell']) (by unfold maxLen; omega) (by omega) (by simp; omega) ?_; intro v' w1 hown' hgrow _; obtain ⟨g', cap', rfl⟩ := ownsRow_succ hown'; obtain ⟨hv1, hv2, hr2, hk2, hb2⟩ := hv.appended (by decide) hrow hB.size (Nat.le_refl _) hown' hgrow; have hc1 := hv1.cell; have hf1 := hv1.frozen)
    exact ⟨hk2.from _, hb2, ⟨_, hv2, by simpa [u8s] using hr2, trivial⟩, hB.trans hb2⟩
  case done =>
    rintro D ys W hD rfl ⟨⟨v, hv, hrow, -⟩, hB⟩ hK
    have hc := hv.cell
    gi_wp2
    refine ⟨by simp, .inl ⟨_, _, rfl, run_takeDeferred hK, ?_⟩⟩
    exact ⟨_, results_tmp rfl _ _ _, v, rfl, ownsRow_putObj hrow _ hK rfl, hB.trans (belowK_b (w := w) (Nat.le_refl _) W D _ _ (by simp at hD; omega) hK rfl rfl)⟩
  case stop =>
    rintro D c pre W _ _ h
    exact h.elim
set_option maxHeartbeats 1000000 in
theorem collect_ok (Bs b off cap : Nat) (A : List Int) (hA : A.length ≤ 1000) (w : World) (h1 : Bs < w.heap.size) (hb : b < w.heap.size)
    (hBs : w.cell? ⟨Bs, 0, none⟩ = some (.slice (some ⟨b, off, none⟩) A.length cap)) (hC : ∀ i, i < A.length → w.cell? ⟨b, off + i, none⟩ = some (.int .u8 (A.getD i 0))) :
    Calls Tryz.prog 122 #[.func (.func 124) #[] #[.pointer (some ⟨Bs, 0, none⟩)]] w fun e w' => OwnedBy 5 w (u8s A) e w' := by
  have H := Lib.hid (callsIn_wide.1 (appendSeq_in 3 (by omega) Bs b off cap A hA w h1 hb hBs hC))
  clear hC hBs
  go_enter Tryz.func122, Tryz.ntmps122
  go_wp2_with fail
  refine H.out.mono ?_
  rintro e w1 ⟨v, rfl, ho, hbl⟩
  go_wp2
  go_ret
  exact ⟨_, rfl, by rw [u8s_length]; exact ho, Mods.of_below hbl⟩
end Go.Proofs.YtijjkonephjodaaGreatDoor

namespace Go.Proofs.YtijjkonephjodaaGreatDoor
open Go.RowKit Go.Shelf Go.Sort

def layS6_ren : Go.Shelf.Ren := ⟨fun | 6 => 123 | 15 => 153 | 14 => 152 | 28 => 171 | 29 => 172 | 20 => 163 | 21 => 164 | 22 => 165 | 23 => 166 | 24 => 167 | 25 => 168 | 26 => 169 | 27 => 170 | 46 => 183 | 47 => 184 | 48 => 185 | 49 => 186 | 50 => 187 | 57 => 191 | n => n, fun | 22 => 121 | 24 => 5 | 25 => 170 | 3 => 3 | 39 => 144 | 0 => 0 | 53 => 62 | 55 => 221 | 4 => 4 | 46 => 213 | 45 => 212 | 50 => 217 | 5 => 5 | 9 => 9 | 66 => 229 | 70 => 233 | 76 => 237 | 77 => 202 | n => n, fun | n => n⟩
theorem layS6 : _root_.Go.Proofs.SlLaysF.n6 Tryz.prog layS6_ren := {
  mixed := by kernel_rfl
  f6 := ⟨Tryz.f123.name, by decide, Tryz.func123.trans (congrArg some (by kernel_rfl))⟩
  f14 := ⟨Tryz.f152.name, by decide, Tryz.func152.trans (congrArg some (by kernel_rfl))⟩
  f15 := Tryz.func153.trans (congrArg some (by kernel_rfl))
  f20 := ⟨Tryz.f163.name, by decide, Tryz.func163.trans (congrArg some (by kernel_rfl))⟩
  f21 := ⟨Tryz.f164.name, by decide, Tryz.func164.trans (congrArg some (by kernel_rfl))⟩
  f22 := ⟨Tryz.f165.name, by decide, Tryz.func165.trans (congrArg some (by kernel_rfl))⟩
  f23 := ⟨Tryz.f166.name, by decide, Tryz.func166.trans (congrArg some (by kernel_rfl))⟩
  f24 := ⟨Tryz.f167.name, by decide, Tryz.func167.trans (congrArg some (by kernel_rfl))⟩
  f25 := ⟨Tryz.f168.name, by decide, Tryz.func168.trans (congrArg some (by kernel_rfl))⟩
  f26 := ⟨Tryz.f169.name, by decide, Tryz.func169.trans (congrArg some (by kernel_rfl))⟩
  f27 := ⟨Tryz.f170.name, by decide, Tryz.func170.trans (congrArg some (by kernel_rfl))⟩
  f28 := Tryz.func171.trans (congrArg some (by kernel_rfl))
  f29 := Tryz.func172.trans (congrArg some (by kernel_rfl))
  f46 := ⟨Tryz.f183.name, by decide, Tryz.func183.trans (congrArg some (by kernel_rfl))⟩
  f47 := Tryz.func184.trans (congrArg some (by kernel_rfl))
  f48 := Tryz.func185.trans (congrArg some (by kernel_rfl))
  f49 := ⟨Tryz.f186.name, by decide, Tryz.func186.trans (congrArg some (by kernel_rfl))⟩
  f50 := ⟨Tryz.f187.name, by decide, Tryz.func187.trans (congrArg some (by kernel_rfl))⟩
  f57 := ⟨Tryz.f191.name, by decide, Tryz.func191.trans (congrArg some (by kernel_rfl))⟩
  t0 := Tryz.underlying0
  a0 := Tryz.isAgg0
  z0 := Tryz.sizeOf0
  v0 := Tryz.zeroValue0
  t3 := Tryz.underlying3
  a3 := Tryz.isAgg3
  z3 := Tryz.sizeOf3
  v3 := Tryz.zeroValue3
  t4 := Tryz.underlying4
  a4 := Tryz.isAgg4
  z4 := Tryz.sizeOf4
  v4 := Tryz.zeroValue4
  t5 := Tryz.underlying5
  a5 := Tryz.isAgg5
  z5 := Tryz.sizeOf5
  v5 := Tryz.zeroValue5
  t9 := Tryz.underlying9
  a9 := Tryz.isAgg9
  z9 := Tryz.sizeOf9
  v9 := Tryz.zeroValue9
  t22 := Tryz.underlying121
  a22 := Tryz.isAgg121
  z22 := Tryz.sizeOf121
  v22 := Tryz.zeroValue121
  a24 := Tryz.isAgg5
  z24 := Tryz.sizeOf5
  t25 := Tryz.underlying170
  a25 := Tryz.isAgg170
  z25 := Tryz.sizeOf170
  v25 := Tryz.zeroValue170
  t39 := Tryz.underlying144
  a39 := Tryz.isAgg144
  z39 := Tryz.sizeOf144
  v39 := Tryz.zeroValue144
  t45 := Tryz.underlying212
  a45 := Tryz.isAgg212
  z45 := Tryz.sizeOf212
  v45 := Tryz.zeroValue212
  t46 := Tryz.underlying213
  a46 := Tryz.isAgg213
  z46 := Tryz.sizeOf213
  v46 := Tryz.zeroValue213
  t50 := Tryz.underlying217
  a50 := Tryz.isAgg217
  z50 := Tryz.sizeOf217
  v50 := Tryz.zeroValue217
  t53 := Tryz.underlying62
  a53 := Tryz.isAgg62
  z53 := Tryz.sizeOf62
  v53 := Tryz.zeroValue62
  t55 := Tryz.underlying221
  a55 := Tryz.isAgg221
  z55 := Tryz.sizeOf221
  v55 := Tryz.zeroValue221
  t66 := Tryz.underlying229
  a66 := Tryz.isAgg229
  z66 := Tryz.sizeOf229
  v66 := Tryz.zeroValue229
  t70 := Tryz.underlying233
  a70 := Tryz.isAgg233
  z70 := Tryz.sizeOf233
  v70 := Tryz.zeroValue233
  t76 := Tryz.underlying237
  a76 := Tryz.isAgg237
  z76 := Tryz.sizeOf237
  v76 := Tryz.zeroValue237
  t77 := Tryz.underlying202
  a77 := Tryz.isAgg202
  z77 := Tryz.sizeOf202
  v77 := Tryz.zeroValue202 }
def layL125_ren : Go.Shelf.Ren := ⟨fun | 125 => 153 | 128 => 171 | 129 => 172 | n => n, fun | 46 => 144 | 3 => 3 | 51 => 62 | 53 => 221 | 4 => 4 | 5 => 5 | 9 => 9 | n => n, fun | n => n⟩
theorem layL125 : _root_.Go.Proofs.Lays.n125 Tryz.prog layL125_ren := {
  mixed := by kernel_rfl
  f125 := Tryz.func153.trans (congrArg some (by kernel_rfl))
  f128 := Tryz.func171.trans (congrArg some (by kernel_rfl))
  f129 := Tryz.func172.trans (congrArg some (by kernel_rfl))
  t3 := Tryz.underlying3
  a3 := Tryz.isAgg3
  z3 := Tryz.sizeOf3
  v3 := Tryz.zeroValue3
  t4 := Tryz.underlying4
  a4 := Tryz.isAgg4
  z4 := Tryz.sizeOf4
  v4 := Tryz.zeroValue4
  t5 := Tryz.underlying5
  a5 := Tryz.isAgg5
  z5 := Tryz.sizeOf5
  v5 := Tryz.zeroValue5
  t9 := Tryz.underlying9
  a9 := Tryz.isAgg9
  z9 := Tryz.sizeOf9
  v9 := Tryz.zeroValue9
  t46 := Tryz.underlying144
  a46 := Tryz.isAgg144
  z46 := Tryz.sizeOf144
  v46 := Tryz.zeroValue144
  t51 := Tryz.underlying62
  a51 := Tryz.isAgg62
  z51 := Tryz.sizeOf62
  v51 := Tryz.zeroValue62
  t53 := Tryz.underlying221
  a53 := Tryz.isAgg221
  z53 := Tryz.sizeOf221
  v53 := Tryz.zeroValue221 }

/-- -1, 0 or 1. -/
def cmpI (a b : Int) : Int := if a < b then -1 else if b < a then 1 else 0
set_option maxHeartbeats 1000000 in
theorem cmpInt_ok (a b : Int) (w : World) : Calls Tryz.prog 94 #[.int .i64 a, .int .i64 b] w fun e w' => e = .returned (.int .i64 (cmpI a b)) ∧ w = w' := by
  have HN : ∀ (x : Int) (w : World), Calls Tryz.prog 125 #[.int .i64 x] w fun e w' => e = .returned (.bool false) ∧ w = w' := fun x w => by
    have hx : (x != x) = false := by simp
    go_enter Tryz.func125, Tryz.ntmps125
    go_wp2
    go_ret
    exact ⟨rfl, rfl⟩
  have HH := Lib.hid HN
  clear HN
  have HC := Lib.hid (show cmpI a b = if a < b then -1 else if b < a then 1 else 0 from rfl)
  go_enter Tryz.func94, Tryz.ntmps94
  go_wp2_with (go_at_call 125; refine (HH.out _ _).mono ?_; rintro e w' ⟨rfl, rfl⟩)
  all_goals
    go_ret
    exact ⟨ret_int (by rw [HC.out]; repeat (first | rw [if_pos (by omega)] | rw [if_neg (by omega)])), rfl⟩
set_option maxRecDepth 100000 in
set_option maxHeartbeats 1000000 in
/-- The comparison of two raw readings: the sensor's block is read. -/
theorem readCl_ok (sgn : Bool) (gS : Nat) (x y : Nat) (hx : x < 256) (hy : y < 256) (w : World) (hs : w.cell? ⟨gS, 8, none⟩ = some (.bool sgn)) :
    Calls Tryz.prog 93 #[.int .u8 (x : Int), .int .u8 (y : Int), .pointer (some ⟨gS, 0, none⟩)] w fun e w' => e = .returned (.int .i64 (cmpI (numI sgn x) (numI sgn y))) ∧ ∃ q, w' = w.drewN q := by
  have NX := Lib.hid (number_ok sgn x hx)
  have NY := Lib.hid (number_ok sgn y hy)
  have HC := Lib.hid (cmpInt_ok (numI sgn x) (numI sgn y))
  generalize numI sgn x = a at NX HC ⊢
  generalize numI sgn y = b at NY HC ⊢
  generalize cmpI a b = r at HC ⊢
  have HS := Lib.hid (show ∀ W : World, (∃ q, W = w.drewN q) → W.cell? ⟨gS, 8, none⟩ = some (.bool sgn) from by rintro W ⟨q, rfl⟩; exact hs)
  clear hs
  go_enter Tryz.func93, Tryz.ntmps93
  go_wp2_with fail
  refine heldStart (S := fun W => ∃ q, W = w.drewN q) 12 rfl (by kernel_rfl) ⟨1, rfl⟩ (fun hHeld => ?_)
  refine takeD (i := 0) (d := 6) (v := ?_) rfl rfl (by kernel_rfl) (by kernel_rfl) (by kernel_rfl) (fun _ _ _ h => h) (Or.inl ⟨by rfl, ?_⟩) hHeld ?_
  rotate_left 1
  · (intro w hSw; (try dsimp only at hSw); go_simp; (try with_reducible rfl))
  simp only [List.setIfInBounds_toArray, List.set_cons_zero, List.set_cons_succ]
  refine takeD (i := 1) (d := 7) (v := ?_) rfl rfl (by kernel_rfl) (by kernel_rfl) (by kernel_rfl) (fun _ _ _ h => h) (Or.inl ⟨by rfl, ?_⟩) hHeld ?_
  rotate_left 1
  · (intro w hSw; (try dsimp only at hSw); go_simp; (try with_reducible rfl))
  simp only [List.setIfInBounds_toArray, List.set_cons_zero, List.set_cons_succ]
  refine takeD (i := 2) (d := 8) (v := (.bool sgn)) rfl rfl (by kernel_rfl) (by kernel_rfl) (by kernel_rfl) (fun _ _ _ h => h) (Or.inl ⟨by rfl, fun w hSw => ?_⟩) hHeld ?_
  · have cst := HS.out _ hSw
    go_simp
  simp only [List.setIfInBounds_toArray, List.set_cons_zero, List.set_cons_succ]
  refine takeD (i := 3) (d := 9) (v := ?_) rfl rfl (by kernel_rfl) (by kernel_rfl) (by kernel_rfl) (fun _ _ _ h => h) (Or.inl ⟨by rfl, ?_⟩) hHeld ?_
  rotate_left 1
  · (intro w hSw; (try dsimp only at hSw); go_simp; (try with_reducible rfl))
  simp only [List.setIfInBounds_toArray, List.set_cons_zero, List.set_cons_succ]
  refine takeD (i := 5) (d := 11) (v := ?_) rfl rfl (by kernel_rfl) (by kernel_rfl) (by kernel_rfl) (fun _ _ _ h => h) (Or.inl ⟨by rfl, ?_⟩) hHeld ?_
  rotate_left 1
  · (intro w hSw; (try dsimp only at hSw); go_simp; (try with_reducible rfl))
  simp only [List.setIfInBounds_toArray, List.set_cons_zero, List.set_cons_succ]
  refine takeD (i := 6) (d := 12) (v := ?_) rfl rfl (by kernel_rfl) (by kernel_rfl) (by kernel_rfl) (fun _ _ _ h => h) (Or.inl ⟨by rfl, ?_⟩) hHeld ?_
  rotate_left 1
  · (intro w hSw; (try dsimp only at hSw); go_simp; (try with_reducible rfl))
  simp only [List.setIfInBounds_toArray, List.set_cons_zero, List.set_cons_succ]
  refine takeD (i := 7) (d := 13) (v := (.bool sgn)) rfl rfl (by kernel_rfl) (by kernel_rfl) (by kernel_rfl) (fun _ _ _ h => h) (Or.inl ⟨by rfl, fun w hSw => ?_⟩) hHeld ?_
  · have cst := HS.out _ hSw
    go_simp
  simp only [List.setIfInBounds_toArray, List.set_cons_zero, List.set_cons_succ]
  refine takeD (i := 8) (d := 14) (v := ?_) rfl rfl (by kernel_rfl) (by kernel_rfl) (by kernel_rfl) (fun _ _ _ h => h) (Or.inl ⟨by rfl, ?_⟩) hHeld ?_
  rotate_left 1
  · (intro w hSw; (try dsimp only at hSw); go_simp; (try with_reducible rfl))
  simp only [List.setIfInBounds_toArray, List.set_cons_zero, List.set_cons_succ]
  refine wpAnyH_ready (rs := [4]) (by kernel_rfl) (by simp) ?_
  refine AllReadyH.cons rfl (fun K hK => ?_) AllReadyH.nil
  go_simp
  go_wp2_with (go_at_call 95; refine (NX.out _).mono ?_; rintro e w' ⟨rfl, rfl⟩)
  refine hK.out _ _ ?_ (fun hHeld => ?_)
  · exact hHeld
  clear hK K
  refine wpAnyH_ready (rs := [9]) (by kernel_rfl) (by simp) ?_
  refine AllReadyH.cons rfl (fun K hK => ?_) AllReadyH.nil
  go_simp
  go_wp2_with (go_at_call 95; refine (NY.out _).mono ?_; rintro e w' ⟨rfl, rfl⟩)
  refine hK.out _ _ ?_ (fun hHeld => ?_)
  · exact hHeld
  clear hK K
  refine wpAnyH_ready (rs := [10]) (by kernel_rfl) (by simp) ?_
  refine AllReadyH.cons rfl (fun K hK => ?_) AllReadyH.nil
  go_simp
  go_wp2_with (go_at_call 94; refine (HC.out _).mono ?_; rintro e w' ⟨rfl, rfl⟩)
  refine hK.out _ _ ?_ (fun hHeld => ?_)
  · exact hHeld
  clear hK K
  refine takeD (i := 11) (d := 5) (v := ?_) rfl rfl (by kernel_rfl) (by kernel_rfl) (by kernel_rfl) (fun _ _ _ h => h) (Or.inl ⟨by rfl, ?_⟩) hHeld ?_
  rotate_left 1
  · (intro w hSw; (try dsimp only at hSw); go_simp; (try with_reducible rfl))
  simp only [List.setIfInBounds_toArray, List.set_cons_zero, List.set_cons_succ]
  refine wpAnyH_done (by kernel_rfl) ?_ _
  go_wp2_with fail
  go_ret
  exact ⟨rfl, hHeld⟩
def encB (x : Fin 256) : Value := .int .u8 ((x.val : Nat) : Int)
def cfB (sgn : Bool) (x y : Fin 256) : Int := cmpI (numI sgn x.val) (numI sgn y.val)
theorem ltB (sgn : Bool) (x y : Fin 256) : ltOf (cfB sgn) x y = decide (numI sgn x.val < numI sgn y.val) := by
  unfold ltOf cfB cmpI
  by_cases h : numI sgn x.val < numI sgn y.val
  · rw [if_pos h]; simp [h]
  · rw [if_neg h]
    by_cases h2 : numI sgn y.val < numI sgn x.val
    · rw [if_pos h2]; simp [h]
    · rw [if_neg h2]; simp [h]
theorem swoB (sgn : Bool) : SWO (ltOf (cfB sgn)) := by
  refine ⟨fun x => ?_, fun x y z h1 h2 => ?_, fun x y z h1 h2 => ?_⟩
  · rw [ltB]; simp
  · rw [ltB] at *; simp only [decide_eq_true_eq] at *; omega
  · rw [ltB] at *; simp only [decide_eq_false_iff_not] at *; omega
theorem Mods.putRow {α : Type} [Inhabited α] (enc : α → Value) (w : World) (blk off : Nat) (d : Array α) : Mods [blk] w (Sort.putRow enc w blk off d) := by
  unfold Sort.putRow Sort.mapBlock
  refine ⟨rfl, rfl, rfl, by simp, fun k _ hn => ?_⟩
  simp only [List.mem_singleton] at hn
  show (w.heap.modify blk _)[k]? = w.heap[k]?
  rw [Array.getElem?_modify, if_neg (fun h => hn h.symm)]
def toF (x : Int) : Fin 256 := ⟨x.toNat % 256, Nat.mod_lt _ (by omega)⟩
theorem encB_toF {x : Int} (h : 0 ≤ x ∧ x ≤ 255) : encB (toF x) = .int .u8 x := by
  unfold encB toF
  have : ((x.toNat % 256 : Nat) : Int) = x := by omega
  simp only [this]
theorem bytes_mem {A : List Int} (hb : Bytes A) : ∀ x ∈ A, 0 ≤ x ∧ x ≤ 255 := fun x hx => by
  obtain ⟨i, hi, rfl⟩ := List.mem_iff_getElem.1 hx
  have := hb i
  rwa [List.getD_eq_getElem?_getD, List.getElem?_eq_getElem hi] at this
theorem map_toF {A : List Int} (hb : Bytes A) : ((A.map toF).toArray.toList.map fun x : Fin 256 => ((x.val : Nat) : Int)) = A := by
  show ((A.map toF).map fun x : Fin 256 => ((x.val : Nat) : Int)) = A
  rw [List.map_map]
  refine (List.map_congr_left (g := id) fun x hx => ?_).trans (List.map_id _)
  have := bytes_mem hb x hx
  show ((x.toNat % 256 : Nat) : Int) = x
  omega
def SortedRes (w : World) (sgn : Bool) (A : List Int) (e : Ending) (w' : World) : Prop :=
  ∃ v l, e = .returned v ∧ Rd w' v (u8s l) ∧ l.Perm A ∧ (l.Pairwise fun x y => numZ sgn x ≤ numZ sgn y) ∧ Mods [] w w'
theorem arr_getD {d : Array (Fin 256)} {j : Nat} (h : j < d.size) : d[j]! = d[j] := getElem!_pos d j h
set_option maxRecDepth 100000 in
set_option maxHeartbeats 2000000 in
theorem sortedFunc_ok (sgn : Bool) (gS Bs b off cap : Nat) (A : List Int) (hA : A.length ≤ 12) (hA1 : 1 ≤ A.length) (hb : Bytes A) (w : World) (h1 : Bs < w.heap.size) (h2 : b < w.heap.size)
    (hs : w.cell? ⟨gS, 8, none⟩ = some (.bool sgn)) (hBs : w.cell? ⟨Bs, 0, none⟩ = some (.slice (some ⟨b, off, none⟩) A.length cap)) (hC : ∀ i, i < A.length → w.cell? ⟨b, off + i, none⟩ = some (.int .u8 (A.getD i 0))) :
    Calls Tryz.prog 91 #[.func (.func 124) #[] #[.pointer (some ⟨Bs, 0, none⟩)], .func (.func 93) #[] #[.pointer (some ⟨gS, 0, none⟩)]] w
      fun e w' => SortedRes w sgn A e w' := by
  have HCO := Lib.hid (collect_ok Bs b off cap A (by omega) w h1 h2 hBs hC)
  have HS := Lib.hid hs
  have HBy := Lib.hid hb
  have hgS : gS < w.heap.size := World.block_lt_of_cell? w _ hs
  clear hC hBs hs
  go_enter Tryz.func91, Tryz.ntmps91
  go_wp2_with fail
  refine HCO.out.mono ?_
  rintro e w1 ⟨v, rfl, O1, M1⟩
  obtain ⟨g, cp, cur, hv, -⟩ := owns_form O1 (by rw [u8s_length]; omega)
  rw [u8s_length] at hv
  subst hv
  have hg := (World.ownsRow.lt O1 g rfl).1
  have hrd := Rd.own O1
  have HM1 := Lib.hid M1
  have hs1 := M1.cell HS.out (by simp)
  obtain ⟨d, hd⟩ : ∃ d : Array (Fin 256), d = (A.map toF).toArray := ⟨_, rfl⟩
  have hds : d.size = A.length := by rw [hd]; simp
  have hdj : ∀ j, j < A.length → d[j]! = toF (A.getD j 0) := fun j hj => by
    rw [arr_getD (by omega)]
    simp [hd, List.getD_eq_getElem?_getD, hj]
  have hH : Holds encB w1 g 0 d := fun j hj => by
    rw [hds] at hj
    obtain ⟨_, _, he, _, _, hc⟩ := hrd.u8
    injection he with he1 _ _
    obtain ⟨b', o', he2, hx⟩ := hc j hj
    rw [← he1] at he2
    injection he2 with he2
    injection he2 with e1 e2
    subst e1 e2
    refine ⟨by rw [hx, hdj j hj, encB_toF (hb j)], ?_⟩
    obtain ⟨_, _, cur', hv', hg', _⟩ := owns_form O1 (by rw [u8s_length]; omega)
    injection hv' with hv1 _ _
    injection hv1 with hv1
    injection hv1 with hv1 _
    subst hv1
    exact froz_blk hg' _
  have hcap : A.length ≤ cp ∧ cp ≤ maxLen := by
    obtain ⟨_, _, he, hl, hl2, _⟩ := hrd.u8
    injection he with _ _ he3
    subst he3
    exact ⟨hl, hl2⟩
  have eg : ∀ args w, (callFunc 93 args).run Tryz.prog w = .ok (.enter 93 args) w := enters_of Tryz.func93 (by kernel_rfl) rfl
  have hcmp : CmpReads Tryz.prog 93 #[.pointer (some ⟨gS, 0, none⟩)] encB (cfB sgn) g 0 d.size w1 := fun m os dk hdk x y =>
    readCl_ok sgn gS x.val y.val x.isLt y.isLt _ ((cell?_sortWorld_other encB w1 g 0 m dk os ⟨gS, 8, none⟩ (by show gS ≠ g; omega) (by show gS < w1.heap.size; have := M1.size; omega)).trans hs1)
  have hlen : ∀ (n : Nat) (W : World), n ≤ 12 → Calls Tryz.prog (layS6_ren.f 15) #[.int .u64 n] W fun e w' => (∃ l : Int, e = .returned (.int .i64 l)) ∧ w' = W := fun n W h =>
    (Any.bits_Len layL125 n W (by omega) (by omega)).mono fun _ _ ⟨he, hw⟩ => ⟨⟨_, he⟩, hw⟩
  have hcon := Any.slices_SortFunc_small_sorted layS6 encB (fun _ => rfl) (cfB sgn) (swoB sgn) 93 #[.pointer (some ⟨gS, 0, none⟩)] g 0 cp d w1 eg hcmp hH (by omega) hlen
  change Calls Tryz.prog 123 _ _ _ at hcon
  rw [hds] at hcon
  have HCON := Lib.hid hcon
  have HHO := Lib.hid hH
  have HDJ := Lib.hid hdj
  have HD := Lib.hid hd
  clear hcon hlen hcmp eg hH hdj hd hrd O1 M1 hs1
  go_wp2_with fail
  refine HCON.out.mono ?_
  rintro e w2 ⟨rfl, d', n, hp, hso, rfl⟩
  go_wp2_with fail
  go_ret
  have hsz : d'.size = A.length := hp.1.trans hds
  have hl : (d'.toList.map fun x : Fin 256 => ((x.val : Nat) : Int)).length = A.length := by simp [hsz]
  refine ⟨.slice (some ⟨g, 0, none⟩) A.length cp, d'.toList.map fun x : Fin 256 => ((x.val : Nat) : Int), rfl, ?_, ?_, ?_, ?_⟩
  · refine ⟨some ⟨g, 0, none⟩, cp, by rw [u8s_length, hl], by rw [u8s_length, hl]; exact hcap.1, hcap.2, fun i hi => ⟨g, 0, rfl, ?_⟩⟩
    · rw [u8s_length, hl] at hi
      have := cell?_putRow encB w1 g 0 d d' HHO.out hp.1 i (by omega)
      rw [u8s_getD _ _ (by rw [hl]; exact hi)]
      refine this.trans ?_
      rw [arr_getD (by omega)]
      simp [encB, List.getD_eq_getElem?_getD, show i < d'.size by omega]
  · have h3 := hp.2.2
    rw [show A.length = d'.size from hsz.symm] at h3
    rw [Array.extract_size, show d'.size = d.size from hp.1, Array.extract_size] at h3
    have h4 := h3.map fun x : Fin 256 => ((x.val : Nat) : Int)
    refine h4.trans ?_
    rw [HD.out]
    exact List.Perm.of_eq (map_toF HBy.out)
  · rw [List.pairwise_map, List.pairwise_iff_getElem]
    intro i j hi hj hij
    simp only [Array.length_toList] at hi hj
    have := hso i j (Nat.zero_le _) hij (by omega)
    rw [ltB, arr_getD hi, arr_getD hj, decide_eq_false_iff_not] at this
    simp only [Array.getElem_toList, numZ, Int.toNat_natCast]
    omega
  · exact (HM1.out.comp ((Mods.putRow encB w1 g 0 d').drewN n) (fun k hk => by simp at hk; subst hk; exact .inr hg))
end Go.Proofs.YtijjkonephjodaaGreatDoor

namespace Go.Proofs.YtijjkonephjodaaGreatDoor
open Go.RowKit

theorem fltB_eq (S : Sen) (P : List Pt) (W : List Int) (n : Int) : fltB S P W n = (validB S P && decide ((W.length : Int) ≤ S.samples ∧ 0 ≤ n ∧ n ≤ 3 ∧ (n < 3 ∨ W.length = 0))) := rfl
/-- A filter in a world. -/
structure IsFlt (w : World) (win : Value) (W : List Int) (n : Int) : Prop where
  rd : Rd w win (u8s W)
  byt : Bytes W
  len : W.length ≤ 1000
  n : I64 n
theorem IsFlt.mods {S : List Nat} {w w' : World} {win : Value} {W : List Int} {n : Int} (h : IsFlt w win W n) (M : Mods S w w') (hn : W ≠ [] → ∀ k, win.ownBlock = some k → k ∉ S) : IsFlt w' win W n :=
  ⟨h.rd.mods M fun h0 => hn fun h1 => h0 (by rw [h1]; rfl), h.byt, h.len, h.n⟩
theorem IsFlt.mods0 {w w' : World} {win : Value} {W : List Int} {n : Int} (h : IsFlt w win W n) (M : Mods [] w w') : IsFlt w' win W n := ⟨h.rd.mods0 M, h.byt, h.len, h.n⟩
def fltC (win : Value) (n : Int) : Array Value := #[win, .int .i64 n]
set_option maxRecDepth 100000 in
set_option maxHeartbeats 4000000 in
theorem samValid_ok (w : World) (S : Sen) (P : List Pt) (win : Value) (W : List Int) (n : Int) (hS : IsSen w S P) (hF : IsFlt w win W n) :
    Calls Tryz.prog 90 #[.agg S.cells, .agg #[win, .int .i64 n]] w fun e w' => e = .returned (.bool (fltB S P W n)) ∧ Mods [] w w' := by
  have HS := Lib.hid hS
  obtain ⟨ad, cap, rfl, h1, h2, -⟩ := hF.rd.u8
  have h3 : cap ≤ 9223372036854775807 := h2
  have hlen := hF.len
  clear hS hF h2
  have R1 := heap_alloc_new (w.alloc (.cells S.cells 40)) (.cells #[.slice ad W.length cap, .int .i64 n] 123)
  rw [World.size_alloc] at R1
  have HB := Lib.hid (SenBox.mk (heap_alloc (o' := .cells #[.slice ad W.length cap, .int .i64 n] 123) (heap_alloc_new w (.cells S.cells 40))))
  have HR1 := Lib.hid R1
  have HM0 := Lib.hid (((Mods.refl (S := []) (w := w)).alloc (.cells S.cells 40)).alloc (.cells #[.slice ad W.length cap, .int .i64 n] 123))
  obtain ⟨_, _, _, _, _, _, x27⟩ := S.restc
  clear R1
  have HV := Lib.hid (fltB_eq S P W n)
  go_enter Tryz.func90, Tryz.ntmps90
  go_wp2_with (refine wpList_load_sen rfl (.tmp 2) rfl HB.out (by rfl) ?_)
  refine (valid_ok _ S P (HS.out.mods0 HM0.out)).mono ?_
  rintro e w1 ⟨rfl, M1⟩
  have HM1 := Lib.hid (HM0.out.trans M1)
  have RB := (M1.heap HB.out.blk (by simp))
  have RF := (M1.heap HR1.out (by simp))
  have y0 : w1.cell? ⟨w.heap.size, 27, none⟩ = some (.int .i64 S.samples) := (cell_blk RB 27).trans x27
  have y1 : w1.cell? ⟨w.heap.size + 1, 0, none⟩ = some (.slice ad W.length cap) := (cell_blk RF 0).trans rfl
  have y2 : w1.cell? ⟨w.heap.size + 1, 1, none⟩ = some (.int .i64 n) := (cell_blk RF 1).trans rfl
  clear M1 RB RF HB HR1 HM0 HS x27
  cases hvb : validB S P with
  | false =>
    go_wp2_with fail
    go_ret
    exact ⟨ret_bool (by rw [HV.out, hvb]; rfl), HM1.out⟩
  | true =>
    replace HV := Lib.hid (HV.out.trans ((congrArg (· && _) hvb).trans (Bool.true_and _)))
    have hb : ((W.length : Int) == 0) = decide (W.length = 0) := by rw [Bool.eq_iff_iff]; simp
    go_wp2_with fail
    all_goals
      go_ret
      exact ⟨ret_bool (by rw [HV.out]; first | exact (decide_eq_true (by omega)).symm | exact (decide_eq_false (by omega)).symm | (rw [Bool.eq_iff_iff]; simp; omega) | (rw [Bool.eq_iff_iff, decide_eq_true_eq, decide_eq_true_eq, ← List.length_eq_zero_iff]; omega)), HM1.out⟩
set_option maxRecDepth 100000 in
set_option maxHeartbeats 4000000 in
theorem refSamValid_ok (w : World) (S : Sen) (P : List Pt) (win : Value) (W : List Int) (n : Int) (hS : IsSen w S P) (hF : IsFlt w win W n) :
    Calls Tryz.prog 138 #[.agg S.cells, .agg #[win, .int .i64 n]] w fun e w' => e = .returned (.bool (fltB S P W n)) ∧ Mods [] w w' := by
  have HS := Lib.hid hS
  obtain ⟨ad, cap, rfl, h1, h2, -⟩ := hF.rd.u8
  have h3 : cap ≤ 9223372036854775807 := h2
  have hlen := hF.len
  clear hS hF h2
  have R1 := heap_alloc_new (w.alloc (.cells S.cells 40)) (.cells #[.slice ad W.length cap, .int .i64 n] 123)
  rw [World.size_alloc] at R1
  have HB := Lib.hid (SenBox.mk (heap_alloc (o' := .cells #[.slice ad W.length cap, .int .i64 n] 123) (heap_alloc_new w (.cells S.cells 40))))
  have HR1 := Lib.hid R1
  have HM0 := Lib.hid (((Mods.refl (S := []) (w := w)).alloc (.cells S.cells 40)).alloc (.cells #[.slice ad W.length cap, .int .i64 n] 123))
  obtain ⟨_, _, _, _, _, _, x27⟩ := S.restc
  clear R1
  have HV := Lib.hid (fltB_eq S P W n)
  go_enter Tryz.func138, Tryz.ntmps138
  go_wp2_with (refine wpList_load_sen rfl (.tmp 2) rfl HB.out (by rfl) ?_)
  refine (refValid_ok _ S P (HS.out.mods0 HM0.out)).mono ?_
  rintro e w1 ⟨rfl, M1⟩
  have HM1 := Lib.hid (HM0.out.trans M1)
  have RB := (M1.heap HB.out.blk (by simp))
  have RF := (M1.heap HR1.out (by simp))
  have y0 : w1.cell? ⟨w.heap.size, 27, none⟩ = some (.int .i64 S.samples) := (cell_blk RB 27).trans x27
  have y1 : w1.cell? ⟨w.heap.size + 1, 0, none⟩ = some (.slice ad W.length cap) := (cell_blk RF 0).trans rfl
  have y2 : w1.cell? ⟨w.heap.size + 1, 1, none⟩ = some (.int .i64 n) := (cell_blk RF 1).trans rfl
  clear M1 RB RF HB HR1 HM0 HS x27
  cases hvb : validB S P with
  | false =>
    go_wp2_with fail
    go_ret
    exact ⟨ret_bool (by rw [HV.out, hvb]; rfl), HM1.out⟩
  | true =>
    replace HV := Lib.hid (HV.out.trans ((congrArg (· && _) hvb).trans (Bool.true_and _)))
    have hb : ((W.length : Int) == 0) = decide (W.length = 0) := by rw [Bool.eq_iff_iff]; simp
    go_wp2_with fail
    all_goals
      go_ret
      exact ⟨ret_bool (by rw [HV.out]; first | exact (decide_eq_true (by omega)).symm | exact (decide_eq_false (by omega)).symm | (rw [Bool.eq_iff_iff]; simp; omega) | (rw [Bool.eq_iff_iff, decide_eq_true_eq, decide_eq_true_eq, ← List.length_eq_zero_iff]; omega)), HM1.out⟩
end Go.Proofs.YtijjkonephjodaaGreatDoor
