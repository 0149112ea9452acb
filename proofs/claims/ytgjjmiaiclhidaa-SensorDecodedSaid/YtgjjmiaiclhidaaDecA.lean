/- Joined texts. Numbers read from bytes: convert.read, the reference's Number and signed; contracts. | convert.length: contract. What bytes a conversion is decoded from, as plain data. | A region in a round of a range over a function goes as everywhere, if it defers nothing: from the plain calculus into the fenced one. | slices.Chunk of bytes by sevens: its iterator's contract. | A drawn region under a condition that is held till its last store: 'x.f = append(x.f, ..)'. | convert.Decode: what it gives, as plain data; laws beside. -/
import Derived.Test.YtgjjmiaiclhidaaBaseK
import Derived.Test.YtgjjmiaiclhidaaBaseI
import Derived.Test.YtgjjmiaiclhidaaBaseF
import Derived.RangeFuncNested
import Derived.RangeFuncBound
import Derived.RangeFuncCalls
import Derived.RangeFuncLeaves
import Derived.RangeFuncBox
import Derived.OrdersIn
import Derived.TacticsInMore
import Derived.LoopNIn
import Derived.LoopIn
import Derived.OwnWalkIn
import Derived.Test.YtgjjmiaiclhidaaBaseB
import Derived.BigQuiet
namespace Go.Proofs.Ytgjjmiaiclhidaa
open Go.RowKit

/-- The number of bytes, the least significant one first. -/
def leN : List Int → Int
  | [] => 0
  | b :: l => b + 256 * leN l
/-- .. in two's complement. -/
def sgnL (A : List Int) : Int := leN A - if 128 ≤ A.getD (A.length - 1) 0 then 256 ^ A.length else 0
theorem leN_cons (b : Int) (l : List Int) : leN (b :: l) = b + 256 * leN l := rfl
theorem sgnL_cons (b : Int) {l : List Int} (hl : l ≠ []) : sgnL (b :: l) = b + 256 * sgnL l := by
  have hp := List.length_pos_iff.2 hl
  unfold sgnL
  have e : (b :: l).getD ((b :: l).length - 1) 0 = l.getD (l.length - 1) 0 := by
    rw [List.length_cons, Nat.add_sub_cancel]
    obtain ⟨k, hk⟩ : ∃ k, l.length = k + 1 := ⟨l.length - 1, by omega⟩
    rw [hk, List.getD_cons_succ, Nat.add_sub_cancel]
  rw [e, leN_cons, List.length_cons, Int.pow_succ]
  split <;> omega
theorem sgnL_one (x : Int) : sgnL [x] = if 128 ≤ x then x - 256 else x := by
  unfold sgnL leN leN
  simp
  split <;> omega
theorem leN_bd {A : List Int} (h : Bytes A) : 0 ≤ leN A ∧ leN A < 256 ^ A.length := by
  induction A with
  | nil => simp [leN]
  | cons b l ih =>
    have hb := h 0
    have := ih (fun i => h (i + 1))
    simp only [List.getD_cons_zero] at hb
    rw [leN_cons, List.length_cons, Int.pow_succ]
    omega
theorem sgnL_bd {A : List Int} (h : Bytes A) (hl : A ≠ []) : -(128 * 256 ^ (A.length - 1)) ≤ sgnL A ∧ sgnL A < 128 * 256 ^ (A.length - 1) := by
  induction A with
  | nil => exact absurd rfl hl
  | cons b l ih =>
    have hb := h 0
    simp only [List.getD_cons_zero] at hb
    rw [List.length_cons, Nat.add_sub_cancel]
    by_cases h0 : l = []
    · subst h0
      rw [sgnL_one]
      simp
      split <;> omega
    · have := ih (fun i => h (i + 1)) h0
      obtain ⟨k, hk⟩ : ∃ k, l.length = k + 1 := ⟨l.length - 1, by have := List.length_pos_iff.2 h0; omega⟩
      rw [sgnL_cons b h0]
      rw [hk, Nat.add_sub_cancel] at this
      rw [hk, Int.pow_succ]
      omega
theorem wrap_cong {x y : Int} (h : x % 18446744073709551616 = y % 18446744073709551616) : IntKind.i64.wrap x = IntKind.i64.wrap y := by
  have e : ∀ z : Int, IntKind.i64.wrap z = (if IntKind.i64.signed ∧ z % 18446744073709551616 ≥ 9223372036854775808 then z % 18446744073709551616 - 18446744073709551616 else z % 18446744073709551616) := fun z => by
    simp only [IntKind.wrap, IntKind.bits, IntKind.signed]
    simp
  rw [e, e, h]
theorem or_join (x b : Int) (h : -36028797018963968 ≤ x ∧ x ≤ 36028797018963967) (hb : 0 ≤ b ∧ b ≤ 255) : bits .or .i64 (256 * x) b = 256 * x + b := by
  obtain ⟨B, rfl⟩ := Int.eq_ofNat_of_zero_le hb.1
  show IntKind.i64.wrap ((BitVec.ofInt 64 (256 * x) ||| BitVec.ofInt 64 (B : Int)).toNat : Int) = _
  rw [BitVec.toNat_or, ofInt_u64 B (by omega)]
  obtain ⟨X, hX⟩ : ∃ X, X = (BitVec.ofInt 64 (256 * x)).toNat := ⟨_, rfl⟩
  have hX2 : (X : Int) = (256 * x) % 18446744073709551616 := by rw [hX, BitVec.toNat_ofInt]; omega
  rw [← hX, nat_join 8 X B (by omega) (by omega)]
  rw [wrap_cong (y := 256 * x + (B : Int)) (by omega)]
  exact IntWalk.i64_in _ (by omega)
theorem i8_wrap (x : Int) (h : 0 ≤ x ∧ x ≤ 255) : IntKind.i8.wrap x = if 128 ≤ x then x - 256 else x := by
  simp only [IntKind.wrap, IntKind.bits, IntKind.signed]
  simp
  split <;> split <;> omega
theorem drop_last {A : List Int} (h : 1 ≤ A.length) : A.drop (A.length - 1) = [A.getD (A.length - 1) 0] := by
  rw [List.drop_eq_getElem_cons (by omega), List.drop_eq_nil_of_le (by omega), List.getD_eq_getElem?_getD, List.getElem?_eq_getElem (by omega)]; rfl
theorem drop_step {A : List Int} {k : Nat} (h : k < A.length) : A.drop k = A.getD k 0 :: A.drop (k + 1) := by
  rw [List.drop_eq_getElem_cons h, List.getD_eq_getElem?_getD, List.getElem?_eq_getElem h]; rfl
theorem Bytes.drop {A : List Int} (h : Bytes A) (k : Nat) : Bytes (A.drop k) := fun i => by
  have := h (k + i)
  simpa [List.getD_eq_getElem?_getD, List.getElem?_drop] using this
set_option maxRecDepth 100000 in
set_option maxHeartbeats 1000000 in
theorem read_ok (w : World) (v : Value) (A : List Int) (hv : Rd w v (u8s A)) (hb : Bytes A) (hl1 : 1 ≤ A.length) (hl7 : A.length ≤ 7) :
    Calls Try.prog 105 #[v] w fun e w' => e = .returned (.int .i64 (sgnL A)) ∧ w = w' := by
  have HV := Lib.hid hv
  have HB := Lib.hid hb
  obtain ⟨ad, cap, rfl, h1, h2, hc⟩ := hv.u8
  have h3 : cap ≤ 9223372036854775807 := h2
  obtain ⟨bb, off, rfl, x0⟩ := hc (A.length - 1) (by omega)
  have HC := Lib.hid (fun i (hi : i < A.length) => show w.cell? ⟨bb, off + i, none⟩ = some (.int .u8 (A.getD i 0)) from by
    obtain ⟨b', o', he, hx⟩ := hc i hi
    cases he
    exact hx)
  clear hv hb h2 hc
  have hbx := HB.out (A.length - 1)
  have HS := Lib.hid (show sgnL (A.drop (A.length - 1)) = IntKind.i8.wrap (A.getD (A.length - 1) 0) by rw [drop_last hl1, sgnL_one, i8_wrap _ hbx])
  generalize A.getD (A.length - 1) 0 = x at x0 hbx HS
  have HW := Lib.hid (show wrap64 (IntKind.i8.wrap x) = IntKind.i8.wrap x from IntWalk.wrap64_in _ (by rw [i8_wrap _ hbx]; split <;> omega))
  have e1 : ((A.length : Int) - 1).toNat = A.length - 1 := by omega
  have i1 : (0 : Int) ≤ (A.length : Int) - 1 := by omega
  obtain ⟨hb0, hb1⟩ := hbx
  go_enter Try.func105, Try.ntmps105
  go_wp2_with fail
  clear x0 e1 i1 hb0 hb1
  go_loopw [3, 4] (fun s i wr => ∃ k : Nat, k + 1 ≤ A.length ∧ i = .int .i64 ((k : Int) - 1) ∧ s = .int .i64 (sgnL (A.drop k)) ∧ wr = w) (fun _ i _ => ((intOf i) + 1).toNat)
  case atStart => exact ⟨A.length - 1, by omega, by rw [show ((A.length - 1 : Nat) : Int) - 1 = (A.length : Int) - 2 by omega], by rw [HS.out, HW.out], rfl⟩
  case round =>
    obtain ⟨k, hk, rfl, rfl, rfl⟩ := hrel
    by_cases hlt : 1 ≤ k
    · obtain ⟨j, rfl⟩ : ∃ j, k = j + 1 := ⟨k - 1, by omega⟩
      have xj := HC.out j (by omega)
      have hbj := HB.out j
      have HST := Lib.hid (show sgnL (A.drop j) = A.getD j 0 + 256 * sgnL (A.drop (j + 1)) by rw [drop_step (A := A) (k := j) (by omega)]; exact sgnL_cons _ (by intro h; have := congrArg List.length h; simp at this; omega))
      have hsb : -36028797018963968 ≤ sgnL (A.drop (j + 1)) ∧ sgnL (A.drop (j + 1)) ≤ 36028797018963967 := by
        have := sgnL_bd (HB.out.drop (j + 1)) (by intro h; have := congrArg List.length h; simp at this; omega)
        have hle := (show ∀ m : Nat, m < 6 → (256 : Int) ^ m ≤ 1099511627776 by decide) ((A.drop (j + 1)).length - 1) (by simp; omega)
        omega
      generalize A.getD j 0 = y at xj hbj HST
      generalize sgnL (A.drop (j + 1)) = s at hsb HST ⊢
      have hor := or_join s y hsb hbj
      rw [Int.mul_comm] at hor
      obtain ⟨hs0, hs1⟩ := hsb
      obtain ⟨hy0, hy1⟩ := hbj
      have e1 : ((j + 1 : Nat) : Int) - 1 = (j : Int) := by omega
      rw [e1]
      have i1 : (0 : Int) ≤ (j : Int) := by omega
      have i2 : (j : Int) < (A.length : Int) := by omega
      go_wp2_with fail
      exact ⟨⟨j, by omega, rfl, by rw [HST.out]; go_num, by first | rfl | trivial⟩, by simp only [intOf]; omega⟩
    · have hk0 : k = 0 := by omega
      subst hk0
      rw [List.drop_zero]
      generalize hs : sgnL A = s
      have HSA := Lib.hid hs
      clear hs
      go_wp2_with fail
      go_ret
      exact ⟨by rw [HSA.out]; rfl, rfl⟩
end Go.Proofs.Ytgjjmiaiclhidaa

namespace Go.Proofs.Ytgjjmiaiclhidaa
open Go.RowKit

theorem andNot128 (x : Int) (h : 0 ≤ x ∧ x ≤ 255) : bits .andNot .u8 x 128 = x % 128 := by
  rw [u8_andNot x 128 h.1 (by omega) (by omega) (by omega)]
  rw [show (255 - (128 : Int).toNat) = 127 from rfl, nat_mask7]
  omega
theorem and128 (x : Int) (h : 0 ≤ x ∧ x ≤ 255) : bits .and .u8 x 128 = if 128 ≤ x then 128 else 0 := by
  rw [u8_and x 128 h.1 (by omega) (by omega) (by omega)]
  rw [show ((128 : Int).toNat) = 2 ^ 7 from rfl, nat_bit]
  split <;> omega
/-- How many bytes a conversion has, or what is wrong. -/
def lenC (A : List Int) : Int × Int :=
  if A = [] then (0, 4) else if A.getD 0 0 % 128 < 1 ∨ 5 < A.getD 0 0 % 128 then (0, 6) else if A.getD 0 0 % 128 ≠ 5 then (7, 0)
  else if A.length = 1 then (0, 4) else if A.getD 1 0 < 2 ∨ 12 < A.getD 1 0 then (0, 6) else (2 + 7 * A.getD 1 0, 0)
set_option maxRecDepth 100000 in
set_option maxHeartbeats 2000000 in
theorem length_ok (w : World) (v : Value) (A : List Int) (hv : Rd w v (u8s A)) (hb : Bytes A) :
    Calls Try.prog 103 #[v] w fun e w' => e = .returned (.tuple #[.int .i64 (lenC A).1, .int .i64 (lenC A).2]) ∧ w = w' := by
  obtain ⟨ad, cap, rfl, h1, h2, hc⟩ := hv.u8
  have h3 : cap ≤ 9223372036854775807 := h2
  have HU := Lib.hid (show lenC A = if A = [] then (0, 4) else if A.getD 0 0 % 128 < 1 ∨ 5 < A.getD 0 0 % 128 then (0, 6) else if A.getD 0 0 % 128 ≠ 5 then (7, 0)
    else if A.length = 1 then (0, 4) else if A.getD 1 0 < 2 ∨ 12 < A.getD 1 0 then (0, 6) else (2 + 7 * A.getD 1 0, 0) from rfl)
  by_cases h0 : A = []
  · subst h0
    go_enter Try.func103, Try.ntmps103
    go_wp2_with fail
    go_ret2
    exact ⟨rfl, rfl⟩
  · have hp : 0 < A.length := List.length_pos_iff.2 h0
    have e0 : ((A.length : Int) == 0) = false := by simp; omega
    obtain ⟨bb, off, rfl, x0⟩ := hc 0 hp
    have hb0 := hb 0
    have HX1 := Lib.hid (fun (hl : 1 < A.length) => show w.cell? ⟨bb, off + 1, none⟩ = some (.int .u8 (A.getD 1 0)) from by
      obtain ⟨b', o', he, hx⟩ := hc 1 hl
      cases he
      exact hx)
    have hb1 := hb 1
    rw [if_neg h0] at HU
    rw [Nat.add_zero] at x0
    clear hv hb h2 hc h0
    generalize A.getD 0 0 = x at x0 hb0 HU
    generalize A.getD 1 0 = y at HX1 hb1 HU
    have ea := andNot128 x hb0
    have hf : 0 ≤ x % 128 ∧ x % 128 ≤ 127 := by omega
    generalize x % 128 = f at ea hf HU
    obtain ⟨f0, f1⟩ := hf
    have i0 : (0 : Int) < (A.length : Int) := by omega
    by_cases hf1 : f < 1 ∨ 5 < f
    · have HR := Lib.hid (HU.out.trans (if_pos hf1))
      rcases hf1 with hf1 | hf1
      · have d1 : decide (f < 1) = true := decide_eq_true hf1
        go_enter Try.func103, Try.ntmps103
        go_wp2_with fail
        go_ret2
        exact ⟨by rw [HR.out]; rfl, rfl⟩
      · have d1 : decide (f < 1) = false := decide_eq_false (by omega)
        have d2 : decide (f > 5) = true := decide_eq_true hf1
        go_enter Try.func103, Try.ntmps103
        go_wp2_with fail
        go_ret2
        exact ⟨by rw [HR.out]; rfl, rfl⟩
    · have d1 : decide (f < 1) = false := decide_eq_false (by omega)
      have d2 : decide (f > 5) = false := decide_eq_false (by omega)
      have HU := Lib.hid (HU.out.trans (if_neg hf1))
      by_cases h5 : f = 5
      · have d3 : (f != 5) = false := by simpa using h5
        have HU := Lib.hid (HU.out.trans (if_neg (fun h => h h5)))
        clear h5
        by_cases hl : A.length = 1
        · have d4 : ((A.length : Int) == 1) = true := by simp; omega
          have HR := Lib.hid (HU.out.trans (if_pos hl))
          clear hl
          go_enter Try.func103, Try.ntmps103
          go_wp2_with fail
          go_ret2
          exact ⟨by rw [HR.out]; rfl, rfl⟩
        · have d4 : ((A.length : Int) == 1) = false := by simp; omega
          have x1 := HX1.out (by omega)
          have i1 : (1 : Int) < (A.length : Int) := by omega
          have HU := Lib.hid (HU.out.trans (if_neg hl))
          by_cases hy : y < 2 ∨ 12 < y
          · have HR := Lib.hid (HU.out.trans (if_pos hy))
            rcases hy with hy | hy
            · have d5 : decide (y < 2) = true := decide_eq_true hy
              go_enter Try.func103, Try.ntmps103
              go_wp2_with fail
              go_ret2
              exact ⟨by rw [HR.out]; rfl, rfl⟩
            · have d5 : decide (y < 2) = false := decide_eq_false (by omega)
              have d6 : decide (y > 12) = true := decide_eq_true hy
              go_enter Try.func103, Try.ntmps103
              go_wp2_with fail
              go_ret2
              exact ⟨by rw [HR.out]; rfl, rfl⟩
          · have d5 : decide (y < 2) = false := decide_eq_false (by omega)
            have d6 : decide (y > 12) = false := decide_eq_false (by omega)
            have HR := Lib.hid (HU.out.trans (if_neg hy))
            obtain ⟨y0, y1⟩ := hb1
            go_enter Try.func103, Try.ntmps103
            go_wp2_with fail
            go_ret2
            exact ⟨by rw [HR.out]; rfl, rfl⟩
      · have d3 : (f != 5) = true := by simpa using h5
        have HR := Lib.hid (HU.out.trans (if_pos h5))
        clear h5
        go_enter Try.func103, Try.ntmps103
        go_wp2_with fail
        go_ret2
        exact ⟨by rw [HR.out]; rfl, rfl⟩
end Go.Proofs.Ytgjjmiaiclhidaa

namespace Go.Proofs.Ytgjjmiaiclhidaa
open Go.RowKit

section
variable {P : Program} {ops : Array Oper} {Q : Exit → Act → World → Prop} {S : World → Prop} {md : Region.Mode} {l n : Nat}
theorem rowsIn_round {row : String} {args : Array Value} {w : World} {R : Value → World → Prop} (h : Rows P row args w R) : RowsIn (Fence.wide.inRound l) n P row args w R := fun c cs _ => by
  obtain ⟨v, w', hr, hs⟩ := h c cs
  exact ⟨v, w', hr, (stepsIn_wide (P := P)).2 hs⟩
theorem uponIn_round {o : Oper} {a : Act} {K : Act → World → Prop} {r : Result Next} (h : o.upon P a K Q r) : o.uponIn (Fence.wide.inRound l) n P a K Q r := by
  cases r with
  | ok x w' =>
    cases x with
    | enter f args => exact ⟨fun h => by simp [Fence.wide] at h, (callsIn_wide.2 h).inRound l⟩
    | row row args => exact ⟨fun h => by simp [Fence.wide] at h, rowsIn_round h⟩
    | round l f tmps assign body => exact h.elim
    | _ => exact h
  | halt x w' => cases x <;> exact h
def noDefer (ops : Array Oper) : Bool := ops.all fun o => match o.op with | .defer _ => false | _ => true
theorem noDefer_at (h : noDefer ops = true) {i : Nat} {o : Oper} (ho : ops[i]? = some o) : ∀ c, o.op ≠ .defer c := fun c hc => by
  have hi := (Array.getElem?_eq_some_iff.1 ho)
  obtain ⟨hi, he⟩ := hi
  have := (Array.all_eq_true.1 h) i hi
  rw [he, hc] at this
  cases this
theorem wpIn_round {o : Oper} (ho : ∀ c, o.op ≠ .defer c) {a : Act} {w : World} {K : Act → World → Prop} (h : o.wp P a w K Q) : o.wpIn (Fence.wide.inRound l) n P a w K Q := by
  refine ⟨fun _ _ => trivial, ?_⟩
  rw [Oper.semAt_eq _ _ _ ho]
  exact uponIn_round h
theorem wpOpIn_round (hd : noDefer ops = true) (hL : ¬ LetsOut Q) {i : Nat} {K : Act → World → Prop} {a : Act} {w : World} (h : wpOp P ops Q i K a w) : wpOpIn (Fence.wide.inRound l) n P ops Q i K a w := by
  unfold wpOp at h
  unfold wpOpIn
  cases ho : ops[i]? with
  | none => simpa [ho] using h
  | some o =>
    simp only [ho] at h ⊢
    by_cases hw : Region.wanted o (yielded ops a.tmps) = true
    · simp only [hw, if_true] at h ⊢
      rcases h with h | h
      · exact wpIn_round (noDefer_at hd ho) h
      · exact absurd h.2 hL
    · simp only [hw, Bool.false_eq_true, if_false] at h ⊢
      exact ⟨fun _ _ => trivial, h⟩
theorem wpAnyIn_round (hd : noDefer ops = true) (hL : ¬ LetsOut Q) : ∀ (fuel : Nat) (listed : Array Bool) (a : Act) (w : World), wpAny P md ops Q fuel listed a w → wpAnyIn (Fence.wide.inRound l) n P md ops Q fuel listed a w
  | 0, _, _, _, h => h
  | fuel + 1, _, _, _, h => ⟨h.1, fun i hi => wpOpIn_mono (fun a' w' h' => wpAnyIn_round hd hL fuel _ a' w' h') (wpOpIn_round hd hL (h.2 i hi))⟩
/-- A drawn region in a round, under a condition that is held. -/
theorem heldStartR {lo : List Oper} {id : Nat} {a : Act} {w : World} (m : Nat) (hn : lo.length = m) (hm : P.follows .mixedOrders = true) (hd : noDefer lo.toArray = true) (hL : ¬ LetsOut Q) (hS : S w.drew)
    (h : S w.drew → wpAnyH P .any lo.toArray Q S m (Array.replicate m false) a w.drew) : (Code.region id lo.toArray true).wpIn (Fence.wide.inRound l) n P Q a w := by
  have h := h hS
  rw [← hn] at h
  refine wpIn_region_any hm (wpAnyIn_round hd hL _ _ _ _ ?_)
  simpa using wpAny_of_held _ _ _ _ h
theorem wpOpsIn_round (hd : noDefer ops = true) (hL : ¬ LetsOut Q) : ∀ (lo : List Nat) (a : Act) (w : World), wpOps P ops Q lo a w → wpOpsIn (Fence.wide.inRound l) n P ops Q lo a w
  | [], _, _, h => h
  | i :: rest, a, w, h => by
    rw [wpOps_cons] at h
    rw [wpOpsIn_cons]
    exact wpOpIn_mono (fun a' w' h' => wpOpsIn_round hd hL rest a' w' h') (wpOpIn_round hd hL h)
end
end Go.Proofs.Ytgjjmiaiclhidaa

namespace Go.Proofs.Ytgjjmiaiclhidaa
open Go.RowKit

/-- Two blocks lie as they lay. -/
def KeepB (a b : Nat) (W W' : World) : Prop := W'.heap[a]? = W.heap[a]? ∧ W'.heap[b]? = W.heap[b]?
theorem KeepB.refl {a b : Nat} {W : World} : KeepB a b W W := ⟨rfl, rfl⟩
theorem KeepB.trans {a b : Nat} {A B C : World} (h : KeepB a b A B) (k : KeepB a b B C) : KeepB a b A C := ⟨k.1.trans h.1, k.2.trans h.2⟩
theorem KeepB.book {a b : Nat} {w : World} (ha : a < w.heap.size) (hb : b < w.heap.size) (W : World) (l : Nat) (o o' : Obj) (hl : w.heap.size ≤ l) (_ : W.heap[l]? = some o) (_ : o.isCells = false) (_ : o.isWalk = false) : KeepB a b W (W.putObj l o') :=
  ⟨World.putObj_heap_other (by omega), World.putObj_heap_other (by omega)⟩
theorem KeepB.mods {a b : Nat} {S : List Nat} {W W' : World} (h : Mods S W W') (ha : a < W.heap.size) (hb : b < W.heap.size) (na : a ∉ S) (nb : b ∉ S) : KeepB a b W W' := ⟨h.block a ha na, h.block b hb nb⟩
theorem KeepB.cellA {a b : Nat} {W W' : World} (h : KeepB a b W W') (i : Nat) : W'.cell? ⟨a, i, none⟩ = W.cell? ⟨a, i, none⟩ := World.cell?_of_block h.1
theorem KeepB.cellB {a b : Nat} {W W' : World} (h : KeepB a b W W') (i : Nat) : W'.cell? ⟨b, i, none⟩ = W.cell? ⟨b, i, none⟩ := World.cell?_of_block h.2
/-- The chunk number i. -/
def chunkV (b off : Nat) (i : Nat) : Array Value := #[.slice (some ⟨b, off + 7 * i, none⟩) 7 7]
set_option maxRecDepth 100000 in
set_option maxHeartbeats 2000000 in
theorem chunk1_in (n : Nat) (hn : 1 ≤ n) (l Bs Bn b off k cap : Nat) (hk : k ≤ 100) (hcap : 7 * k ≤ cap) (J Jx : List (Fin k) → World → Prop)
    (hJd : ∀ s W, J s W → ∀ m, J s (W.drewN m))
    (hY : ∀ pre (x : Fin k) W, J pre W → pre.length < k → YieldAt Fence.wide (n - 1) Try.prog l (chunkV b off x.val) W fun e W' =>
      (e = .returned (.bool true) ∧ J (pre ++ [x]) W' ∧ KeepB Bs Bn W W') ∨ (e = .returned (.bool false) ∧ Jx (pre ++ [x]) W'))
    (W : World) (hBs : W.cell? ⟨Bs, 0, none⟩ = some (.slice (some ⟨b, off, none⟩) (7 * k) cap)) (hBn : W.cell? ⟨Bn, 0, none⟩ = some (.int .i64 7)) (h0 : J [] W) :
    CallsIn Fence.wide n Try.prog 125 #[.func (.yield l) #[] #[], .pointer (some ⟨Bs, 0, none⟩), .pointer (some ⟨Bn, 0, none⟩)] W fun e W' => (∃ v, e = .returned v) ∧
      ((∃ ys : List (Fin k), ys.map (·.val) = List.range k ∧ J ys W') ∨ (∃ pre : List (Fin k), True ∧ Jx pre W')) := by
  refine callsIn_of_wp Try.func125 rfl trivial ?_ rfl
  simp only [Try.ntmps125, List.size_toArray, List.length_cons, List.length_nil, Nat.reduceAdd, Nat.reduceSub, Array.replicate_succ, Array.replicate_zero, List.push_toArray, List.append_toArray, List.nil_append, List.cons_append]
  have HJD := Lib.hid hJd
  have HY := Lib.hid hY
  clear hJd hY
  gi_wp2
  gi_loopw [4, 5] (fun i _ wr => ∃ (j : Nat) (pre : List (Fin k)), j ≤ k ∧ i = .int .i64 (7 * (j : Int)) ∧ Hid (pre.map (·.val) = List.range j) ∧ J pre wr ∧ KeepB Bs Bn W wr)
    (fun i _ _ => 7 * k - (intOf i).toNat)
  case atStart => exact ⟨0, [], Nat.zero_le _, rfl, Lib.hid rfl, h0, KeepB.refl⟩
  case round =>
    obtain ⟨j, pre, hj, rfl, HP, hJs, hnx⟩ := hrel
    have hpl : pre.length = j := by have := congrArg List.length HP.out; simpa using this
    have cs := (hnx.cellA 0).trans hBs
    have cn := (hnx.cellB 0).trans hBn
    by_cases hlt : j < k
    · have i0 : (0 : Int) ≤ 7 * (j : Int) := by omega
      have i1 : 7 * (j : Int) < 7 * (k : Int) := by omega
      have i2 : 7 * (j : Int) ≤ ((7 * k : Nat) : Int) := by omega
      have e3 : (7 * (j : Int)).toNat = 7 * j := by omega
      have e5 : (7 * k : Nat) - 7 * j = 7 * (k - j) := by omega
      gi_wp2
      refine wpIn_wide.2 ?_
      go_quiet (fail)
      have HJ2 := HJD.out _ _ hJs nq
      have hnx1 : KeepB Bs Bn W (wr.drewN nq) := hnx
      have cs2 : (wr.drewN nq).cell? ⟨Bs, 0, none⟩ = some (.slice (some ⟨b, off, none⟩) (7 * k) cap) := cs
      have cn2 : (wr.drewN nq).cell? ⟨Bn, 0, none⟩ = some (.int .i64 7) := cn
      obtain ⟨fn, tmps, assign, body, hy, hR⟩ := HY.out _ ⟨j, hlt⟩ _ HJ2 (by omega)
      have HP2 := Lib.hid (show (pre ++ [(⟨j, hlt⟩ : Fin k)]).map (·.val) = List.range (j + 1) by rw [List.map_append, HP.out, List.range_succ]; rfl)
      unfold chunkV at hy
      generalize wr.drewN nq = w1 at HJ2 cs2 cn2 hy hR hnx1 ⊢
      gi_wp2
      refine hR.mono ?_
      have hw1 : KeepB Bs Bn W w1 := hnx1
      rintro e W3 (⟨rfl, hJ3, hk3⟩ | ⟨rfl, hJx3⟩)
      · have cn3 := (hk3.cellB 0).trans cn2
        gi_wp2
        go_roundw
        case rel => exact ⟨j + 1, _, by omega, by go_num, HP2, hJ3, hw1.trans hk3⟩
        case measure => simp [intOf]; omega
      · gi_wp2
        refine bodyPost_ret (results_none rfl _ _ _) rfl ?_
        exact ⟨⟨_, rfl⟩, .inr ⟨_, trivial, hJx3⟩⟩
    · have hjk : j = k := by omega
      subst hjk
      gi_wp2
      go_end0
      exact ⟨⟨_, rfl⟩, .inl ⟨_, HP.out, hJs⟩⟩
set_option maxHeartbeats 1000000 in
/-- slices.Chunk itself: the slice and the size are boxed. -/
theorem chunk_ok (ad : Option Addr) (len cap : Nat) (w : World) :
    Calls Try.prog 104 #[.slice ad len cap, .int .i64 7] w fun e w' => e = .returned (.func (.func 125) #[] #[.pointer (some ⟨w.heap.size, 0, none⟩), .pointer (some ⟨w.heap.size + 1, 0, none⟩)]) ∧ w' = (w.alloc (.cells #[.slice ad len cap] 33)).alloc (.cells #[.int .i64 7] 3) := by
  go_enter Try.func104, Try.ntmps104
  go_wp2
  go_ret
  exact ⟨rfl, rfl⟩
/-- The iterator, as a range over it asks. -/
theorem chunk_stops (n : Nat) (hn : 1 ≤ n) (Bs Bn b off k cap : Nat) (hk : k ≤ 100) (hcap : 7 * k ≤ cap) (w : World) (h1 : Bs < w.heap.size) (h2 : Bn < w.heap.size)
    (hBs : w.cell? ⟨Bs, 0, none⟩ = some (.slice (some ⟨b, off, none⟩) (7 * k) cap)) (hBn : w.cell? ⟨Bn, 0, none⟩ = some (.int .i64 7)) :
    SeqStopsK Fence.wide n Try.prog 125 #[.pointer (some ⟨Bs, 0, none⟩), .pointer (some ⟨Bn, 0, none⟩)] (fun x : Fin k => chunkV b off x.val) (KeepB Bs Bn) (fun ys => ys.map (·.val) = List.range k) (fun _ => True) k w := fun l J Jx W hW hJ _ hY h0 =>
  chunk1_in n hn l Bs Bn b off k cap hk hcap J Jx (fun s W h m => hJ s W _ none h ⟨rfl, rfl, rfl, Nat.le_refl _, fun _ _ _ => rfl⟩ (fun r e => by cases e)) hY W
    ((hW.cell (p := ⟨Bs, 0, none⟩) h1).trans hBs) ((hW.cell (p := ⟨Bn, 0, none⟩) h2).trans hBn) h0
end Go.Proofs.Ytgjjmiaiclhidaa

namespace Go.Proofs.Ytgjjmiaiclhidaa
open Go.RowKit

/-- The same, where there is no panic. -/
def noP (Q : Exit → Act → World → Prop) : Exit → Act → World → Prop
  | .panic _, _, _ => False
  | e, a, w => Q e a w
theorem wp_noPanic {P : Program} {c : Code} {Q : Exit → Act → World → Prop} {a : Act} {w : World} (h : c.wp P (noP Q) a w) : c.wp P Q a w := fun b k cs => by
  obtain ⟨e, a', w', hq, ha⟩ := h b k cs
  refine ⟨e, a', w', ?_, ha⟩
  cases e with
  | panic c => exact hq.elim
  | _ => exact hq
section
variable {P : Program} {ops : Array Oper} {Q : Exit → Act → World → Prop} {md : Region.Mode} {S : World → Prop} {last : Nat}
/-- Whatever order is picked from here on, S holds behind every operation that is carried out ahead of the one named. -/
def wpAnyHL (P : Program) (md : Region.Mode) (ops : Array Oper) (Q : Exit → Act → World → Prop) (S : World → Prop) (last : Nat) : Nat → Array Bool → Act → World → Prop
  | 0, listed, a, w => Region.ready md ops listed = [] ∧ Q .normal a w
  | fuel + 1, listed, a, w =>
    (Region.ready md ops listed = [] → Q .normal a w) ∧
    ∀ i ∈ Region.ready md ops listed, wpOp P ops Q i (fun a' w' => (i ≠ last → S w') ∧ wpAnyHL P md ops Q S last fuel (listed.setIfInBounds i true) a' w') a w
theorem wpAny_of_heldL : ∀ (fuel : Nat) (listed : Array Bool) (a : Act) (w : World), wpAnyHL P md ops Q S last fuel listed a w → wpAny P md ops Q fuel listed a w
  | 0, _, _, _, h => h
  | fuel + 1, _, _, _, h => ⟨h.1, fun i hi => wpOp_mono (fun a' w' h' => wpAny_of_heldL fuel _ a' w' h'.2) (h.2 i hi)⟩
/-- The operation 'last' waits for i. -/
def waits (md : Region.Mode) (ops : Array Oper) (last i : Nat) : Bool := match ops[last]? with
  | some o => o.after.any fun e => Region.binds md e && decide (e.on = i)
  | none => false
theorem waits_not {i : Nat} {listed : Array Bool} (hw : waits md ops last i = true) (hi : i ∈ Region.ready md ops listed) : last ∉ Region.ready md ops listed := fun hl => by
  obtain ⟨_, o, ho, hall⟩ := mem_ready.1 hl
  unfold waits at hw
  rw [ho] at hw
  obtain ⟨k, hk, he⟩ := Array.any_eq_true.1 hw
  simp only [Bool.and_eq_true, decide_eq_true_eq] at he
  have h1 := hall _ (Array.getElem_mem hk) he.1
  rw [he.2] at h1
  have h0 := (mem_ready.1 hi).1
  rcases Nat.lt_or_ge i listed.size with h | h
  · simp [h] at h0 h1; rw [h0] at h1; cases h1
  · simp [Array.getElem?_eq_none h] at h1
theorem wpAnyHL_first {i : Nat} {oi : Oper} {v : Value} (hi : ops[i]? = some oi) (hsel : ∀ (j : Nat) (o : Oper) cs b, ops[j]? = some o → o.op ≠ .select cs b) (hw : waits md ops last i = true)
    (hQ : ∀ c a w, Q (.panic c) (a.put oi.dst v) w → Q (.panic c) a w) :
    ∀ (fuel : Nat) (listed : Array Bool) (a : Act) (w : World),
      (∀ j oj, ops[j]? = some oj → j ≠ i → listed.getD j true = false → (∀ e ∈ oj.after, Region.binds md e = true → e.on ≠ i) → oi.apart ops oj = true) →
      i ∈ Region.ready md ops listed → YieldsIf P ops S oi v a → S w →
      wpAnyHL P md ops Q S last fuel (listed.setIfInBounds i true) (a.put oi.dst v) w → wpAnyHL P md ops Q S last (fuel + 1) listed a w := by
  intro fuel
  induction fuel with
  | zero =>
    intro listed a w _ hr hy hS H
    refine ⟨fun h => (by rw [h] at hr; cases hr), fun j hj => ?_⟩
    by_cases hji : j = i
    · subst hji; exact hy.wpOp hi hS ⟨fun _ => hS, H⟩
    · have := ready_mono hj hji
      rw [H.1] at this
      cases this
  | succ fuel ih =>
    intro listed a w hfree hr hy hS H
    refine ⟨fun h => (by rw [h] at hr; cases hr), fun j hj => ?_⟩
    by_cases hji : j = i
    · subst hji; exact hy.wpOp hi hS ⟨fun _ => hS, H⟩
    · have hjl : j ≠ last := fun e => waits_not hw hr (e ▸ hj)
      have h1 := H.2 j (ready_mono hj hji)
      obtain ⟨hjun, oj, hoj, hall⟩ := mem_ready.1 hj
      have hnot : ∀ e ∈ oj.after, Region.binds md e = true → e.on ≠ i := fun e he hb heq => by
        have h1 := hall e he hb
        have h0 := (mem_ready.1 hr).1
        rw [heq] at h1
        rcases Nat.lt_or_ge i listed.size with h' | h'
        · simp [h'] at h0 h1; rw [h0] at h1; cases h1
        · simp [Array.getElem?_eq_none h'] at h1
      have h2 := wpOp_putIf hoj (hfree j oj hoj hji hjun hnot) (fun cs b => hsel i oi cs b hi) (fun cs b => hsel j oj cs b hoj) hQ hy h1
      have hfree' : ∀ k ok, ops[k]? = some ok → k ≠ i → (listed.setIfInBounds j true).getD k true = false →
          (∀ e ∈ ok.after, Region.binds md e = true → e.on ≠ i) → oi.apart ops ok = true := fun k ok hk hki hun hno => by
        refine hfree k ok hk hki ?_ hno
        by_cases hjk : j = k
        · subst hjk; exact hjun
        · rw [getD_set_ne true hjk] at hun; exact hun
      refine wpOp_mono (fun a' w' h3 => ⟨h3.2.1, ih (listed.setIfInBounds j true) a' w' hfree' (ready_mono hr (Ne.symm hji)) h3.1 (h3.2.1 hjl) ?_⟩) h2
      rw [Array.setIfInBounds_comm _ _ hji]
      exact h3.2.2
/-- A take, the slot told. -/
theorem takeL {i d : Nat} {oi : Oper} {v : Value} {fuel : Nat} {listed : Array Bool} {a : Act} {w : World} (hi : ops[i]? = some oi) (hd : oi.dst = some d)
    (hs : Region.noSelect ops = true) (hf : Region.free md ops listed i = true) (hr : (Region.ready md ops listed).contains i = true)
    (hQ : ∀ c a w, Q (.panic c) (a.put oi.dst v) w → Q (.panic c) a w) (hy : YieldsIf P ops S oi v a) (hS : S w)
    (h : wpAnyHL P md ops Q S last fuel (listed.setIfInBounds i true) { a with tmps := a.tmps.setIfInBounds d v } w) (hw : waits md ops last i = true := by kernel_rfl) : wpAnyHL P md ops Q S last (fuel + 1) listed a w :=
  wpAnyHL_first hi (Region.noSelect_spec hs) hw hQ fuel listed a w (Region.free_spec hi hf) (by simpa using hr) hy hS (by unfold Act.put; rw [hd]; exact h)
theorem wpAnyHL_done {listed : Array Bool} {a : Act} {w : World} (hr : Region.ready md ops listed = []) (h : Q .normal a w) : ∀ fuel, wpAnyHL P md ops Q S last fuel listed a w
  | 0 => ⟨hr, h⟩
  | _ + 1 => ⟨fun _ => h, by rw [hr]; simp⟩
def AllReadyHL (P : Program) (md : Region.Mode) (ops : Array Oper) (Q : Exit → Act → World → Prop) (S : World → Prop) (last : Nat) (fuel : Nat) (listed : Array Bool) (a : Act) (w : World) (rs : List Nat) : Prop :=
  ∀ i ∈ rs, wpOp P ops Q i (fun a' w' => (i ≠ last → S w') ∧ wpAnyHL P md ops Q S last fuel (listed.setIfInBounds i true) a' w') a w
theorem AllReadyHL.nil {fuel : Nat} {listed : Array Bool} {a : Act} {w : World} : AllReadyHL P md ops Q S last fuel listed a w [] := fun _ h => by cases h
theorem AllReadyHL.cons {fuel : Nat} {listed : Array Bool} {a : Act} {w : World} {i : Nat} {o : Oper} {rs : List Nat} (ho : ops[i]? = some o)
    (h : ∀ K' : Act → World → Prop, Shut (∀ a w, S w → (S w → wpAnyHL P md ops Q S last fuel (listed.setIfInBounds i true) a w) → K' a w) → if Region.wanted o (yielded ops a.tmps) = true then Oper.wp P o a w K' Q else K' (a.put o.dst undef) w)
    (hs : AllReadyHL P md ops Q S last fuel listed a w rs) : AllReadyHL P md ops Q S last fuel listed a w (i :: rs) := fun j hj => by
  rcases List.mem_cons.1 hj with rfl | hj
  · exact wpOp_step ho (fun K' hK => h K' (fun a w hS hW => hK a w ⟨fun _ => hS, hW hS⟩))
  · exact hs j hj
/-- The operation till which S was held. -/
theorem AllReadyHL.fin {fuel : Nat} {listed : Array Bool} {a : Act} {w : World} {o : Oper} {rs : List Nat} (ho : ops[last]? = some o)
    (h : ∀ K' : Act → World → Prop, Shut (∀ a w, wpAnyHL P md ops Q S last fuel (listed.setIfInBounds last true) a w → K' a w) → if Region.wanted o (yielded ops a.tmps) = true then Oper.wp P o a w K' Q else K' (a.put o.dst undef) w)
    (hs : AllReadyHL P md ops Q S last fuel listed a w rs) : AllReadyHL P md ops Q S last fuel listed a w (last :: rs) := fun j hj => by
  rcases List.mem_cons.1 hj with rfl | hj
  · exact wpOp_step ho (fun K' hK => h K' (fun a w hW => hK a w ⟨fun h => absurd rfl h, hW⟩))
  · exact hs j hj
theorem wpAnyHL_ready {rs : List Nat} {fuel : Nat} {listed : Array Bool} {a : Act} {w : World} (hr : Region.ready md ops listed = rs) (hne : rs ≠ [])
    (h : AllReadyHL P md ops Q S last fuel listed a w rs) : wpAnyHL P md ops Q S last (fuel + 1) listed a w := ⟨fun h0 => absurd (hr ▸ h0) hne, hr ▸ h⟩
/-- The beginning. -/
theorem heldStartL {l : List Oper} {id : Nat} {a : Act} {w : World} (last : Nat) (n : Nat) (hn : l.length = n) (hm : P.follows .mixedOrders = true) (hS : S w.drew)
    (h : S w.drew → wpAnyHL P .any l.toArray Q S last n (Array.replicate n false) a w.drew) : (Code.region id l.toArray true).wp P Q a w := by
  have h := h hS
  rw [← hn] at h
  refine wp_region_any hm ?_
  simpa using wpAny_of_heldL _ _ _ _ h
theorem heldStartRL {lo : List Oper} {id l n : Nat} {a : Act} {w : World} (last : Nat) (m : Nat) (hn : lo.length = m) (hm : P.follows .mixedOrders = true) (hd : noDefer lo.toArray = true) (hL : ¬ LetsOut Q) (hS : S w.drew)
    (h : S w.drew → wpAnyHL P .any lo.toArray Q S last m (Array.replicate m false) a w.drew) : (Code.region id lo.toArray true).wpIn (Fence.wide.inRound l) n P Q a w := by
  have h := h hS
  rw [← hn] at h
  refine wpIn_region_any hm (wpAnyIn_round hd hL _ _ _ _ ?_)
  simpa using wpAny_of_heldL _ _ _ _ h
end
end Go.Proofs.Ytgjjmiaiclhidaa

namespace Go.Proofs.Ytgjjmiaiclhidaa
open Go.RowKit

def signA (A : List Int) (i n : Nat) : Int := sgnL ((A.drop i).take n)
def ptsOf (A : List Int) (k : Nat) : List Pt := (List.range k).map fun i => ⟨(A.getD (2 + 7 * i) 0).toNat, signA A (3 + 7 * i) 6⟩
/-- What a conversion's bytes say. -/
def decC (A : List Int) (pv : Value) : Conv :=
  if A.getD 0 0 % 128 = 5 then ⟨5, decide (128 ≤ A.getD 0 0), 0, 0, 0, 0, pv⟩ else ⟨A.getD 0 0 % 128, decide (128 ≤ A.getD 0 0), signA A 1 2, signA A 3 2, signA A 5 1, signA A 6 1, pv⟩
def decP (A : List Int) : List Pt := if A.getD 0 0 % 128 = 5 then ptsOf A (A.getD 1 0).toNat else []
/-- What is wrong with them. -/
def errC (A : List Int) : Int := if (lenC A).2 ≠ 0 then (lenC A).2 else if (A.length : Int) < (lenC A).1 then 4 else if convB (decC A (.slice none 0 0)) (decP A) then 0 else 1
def zK : Conv := ⟨0, false, 0, 0, 0, 0, .slice none 0 0⟩
/-- What Decode gives. -/
def DecRes (w : World) (A : List Int) (e : Ending) (w' : World) : Prop :=
  if errC A = 0 then ∃ pv, e = .returned (.tuple #[.agg (decC A pv).cells, .int .i64 (lenC A).1, .int .i64 0]) ∧ OwnPts w' w.heap.size pv (decP A) ∧ Mods [] w w'
  else e = .returned (.tuple #[.agg zK.cells, .int .i64 0, .int .i64 (errC A)]) ∧ Mods [] w w'
theorem zK_one : zK.cells.all (·.oneCell') = true := by simp [zK, Conv.cells, Value.oneCell']
theorem results_cell_row3 {P : Program} {fn : Func} {p u v : Tmp} {ty : TypeId} (h : fn.results = #[.cell p ty, .tmp u, .tmp v]) (tmps : Array Value) (w : World) (g : Nat) (t : TypeId) (cs : Array Value) (fr : Nat × Nat) (d : TypeDesc)
    (hp : tmps.getD p undef = .pointer (some ⟨g, 0, none⟩)) (hg : w.heap[g]? = some (.cells cs t fr))
    (hu : P.underlying ty = some d) (hd : (match d with | .struct _ | .array _ _ => true | _ => false) = true) (hi : (P.info? ty).map (·.size) = some cs.size) :
    (results fn tmps).run P w = .ok (.tuple #[.agg cs, tmps.getD u undef, tmps.getD v undef]) w := by
  have hp' : tmps[p]?.getD undef = .pointer (some ⟨g, 0, none⟩) := by simpa using hp
  simp [results, h, hp', asAddr, run_loadVar_row w g t ty cs fr d hg hu hd hi]
theorem rdOfCells {w : World} {g o : Nat} {A : List Int} {cap : Nat} (hc : A.length ≤ cap) (hm : cap ≤ maxLen) (h : ∀ i, i < A.length → w.cell? ⟨g, o + i, none⟩ = some (.int .u8 (A.getD i 0))) : Rd w (.slice (some ⟨g, o, none⟩) A.length cap) (u8s A) :=
  ⟨some ⟨g, o, none⟩, cap, by rw [u8s_length], by rw [u8s_length]; exact hc, hm, fun i hi => ⟨g, o, rfl, by rw [u8s_length] at hi; rw [h i hi, u8s_getD _ _ hi]⟩⟩
theorem Rd.sub {w : World} {bb off n cap : Nat} {A : List Int} (h : Rd w (.slice (some ⟨bb, off, none⟩) n cap) (u8s A)) (i j : Nat) (hij : i ≤ j) (hj : j ≤ A.length) : Rd w (.slice (some ⟨bb, off + i, none⟩) (j - i) (cap - i)) (u8s ((A.drop i).take (j - i))) := by
  obtain ⟨ad', cap', he, h1, h2, hc⟩ := h.u8
  injection he with he1 he2 he3
  subst he1 he2 he3
  have hl : ((A.drop i).take (j - i)).length = j - i := by simp; omega
  have := rdOfCells (w := w) (g := bb) (o := off + i) (A := (A.drop i).take (j - i)) (cap := cap - i) (by rw [hl]; omega) (by omega) (fun k hk => by
    rw [hl] at hk
    obtain ⟨b, o, hb, hx⟩ := hc (i + k) (by omega)
    cases hb
    rw [Nat.add_assoc, hx]
    simp [List.getD_eq_getElem?_getD, hk])
  rw [hl] at this
  exact this
theorem signA_bd {A : List Int} (h : Bytes A) (i n : Nat) (hn : 1 ≤ n) (hi : i + n ≤ A.length) (hn6 : n ≤ 6) : I64 (signA A i n) := by
  have hb : Bytes ((A.drop i).take n) := (h.drop i).take n
  have hl : ((A.drop i).take n).length = n := by simp; omega
  have := sgnL_bd hb (by intro h0; rw [h0] at hl; simp at hl; omega)
  have hp := (show ∀ m : Nat, m < 6 → (256 : Int) ^ m ≤ 1099511627776 by decide) (n - 1) (by omega)
  rw [hl] at this
  unfold I64 signA
  omega
theorem convB_pts {C C' : Conv} {P : List Pt} (h : C.form = C'.form ∧ C.sgn = C'.sgn ∧ C.m = C'.m ∧ C.b = C'.b ∧ C.k1 = C'.k1 ∧ C.k2 = C'.k2) : convB C P = convB C' P := by
  obtain ⟨h1, h2, h3, h4, h5, h6⟩ := h
  unfold convB
  rw [h1, h2, h3, h4, h5, h6]
theorem lenC_facts {A : List Int} (hl : (lenC A).2 = 0) : A ≠ [] ∧ (1 ≤ A.getD 0 0 % 128 ∧ A.getD 0 0 % 128 ≤ 5) ∧ ((A.getD 0 0 % 128 ≠ 5 ∧ (lenC A).1 = 7) ∨ (A.getD 0 0 % 128 = 5 ∧ 2 ≤ A.getD 1 0 ∧ A.getD 1 0 ≤ 12 ∧ (lenC A).1 = 2 + 7 * A.getD 1 0)) := by
  unfold lenC at hl ⊢
  split at hl
  · simp at hl
  · rename_i h0
    rw [if_neg h0]
    split at hl
    · simp at hl
    · rename_i h1
      rw [if_neg h1]
      split at hl
      · rename_i h5; rw [if_pos h5]; exact ⟨h0, by omega, .inl ⟨h5, rfl⟩⟩
      · rename_i h5
        rw [if_neg h5]
        split at hl
        · simp at hl
        · rename_i h6
          rw [if_neg h6]
          split at hl
          · simp at hl
          · rename_i h7; rw [if_neg h7]; exact ⟨h0, by omega, .inr ⟨by omega, by omega, by omega, rfl⟩⟩
set_option maxRecDepth 100000 in
set_option maxHeartbeats 4000000 in
theorem convDec_err (w : World) (v : Value) (A : List Int) (hv : Rd w v (u8s A)) (hb : Bytes A) (hl : (lenC A).2 ≠ 0) :
    Calls Try.prog 59 #[v] w fun e w' => DecRes w A e w' := by
  have HV := Lib.hid hv
  have HB := Lib.hid hb
  have HL := Lib.hid (fun W (M : Mods [] w W) => length_ok W v A (hv.mods0 M) hb)
  obtain ⟨ad, cap, rfl, h1, h2, -⟩ := hv.u8
  have h3 : cap ≤ 9223372036854775807 := h2
  clear hv hb h2
  have HE : Hid (∀ W, errC A ≠ 0 → Mods [] w W → DecRes w A (.returned (.tuple #[.agg zK.cells, .int .i64 0, .int .i64 (errC A)])) W) := Lib.hid fun W h M => by unfold DecRes; rw [if_neg h]; exact ⟨rfl, M⟩
  have HU := Lib.hid (show errC A = if (lenC A).2 ≠ 0 then (lenC A).2 else if (A.length : Int) < (lenC A).1 then 4 else if convB (decC A (.slice none 0 0)) (decP A) then 0 else 1 from rfl)
  have R0 := Lib.hid (heap_alloc_new w (.cells zK.cells 26))
  have M0 := Lib.hid ((Mods.refl (S := []) (w := w)).alloc (.cells zK.cells 26))
  have hlb : ((lenC A).2 != 0) = true := by simpa using hl
  have HR := Lib.hid (HU.out.trans (if_pos hl))
  have HN := Lib.hid (show errC A ≠ 0 by rw [HR.out]; exact hl)
  clear hl
  refine (callsIn_wide (n := 4)).1 (callsIn_of_wp_marks Try.func59 rfl trivial (wpIn_wide.2 ?_))
  simp only [Try.ntmps59, List.size_toArray, List.length_cons, List.length_nil, Nat.reduceAdd, Nat.reduceSub, Array.replicate_succ, Array.replicate_zero, List.push_toArray, List.append_toArray, List.nil_append, List.cons_append]
  go_wp2_with fail
  refine (HL.out _ M0.out).mono ?_
  rintro e w1 ⟨rfl, hw1⟩
  have HR1 : Hid (w1.heap[w.heap.size]? = some (.cells zK.cells 26 (0, 0))) := Lib.hid (by rw [← hw1]; exact R0.out)
  have HM1 : Hid (Mods [] w w1) := Lib.hid (by rw [← hw1]; exact M0.out)
  clear hw1
  go_wp2_with (refine wpList_store_row (cs := zK.cells) rfl 26 (.tmp 2) (.tmp 17) rfl HR1.out (by rfl) (by rfl) rfl Try.infoC zK_one ?_; intro w2 R2 M2)
  have HM2 := HM1.out.comp M2 (fun k hk => by simp at hk; exact .inr (by omega))
  refine ⟨_, results_cell_row3 rfl _ _ w.heap.size _ _ _ _ rfl R2 Try.underlying26 rfl Try.infoC, ?_⟩
  have := HE.out w2 HN.out HM2
  rw [HR.out] at this
  exact this
set_option maxRecDepth 100000 in
set_option maxHeartbeats 4000000 in
theorem convDec_cut (w : World) (v : Value) (A : List Int) (hv : Rd w v (u8s A)) (hb : Bytes A) (hl : (lenC A).2 = 0) (hlt : (A.length : Int) < (lenC A).1) :
    Calls Try.prog 59 #[v] w fun e w' => DecRes w A e w' := by
  have HV := Lib.hid hv
  have HB := Lib.hid hb
  have HL := Lib.hid (fun W (M : Mods [] w W) => length_ok W v A (hv.mods0 M) hb)
  obtain ⟨ad, cap, rfl, h1, h2, -⟩ := hv.u8
  have h3 : cap ≤ 9223372036854775807 := h2
  clear hv hb h2
  have HE : Hid (∀ W, errC A ≠ 0 → Mods [] w W → DecRes w A (.returned (.tuple #[.agg zK.cells, .int .i64 0, .int .i64 (errC A)])) W) := Lib.hid fun W h M => by unfold DecRes; rw [if_neg h]; exact ⟨rfl, M⟩
  have HU := Lib.hid (show errC A = if (lenC A).2 ≠ 0 then (lenC A).2 else if (A.length : Int) < (lenC A).1 then 4 else if convB (decC A (.slice none 0 0)) (decP A) then 0 else 1 from rfl)
  have R0 := Lib.hid (heap_alloc_new w (.cells zK.cells 26))
  have M0 := Lib.hid ((Mods.refl (S := []) (w := w)).alloc (.cells zK.cells 26))
  have hlb : ((lenC A).2 != 0) = false := by simpa using hl
  have HU := Lib.hid (HU.out.trans (if_neg (fun h => h hl)))
  have dlt : decide ((A.length : Int) < (lenC A).1) = true := decide_eq_true hlt
  have HR := Lib.hid (HU.out.trans (if_pos hlt))
  have HN := Lib.hid (show errC A ≠ 0 by rw [HR.out]; decide)
  clear hl hlt
  refine (callsIn_wide (n := 4)).1 (callsIn_of_wp_marks Try.func59 rfl trivial (wpIn_wide.2 ?_))
  simp only [Try.ntmps59, List.size_toArray, List.length_cons, List.length_nil, Nat.reduceAdd, Nat.reduceSub, Array.replicate_succ, Array.replicate_zero, List.push_toArray, List.append_toArray, List.nil_append, List.cons_append]
  go_wp2_with fail
  refine (HL.out _ M0.out).mono ?_
  rintro e w1 ⟨rfl, hw1⟩
  have HR1 : Hid (w1.heap[w.heap.size]? = some (.cells zK.cells 26 (0, 0))) := Lib.hid (by rw [← hw1]; exact R0.out)
  have HM1 : Hid (Mods [] w w1) := Lib.hid (by rw [← hw1]; exact M0.out)
  clear hw1
  go_wp2_with (refine wpList_store_row (cs := zK.cells) rfl 26 (.tmp 2) (.tmp 24) rfl HR1.out (by rfl) (by rfl) rfl Try.infoC zK_one ?_; intro w2 R2 M2)
  have HM2 := HM1.out.comp M2 (fun k hk => by simp at hk; exact .inr (by omega))
  refine ⟨_, results_cell_row3 rfl _ _ w.heap.size _ _ _ _ rfl R2 Try.underlying26 rfl Try.infoC, ?_⟩
  have := HE.out w2 HN.out HM2
  rw [HR.out] at this
  exact this
end Go.Proofs.Ytgjjmiaiclhidaa
