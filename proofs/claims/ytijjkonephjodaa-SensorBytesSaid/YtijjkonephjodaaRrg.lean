/- Joined texts. A region in a round of a range over a function goes as everywhere, if it defers nothing: from the plain calculus into the fenced one. | slices.Chunk of bytes by sevens: its iterator's contract. | A drawn region under a condition that is held till its last store: 'x.f = append(x.f, ..)'. -/
import Derived.Test.YtijjkonephjodaaApb
import Derived.RangeFuncNested
import Derived.RangeFuncBound
import Derived.RangeFuncCalls
import Derived.RangeFuncLeaves
import Derived.RangeFuncBox
import Derived.OrdersIn
import Derived.TacticsInMore
import Derived.LoopNIn
import Derived.LoopIn
import Derived.OwnWalkIn
namespace Go.Proofs.Ytijjkonephjodaa
open Go.RowKit

section
variable {P : Program} {ops : Array Oper} {Q : Exit → Act → World → Prop} {S : World → Prop} {md : Region.Mode} {l n : Nat}
theorem rowsIn_round {row : String} {args : Array Value} {w : World} {R : Value → World → Prop} (h : Rows P row args w R) : RowsIn (Fence.wide.inRound l) n P row args w R := fun c cs _ => by
  obtain ⟨v, w', hr, hs⟩ := h c cs
  exact ⟨v, w', hr, (stepsIn_wide (P := P)).2 hs⟩
theorem uponIn_round {o : Oper} {a : Act} {K : Act → World → Prop} {r : Result Next} (h : o.upon P a K Q r) : o.uponIn (Fence.wide.inRound l) n P a K Q r := by
  cases r with
  | ok x w' =>
    cases x with
    | enter f args => exact ⟨fun h => by simp [Fence.wide] at h, (callsIn_wide.2 h).inRound l⟩
    | row row args => exact ⟨fun h => by simp [Fence.wide] at h, rowsIn_round h⟩
    | round l f tmps assign body => exact h.elim
    | _ => exact h
  | halt x w' => cases x <;> exact h
def noDefer (ops : Array Oper) : Bool := ops.all fun o => match o.op with | .defer _ => false | _ => true
theorem noDefer_at (h : noDefer ops = true) {i : Nat} {o : Oper} (ho : ops[i]? = some o) : ∀ c, o.op ≠ .defer c := fun c hc => by
  have hi := (Array.getElem?_eq_some_iff.1 ho)
  obtain ⟨hi, he⟩ := hi
  have := (Array.all_eq_true.1 h) i hi
  rw [he, hc] at this
  cases this
theorem wpIn_round {o : Oper} (ho : ∀ c, o.op ≠ .defer c) {a : Act} {w : World} {K : Act → World → Prop} (h : o.wp P a w K Q) : o.wpIn (Fence.wide.inRound l) n P a w K Q := by
  refine ⟨fun _ _ => trivial, ?_⟩
  rw [Oper.semAt_eq _ _ _ ho]
  exact uponIn_round h
theorem wpOpIn_round (hd : noDefer ops = true) (hL : ¬ LetsOut Q) {i : Nat} {K : Act → World → Prop} {a : Act} {w : World} (h : wpOp P ops Q i K a w) : wpOpIn (Fence.wide.inRound l) n P ops Q i K a w := by
  unfold wpOp at h
  unfold wpOpIn
  cases ho : ops[i]? with
  | none => simpa [ho] using h
  | some o =>
    simp only [ho] at h ⊢
    by_cases hw : Region.wanted o (yielded ops a.tmps) = true
    · simp only [hw, if_true] at h ⊢
      rcases h with h | h
      · exact wpIn_round (noDefer_at hd ho) h
      · exact absurd h.2 hL
    · simp only [hw, Bool.false_eq_true, if_false] at h ⊢
      exact ⟨fun _ _ => trivial, h⟩
theorem wpAnyIn_round (hd : noDefer ops = true) (hL : ¬ LetsOut Q) : ∀ (fuel : Nat) (listed : Array Bool) (a : Act) (w : World), wpAny P md ops Q fuel listed a w → wpAnyIn (Fence.wide.inRound l) n P md ops Q fuel listed a w
  | 0, _, _, _, h => h
  | fuel + 1, _, _, _, h => ⟨h.1, fun i hi => wpOpIn_mono (fun a' w' h' => wpAnyIn_round hd hL fuel _ a' w' h') (wpOpIn_round hd hL (h.2 i hi))⟩
/-- A drawn region in a round, under a condition that is held. -/
theorem heldStartR {lo : List Oper} {id : Nat} {a : Act} {w : World} (m : Nat) (hn : lo.length = m) (hm : P.follows .mixedOrders = true) (hd : noDefer lo.toArray = true) (hL : ¬ LetsOut Q) (hS : S w.drew)
    (h : S w.drew → wpAnyH P .any lo.toArray Q S m (Array.replicate m false) a w.drew) : (Code.region id lo.toArray true).wpIn (Fence.wide.inRound l) n P Q a w := by
  have h := h hS
  rw [← hn] at h
  refine wpIn_region_any hm (wpAnyIn_round hd hL _ _ _ _ ?_)
  simpa using wpAny_of_held _ _ _ _ h
theorem wpOpsIn_round (hd : noDefer ops = true) (hL : ¬ LetsOut Q) : ∀ (lo : List Nat) (a : Act) (w : World), wpOps P ops Q lo a w → wpOpsIn (Fence.wide.inRound l) n P ops Q lo a w
  | [], _, _, h => h
  | i :: rest, a, w, h => by
    rw [wpOps_cons] at h
    rw [wpOpsIn_cons]
    exact wpOpIn_mono (fun a' w' h' => wpOpsIn_round hd hL rest a' w' h') (wpOpIn_round hd hL h)
end
end Go.Proofs.Ytijjkonephjodaa

namespace Go.Proofs.Ytijjkonephjodaa
open Go.RowKit

/-- Two blocks lie as they lay. -/
def KeepB (a b : Nat) (W W' : World) : Prop := W'.heap[a]? = W.heap[a]? ∧ W'.heap[b]? = W.heap[b]?
theorem KeepB.refl {a b : Nat} {W : World} : KeepB a b W W := ⟨rfl, rfl⟩
theorem KeepB.trans {a b : Nat} {A B C : World} (h : KeepB a b A B) (k : KeepB a b B C) : KeepB a b A C := ⟨k.1.trans h.1, k.2.trans h.2⟩
theorem KeepB.book {a b : Nat} {w : World} (ha : a < w.heap.size) (hb : b < w.heap.size) (W : World) (l : Nat) (o o' : Obj) (hl : w.heap.size ≤ l) (_ : W.heap[l]? = some o) (_ : o.isCells = false) (_ : o.isWalk = false) : KeepB a b W (W.putObj l o') :=
  ⟨World.putObj_heap_other (by omega), World.putObj_heap_other (by omega)⟩
theorem KeepB.mods {a b : Nat} {S : List Nat} {W W' : World} (h : Mods S W W') (ha : a < W.heap.size) (hb : b < W.heap.size) (na : a ∉ S) (nb : b ∉ S) : KeepB a b W W' := ⟨h.block a ha na, h.block b hb nb⟩
theorem KeepB.cellA {a b : Nat} {W W' : World} (h : KeepB a b W W') (i : Nat) : W'.cell? ⟨a, i, none⟩ = W.cell? ⟨a, i, none⟩ := World.cell?_of_block h.1
theorem KeepB.cellB {a b : Nat} {W W' : World} (h : KeepB a b W W') (i : Nat) : W'.cell? ⟨b, i, none⟩ = W.cell? ⟨b, i, none⟩ := World.cell?_of_block h.2
/-- The chunk number i. -/
def chunkV (b off : Nat) (i : Nat) : Array Value := #[.slice (some ⟨b, off + 7 * i, none⟩) 7 7]
set_option maxRecDepth 100000 in
set_option maxHeartbeats 2000000 in
theorem chunk1_in (n : Nat) (hn : 1 ≤ n) (l Bs Bn b off k cap : Nat) (hk : k ≤ 100) (hcap : 7 * k ≤ cap) (J Jx : List (Fin k) → World → Prop)
    (hJd : ∀ s W, J s W → ∀ m, J s (W.drewN m))
    (hY : ∀ pre (x : Fin k) W, J pre W → pre.length < k → YieldAt Fence.wide (n - 1) Try.prog l (chunkV b off x.val) W fun e W' =>
      (e = .returned (.bool true) ∧ J (pre ++ [x]) W' ∧ KeepB Bs Bn W W') ∨ (e = .returned (.bool false) ∧ Jx (pre ++ [x]) W'))
    (W : World) (hBs : W.cell? ⟨Bs, 0, none⟩ = some (.slice (some ⟨b, off, none⟩) (7 * k) cap)) (hBn : W.cell? ⟨Bn, 0, none⟩ = some (.int .i64 7)) (h0 : J [] W) :
    CallsIn Fence.wide n Try.prog 118 #[.func (.yield l) #[] #[], .pointer (some ⟨Bs, 0, none⟩), .pointer (some ⟨Bn, 0, none⟩)] W fun e W' => (∃ v, e = .returned v) ∧
      ((∃ ys : List (Fin k), ys.map (·.val) = List.range k ∧ J ys W') ∨ (∃ pre : List (Fin k), True ∧ Jx pre W')) := by
  refine callsIn_of_wp Try.func118 rfl trivial ?_ rfl
  simp only [Try.ntmps118, List.size_toArray, List.length_cons, List.length_nil, Nat.reduceAdd, Nat.reduceSub, Array.replicate_succ, Array.replicate_zero, List.push_toArray, List.append_toArray, List.nil_append, List.cons_append]
  have HJD := Lib.hid hJd
  have HY := Lib.hid hY
  clear hJd hY
  gi_wp2
  gi_loopw [4, 5] (fun i _ wr => ∃ (j : Nat) (pre : List (Fin k)), j ≤ k ∧ i = .int .i64 (7 * (j : Int)) ∧ Hid (pre.map (·.val) = List.range j) ∧ J pre wr ∧ KeepB Bs Bn W wr)
    (fun i _ _ => 7 * k - (intOf i).toNat)
  case atStart => exact ⟨0, [], Nat.zero_le _, rfl, Lib.hid rfl, h0, KeepB.refl⟩
  case round =>
    obtain ⟨j, pre, hj, rfl, HP, hJs, hnx⟩ := hrel
    have hpl : pre.length = j := by have := congrArg List.length HP.out; simpa using this
    have cs := (hnx.cellA 0).trans hBs
    have cn := (hnx.cellB 0).trans hBn
    by_cases hlt : j < k
    · have i0 : (0 : Int) ≤ 7 * (j : Int) := by omega
      have i1 : 7 * (j : Int) < 7 * (k : Int) := by omega
      have i2 : 7 * (j : Int) ≤ ((7 * k : Nat) : Int) := by omega
      have e3 : (7 * (j : Int)).toNat = 7 * j := by omega
      have e5 : (7 * k : Nat) - 7 * j = 7 * (k - j) := by omega
      gi_wp2
      refine wpIn_wide.2 ?_
      go_quiet (fail)
      have HJ2 := HJD.out _ _ hJs nq
      have hnx1 : KeepB Bs Bn W (wr.drewN nq) := hnx
      have cs2 : (wr.drewN nq).cell? ⟨Bs, 0, none⟩ = some (.slice (some ⟨b, off, none⟩) (7 * k) cap) := cs
      have cn2 : (wr.drewN nq).cell? ⟨Bn, 0, none⟩ = some (.int .i64 7) := cn
      obtain ⟨fn, tmps, assign, body, hy, hR⟩ := HY.out _ ⟨j, hlt⟩ _ HJ2 (by omega)
      have HP2 := Lib.hid (show (pre ++ [(⟨j, hlt⟩ : Fin k)]).map (·.val) = List.range (j + 1) by rw [List.map_append, HP.out, List.range_succ]; rfl)
      unfold chunkV at hy
      generalize wr.drewN nq = w1 at HJ2 cs2 cn2 hy hR hnx1 ⊢
      gi_wp2
      refine hR.mono ?_
      have hw1 : KeepB Bs Bn W w1 := hnx1
      rintro e W3 (⟨rfl, hJ3, hk3⟩ | ⟨rfl, hJx3⟩)
      · have cn3 := (hk3.cellB 0).trans cn2
        gi_wp2
        go_roundw
        case rel => exact ⟨j + 1, _, by omega, by go_num, HP2, hJ3, hw1.trans hk3⟩
        case measure => simp [intOf]; omega
      · gi_wp2
        refine bodyPost_ret (results_none rfl _ _ _) rfl ?_
        exact ⟨⟨_, rfl⟩, .inr ⟨_, trivial, hJx3⟩⟩
    · have hjk : j = k := by omega
      subst hjk
      gi_wp2
      go_end0
      exact ⟨⟨_, rfl⟩, .inl ⟨_, HP.out, hJs⟩⟩
set_option maxHeartbeats 1000000 in
/-- slices.Chunk itself: the slice and the size are boxed. -/
theorem chunk_ok (ad : Option Addr) (len cap : Nat) (w : World) :
    Calls Try.prog 108 #[.slice ad len cap, .int .i64 7] w fun e w' => e = .returned (.func (.func 118) #[] #[.pointer (some ⟨w.heap.size, 0, none⟩), .pointer (some ⟨w.heap.size + 1, 0, none⟩)]) ∧ w' = (w.alloc (.cells #[.slice ad len cap] 33)).alloc (.cells #[.int .i64 7] 3) := by
  go_enter Try.func108, Try.ntmps108
  go_wp2
  go_ret
  exact ⟨rfl, rfl⟩
/-- The iterator, as a range over it asks. -/
theorem chunk_stops (n : Nat) (hn : 1 ≤ n) (Bs Bn b off k cap : Nat) (hk : k ≤ 100) (hcap : 7 * k ≤ cap) (w : World) (h1 : Bs < w.heap.size) (h2 : Bn < w.heap.size)
    (hBs : w.cell? ⟨Bs, 0, none⟩ = some (.slice (some ⟨b, off, none⟩) (7 * k) cap)) (hBn : w.cell? ⟨Bn, 0, none⟩ = some (.int .i64 7)) :
    SeqStopsK Fence.wide n Try.prog 118 #[.pointer (some ⟨Bs, 0, none⟩), .pointer (some ⟨Bn, 0, none⟩)] (fun x : Fin k => chunkV b off x.val) (KeepB Bs Bn) (fun ys => ys.map (·.val) = List.range k) (fun _ => True) k w := fun l J Jx W hW hJ _ hY h0 =>
  chunk1_in n hn l Bs Bn b off k cap hk hcap J Jx (fun s W h m => hJ s W _ none h ⟨rfl, rfl, rfl, Nat.le_refl _, fun _ _ _ => rfl⟩ (fun r e => by cases e)) hY W
    ((hW.cell (p := ⟨Bs, 0, none⟩) h1).trans hBs) ((hW.cell (p := ⟨Bn, 0, none⟩) h2).trans hBn) h0
end Go.Proofs.Ytijjkonephjodaa

namespace Go.Proofs.Ytijjkonephjodaa
open Go.RowKit

/-- The same, where there is no panic. -/
def noP (Q : Exit → Act → World → Prop) : Exit → Act → World → Prop
  | .panic _, _, _ => False
  | e, a, w => Q e a w
theorem wp_noPanic {P : Program} {c : Code} {Q : Exit → Act → World → Prop} {a : Act} {w : World} (h : c.wp P (noP Q) a w) : c.wp P Q a w := fun b k cs => by
  obtain ⟨e, a', w', hq, ha⟩ := h b k cs
  refine ⟨e, a', w', ?_, ha⟩
  cases e with
  | panic c => exact hq.elim
  | _ => exact hq
section
variable {P : Program} {ops : Array Oper} {Q : Exit → Act → World → Prop} {md : Region.Mode} {S : World → Prop} {last : Nat}
/-- Whatever order is picked from here on, S holds behind every operation that is carried out ahead of the one named. -/
def wpAnyHL (P : Program) (md : Region.Mode) (ops : Array Oper) (Q : Exit → Act → World → Prop) (S : World → Prop) (last : Nat) : Nat → Array Bool → Act → World → Prop
  | 0, listed, a, w => Region.ready md ops listed = [] ∧ Q .normal a w
  | fuel + 1, listed, a, w =>
    (Region.ready md ops listed = [] → Q .normal a w) ∧
    ∀ i ∈ Region.ready md ops listed, wpOp P ops Q i (fun a' w' => (i ≠ last → S w') ∧ wpAnyHL P md ops Q S last fuel (listed.setIfInBounds i true) a' w') a w
theorem wpAny_of_heldL : ∀ (fuel : Nat) (listed : Array Bool) (a : Act) (w : World), wpAnyHL P md ops Q S last fuel listed a w → wpAny P md ops Q fuel listed a w
  | 0, _, _, _, h => h
  | fuel + 1, _, _, _, h => ⟨h.1, fun i hi => wpOp_mono (fun a' w' h' => wpAny_of_heldL fuel _ a' w' h'.2) (h.2 i hi)⟩
/-- The operation 'last' waits for i. -/
def waits (md : Region.Mode) (ops : Array Oper) (last i : Nat) : Bool := match ops[last]? with
  | some o => o.after.any fun e => Region.binds md e && decide (e.on = i)
  | none => false
theorem waits_not {i : Nat} {listed : Array Bool} (hw : waits md ops last i = true) (hi : i ∈ Region.ready md ops listed) : last ∉ Region.ready md ops listed := fun hl => by
  obtain ⟨_, o, ho, hall⟩ := mem_ready.1 hl
  unfold waits at hw
  rw [ho] at hw
  obtain ⟨k, hk, he⟩ := Array.any_eq_true.1 hw
  simp only [Bool.and_eq_true, decide_eq_true_eq] at he
  have h1 := hall _ (Array.getElem_mem hk) he.1
  rw [he.2] at h1
  have h0 := (mem_ready.1 hi).1
  rcases Nat.lt_or_ge i listed.size with h | h
  · simp [h] at h0 h1; rw [h0] at h1; cases h1
  · simp [Array.getElem?_eq_none h] at h1
theorem wpAnyHL_first {i : Nat} {oi : Oper} {v : Value} (hi : ops[i]? = some oi) (hsel : ∀ (j : Nat) (o : Oper) cs b, ops[j]? = some o → o.op ≠ .select cs b) (hw : waits md ops last i = true)
    (hQ : ∀ c a w, Q (.panic c) (a.put oi.dst v) w → Q (.panic c) a w) :
    ∀ (fuel : Nat) (listed : Array Bool) (a : Act) (w : World),
      (∀ j oj, ops[j]? = some oj → j ≠ i → listed.getD j true = false → (∀ e ∈ oj.after, Region.binds md e = true → e.on ≠ i) → oi.apart ops oj = true) →
      i ∈ Region.ready md ops listed → YieldsIf P ops S oi v a → S w →
      wpAnyHL P md ops Q S last fuel (listed.setIfInBounds i true) (a.put oi.dst v) w → wpAnyHL P md ops Q S last (fuel + 1) listed a w := by
  intro fuel
  induction fuel with
  | zero =>
    intro listed a w _ hr hy hS H
    refine ⟨fun h => (by rw [h] at hr; cases hr), fun j hj => ?_⟩
    by_cases hji : j = i
    · subst hji; exact hy.wpOp hi hS ⟨fun _ => hS, H⟩
    · have := ready_mono hj hji
      rw [H.1] at this
      cases this
  | succ fuel ih =>
    intro listed a w hfree hr hy hS H
    refine ⟨fun h => (by rw [h] at hr; cases hr), fun j hj => ?_⟩
    by_cases hji : j = i
    · subst hji; exact hy.wpOp hi hS ⟨fun _ => hS, H⟩
    · have hjl : j ≠ last := fun e => waits_not hw hr (e ▸ hj)
      have h1 := H.2 j (ready_mono hj hji)
      obtain ⟨hjun, oj, hoj, hall⟩ := mem_ready.1 hj
      have hnot : ∀ e ∈ oj.after, Region.binds md e = true → e.on ≠ i := fun e he hb heq => by
        have h1 := hall e he hb
        have h0 := (mem_ready.1 hr).1
        rw [heq] at h1
        rcases Nat.lt_or_ge i listed.size with h' | h'
        · simp [h'] at h0 h1; rw [h0] at h1; cases h1
        · simp [Array.getElem?_eq_none h'] at h1
      have h2 := wpOp_putIf hoj (hfree j oj hoj hji hjun hnot) (fun cs b => hsel i oi cs b hi) (fun cs b => hsel j oj cs b hoj) hQ hy h1
      have hfree' : ∀ k ok, ops[k]? = some ok → k ≠ i → (listed.setIfInBounds j true).getD k true = false →
          (∀ e ∈ ok.after, Region.binds md e = true → e.on ≠ i) → oi.apart ops ok = true := fun k ok hk hki hun hno => by
        refine hfree k ok hk hki ?_ hno
        by_cases hjk : j = k
        · subst hjk; exact hjun
        · rw [getD_set_ne true hjk] at hun; exact hun
      refine wpOp_mono (fun a' w' h3 => ⟨h3.2.1, ih (listed.setIfInBounds j true) a' w' hfree' (ready_mono hr (Ne.symm hji)) h3.1 (h3.2.1 hjl) ?_⟩) h2
      rw [Array.setIfInBounds_comm _ _ hji]
      exact h3.2.2
/-- A take, the slot told. -/
theorem takeL {i d : Nat} {oi : Oper} {v : Value} {fuel : Nat} {listed : Array Bool} {a : Act} {w : World} (hi : ops[i]? = some oi) (hd : oi.dst = some d)
    (hs : Region.noSelect ops = true) (hf : Region.free md ops listed i = true) (hr : (Region.ready md ops listed).contains i = true)
    (hQ : ∀ c a w, Q (.panic c) (a.put oi.dst v) w → Q (.panic c) a w) (hy : YieldsIf P ops S oi v a) (hS : S w)
    (h : wpAnyHL P md ops Q S last fuel (listed.setIfInBounds i true) { a with tmps := a.tmps.setIfInBounds d v } w) (hw : waits md ops last i = true := by kernel_rfl) : wpAnyHL P md ops Q S last (fuel + 1) listed a w :=
  wpAnyHL_first hi (Region.noSelect_spec hs) hw hQ fuel listed a w (Region.free_spec hi hf) (by simpa using hr) hy hS (by unfold Act.put; rw [hd]; exact h)
theorem wpAnyHL_done {listed : Array Bool} {a : Act} {w : World} (hr : Region.ready md ops listed = []) (h : Q .normal a w) : ∀ fuel, wpAnyHL P md ops Q S last fuel listed a w
  | 0 => ⟨hr, h⟩
  | _ + 1 => ⟨fun _ => h, by rw [hr]; simp⟩
def AllReadyHL (P : Program) (md : Region.Mode) (ops : Array Oper) (Q : Exit → Act → World → Prop) (S : World → Prop) (last : Nat) (fuel : Nat) (listed : Array Bool) (a : Act) (w : World) (rs : List Nat) : Prop :=
  ∀ i ∈ rs, wpOp P ops Q i (fun a' w' => (i ≠ last → S w') ∧ wpAnyHL P md ops Q S last fuel (listed.setIfInBounds i true) a' w') a w
theorem AllReadyHL.nil {fuel : Nat} {listed : Array Bool} {a : Act} {w : World} : AllReadyHL P md ops Q S last fuel listed a w [] := fun _ h => by cases h
theorem AllReadyHL.cons {fuel : Nat} {listed : Array Bool} {a : Act} {w : World} {i : Nat} {o : Oper} {rs : List Nat} (ho : ops[i]? = some o)
    (h : ∀ K' : Act → World → Prop, Shut (∀ a w, S w → (S w → wpAnyHL P md ops Q S last fuel (listed.setIfInBounds i true) a w) → K' a w) → if Region.wanted o (yielded ops a.tmps) = true then Oper.wp P o a w K' Q else K' (a.put o.dst undef) w)
    (hs : AllReadyHL P md ops Q S last fuel listed a w rs) : AllReadyHL P md ops Q S last fuel listed a w (i :: rs) := fun j hj => by
  rcases List.mem_cons.1 hj with rfl | hj
  · exact wpOp_step ho (fun K' hK => h K' (fun a w hS hW => hK a w ⟨fun _ => hS, hW hS⟩))
  · exact hs j hj
/-- The operation till which S was held. -/
theorem AllReadyHL.fin {fuel : Nat} {listed : Array Bool} {a : Act} {w : World} {o : Oper} {rs : List Nat} (ho : ops[last]? = some o)
    (h : ∀ K' : Act → World → Prop, Shut (∀ a w, wpAnyHL P md ops Q S last fuel (listed.setIfInBounds last true) a w → K' a w) → if Region.wanted o (yielded ops a.tmps) = true then Oper.wp P o a w K' Q else K' (a.put o.dst undef) w)
    (hs : AllReadyHL P md ops Q S last fuel listed a w rs) : AllReadyHL P md ops Q S last fuel listed a w (last :: rs) := fun j hj => by
  rcases List.mem_cons.1 hj with rfl | hj
  · exact wpOp_step ho (fun K' hK => h K' (fun a w hW => hK a w ⟨fun h => absurd rfl h, hW⟩))
  · exact hs j hj
theorem wpAnyHL_ready {rs : List Nat} {fuel : Nat} {listed : Array Bool} {a : Act} {w : World} (hr : Region.ready md ops listed = rs) (hne : rs ≠ [])
    (h : AllReadyHL P md ops Q S last fuel listed a w rs) : wpAnyHL P md ops Q S last (fuel + 1) listed a w := ⟨fun h0 => absurd (hr ▸ h0) hne, hr ▸ h⟩
/-- The beginning. -/
theorem heldStartL {l : List Oper} {id : Nat} {a : Act} {w : World} (last : Nat) (n : Nat) (hn : l.length = n) (hm : P.follows .mixedOrders = true) (hS : S w.drew)
    (h : S w.drew → wpAnyHL P .any l.toArray Q S last n (Array.replicate n false) a w.drew) : (Code.region id l.toArray true).wp P Q a w := by
  have h := h hS
  rw [← hn] at h
  refine wp_region_any hm ?_
  simpa using wpAny_of_heldL _ _ _ _ h
theorem heldStartRL {lo : List Oper} {id l n : Nat} {a : Act} {w : World} (last : Nat) (m : Nat) (hn : lo.length = m) (hm : P.follows .mixedOrders = true) (hd : noDefer lo.toArray = true) (hL : ¬ LetsOut Q) (hS : S w.drew)
    (h : S w.drew → wpAnyHL P .any lo.toArray Q S last m (Array.replicate m false) a w.drew) : (Code.region id lo.toArray true).wpIn (Fence.wide.inRound l) n P Q a w := by
  have h := h hS
  rw [← hn] at h
  refine wpIn_region_any hm (wpAnyIn_round hd hL _ _ _ _ ?_)
  simpa using wpAny_of_heldL _ _ _ _ h
end
end Go.Proofs.Ytijjkonephjodaa
