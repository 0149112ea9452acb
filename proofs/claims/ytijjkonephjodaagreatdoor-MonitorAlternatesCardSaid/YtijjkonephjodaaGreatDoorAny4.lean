/- Four operations in a region that draws its order: two in a chain, beside two free ones. No function of the program stands here. -/
import Derived.Test.YtijjkonephjodaaGreatDoorJoAE
namespace Go.Proofs.YtijjkonephjodaaGreatDoor
open Go.RowKit
set_option linter.unusedVariables false
def put1 {α : Type} (t : Array α) (d : Nat) : Option α → Array α
  | none => t
  | some v => t.setIfInBounds d v
theorem put1_comm {α : Type} (t : Array α) {d e : Nat} (h : d ≠ e) (a b : Option α) : put1 (put1 t d a) e b = put1 (put1 t e b) d a := by
  cases a <;> cases b <;> simp [put1, Array.setIfInBounds_comm _ _ h]
def put4 {α : Type} (t : Array α) (d1 d3 d6 d9 : Nat) (a b c e : Option α) : Array α := put1 (put1 (put1 (put1 t d1 a) d3 b) d6 c) d9 e
section
variable {α : Type} {t : Array α} {d1 d3 d6 d9 : Nat} (n13 : d1 ≠ d3) (n16 : d1 ≠ d6) (n19 : d1 ≠ d9) (n36 : d3 ≠ d6) (n39 : d3 ≠ d9) (n69 : d6 ≠ d9)
include n13 n16 n19 in
theorem put4_1 (v : α) (b c e : Option α) : (put4 t d1 d3 d6 d9 none b c e).setIfInBounds d1 v = put4 t d1 d3 d6 d9 (some v) b c e := by
  show put1 (put4 t d1 d3 d6 d9 none b c e) d1 (some v) = _
  unfold put4
  rw [put1_comm _ n19.symm, put1_comm _ n16.symm, put1_comm _ n13.symm]
  rfl
include n36 n39 in
theorem put4_3 (v : α) (a c e : Option α) : (put4 t d1 d3 d6 d9 a none c e).setIfInBounds d3 v = put4 t d1 d3 d6 d9 a (some v) c e := by
  show put1 (put4 t d1 d3 d6 d9 a none c e) d3 (some v) = _
  unfold put4
  rw [put1_comm _ n39.symm, put1_comm _ n36.symm]
  rfl
include n69 in
theorem put4_6 (v : α) (a b e : Option α) : (put4 t d1 d3 d6 d9 a b none e).setIfInBounds d6 v = put4 t d1 d3 d6 d9 a b (some v) e := by
  show put1 (put4 t d1 d3 d6 d9 a b none e) d6 (some v) = _
  unfold put4
  rw [put1_comm _ n69.symm]
  rfl
theorem put4_9 (v : α) (a b c : Option α) : (put4 t d1 d3 d6 d9 a b c none).setIfInBounds d9 v = put4 t d1 d3 d6 d9 a b c (some v) := rfl
end
def tick (b : Bool) : Option Bool := if b then some true else none
def rsOf (i1 i3 i6 i9 : Nat) (b1 b3 b6 b9 : Bool) : List Nat := (if b1 then (if b3 then [] else [i3]) else [i1]) ++ ((if b6 then [] else [i6]) ++ (if b9 then [] else [i9]))
def left4 (b1 b3 b6 b9 : Bool) : Nat := (if b1 then 0 else 1) + (if b3 then 0 else 1) + (if b6 then 0 else 1) + (if b9 then 0 else 1)
section
variable {P : Program} {ops : Array Oper} {Q : Exit → Act → World → Prop} {S : World → Prop} {md : Region.Mode}
theorem any4 {lst : Array Bool} {t : Array Value} {df : List Deferred} {fuel : Nat} (i1 i3 i6 i9 d1 d3 d6 d9 : Nat) {o1 o3 o6 o9 : Oper}
    (h1 : ops[i1]? = some o1) (h3 : ops[i3]? = some o3) (h6 : ops[i6]? = some o6) (h9 : ops[i9]? = some o9) (g1 : o1.guard = none) (g3 : o3.guard = none) (g6 : o6.guard = none) (g9 : o9.guard = none)
    (ni : i1 ≠ i3 ∧ i1 ≠ i6 ∧ i1 ≠ i9 ∧ i3 ≠ i6 ∧ i3 ≠ i9 ∧ i6 ≠ i9) (nd : d1 ≠ d3 ∧ d1 ≠ d6 ∧ d1 ≠ d9 ∧ d3 ≠ d6 ∧ d3 ≠ d9 ∧ d6 ≠ d9)
    (J : Option Value → Option Value → Option Value → Option Value → World → Prop)
    (hr : ∀ b1 b3 b6 b9 : Bool, (b3 = true → b1 = true) → (b1 && b3 && b6 && b9) = false → Region.ready md ops (put4 lst i1 i3 i6 i9 (tick b1) (tick b3) (tick b6) (tick b9)) = rsOf i1 i3 i6 i9 b1 b3 b6 b9)
    (hS : ∀ a b c e W, J a b c e W → S W)
    (s1 : ∀ c e W (K : Act → World → Prop), J none none c e W → (∀ v W', J (some v) none c e W' → K ⟨(put4 t d1 d3 d6 d9 none none c e).setIfInBounds d1 v, df⟩ W') → Oper.wp P o1 ⟨put4 t d1 d3 d6 d9 none none c e, df⟩ W K Q)
    (s3 : ∀ a c e W (K : Act → World → Prop), J (some a) none c e W → (∀ v W', J (some a) (some v) c e W' → K ⟨(put4 t d1 d3 d6 d9 (some a) none c e).setIfInBounds d3 v, df⟩ W') → Oper.wp P o3 ⟨put4 t d1 d3 d6 d9 (some a) none c e, df⟩ W K Q)
    (s6 : ∀ a b e W (K : Act → World → Prop), J a b none e W → (∀ v W', J a b (some v) e W' → K ⟨(put4 t d1 d3 d6 d9 a b none e).setIfInBounds d6 v, df⟩ W') → Oper.wp P o6 ⟨put4 t d1 d3 d6 d9 a b none e, df⟩ W K Q)
    (s9 : ∀ a b c W (K : Act → World → Prop), J a b c none W → (∀ v W', J a b c (some v) W' → K ⟨(put4 t d1 d3 d6 d9 a b c none).setIfInBounds d9 v, df⟩ W') → Oper.wp P o9 ⟨put4 t d1 d3 d6 d9 a b c none, df⟩ W K Q)
    (last : ∀ a b c e W, J (some a) (some b) (some c) (some e) W → wpAnyH P md ops Q S fuel (put4 lst i1 i3 i6 i9 (some true) (some true) (some true) (some true)) ⟨put4 t d1 d3 d6 d9 (some a) (some b) (some c) (some e), df⟩ W) :
    ∀ (n : Nat) (a b c e : Option Value) (W : World), left4 a.isSome b.isSome c.isSome e.isSome = n → (b.isSome = true → a.isSome = true) → J a b c e W →
      wpAnyH P md ops Q S (fuel + n) (put4 lst i1 i3 i6 i9 (tick a.isSome) (tick b.isSome) (tick c.isSome) (tick e.isSome)) ⟨put4 t d1 d3 d6 d9 a b c e, df⟩ W := by
  obtain ⟨n1, n2, n3, n4, n5, n6⟩ := ni
  obtain ⟨m1, m2, m3, m4, m5, m6⟩ := nd
  have wt : ∀ {o : Oper} {u : Array Value}, o.guard = none → Region.wanted o (yielded ops u) = true := fun h => by simp [Region.wanted, h]
  intro n
  induction n with
  | zero =>
    intro a b c e W hn hb hJ
    cases a <;> cases b <;> cases c <;> cases e <;> simp [left4] at hn
    exact last _ _ _ _ W hJ
  | succ n ih =>
    intro a b c e W hn hb hJ
    have hall : (a.isSome && b.isSome && c.isSome && e.isSome) = false := by
      cases a <;> cases b <;> cases c <;> cases e <;> simp [left4] at hn ⊢
    have hne : rsOf i1 i3 i6 i9 a.isSome b.isSome c.isSome e.isSome ≠ [] := by
      cases a <;> cases b <;> cases c <;> cases e <;> simp [rsOf] at hall ⊢
    have e1 : c = none ∨ ∃ v, c = some v := by cases c <;> simp
    show wpAnyH P md ops Q S (fuel + n + 1) _ _ W
    refine wpAnyH_ready (hr _ _ _ _ hb hall) hne ?_
    have A1 : a = none → AllReadyH P md ops Q S (fuel + n) (put4 lst i1 i3 i6 i9 (tick a.isSome) (tick b.isSome) (tick c.isSome) (tick e.isSome)) ⟨put4 t d1 d3 d6 d9 a b c e, df⟩ W [i1] := fun ha => by
      subst ha
      have hbn : b = none := by cases b with
        | none => rfl
        | some v => simp at hb
      subst hbn
      refine AllReadyH.cons h1 (fun K hK => ?_) AllReadyH.nil
      rw [if_pos (wt g1)]
      refine s1 c e W K hJ (fun v W' hJ' => hK.out _ _ (hS _ _ _ _ _ hJ') (fun _ => ?_))
      have h := ih (some v) none c e W' (by simp [left4] at hn ⊢; omega) (by simp) hJ'
      rw [put4_1 m1 m2 m3]
      have h2 := put4_1 (t := lst) n1 n2 n3 true (tick false) (tick c.isSome) (tick e.isSome)
      exact h2 ▸ h
    have A3 : a.isSome = true → b = none → AllReadyH P md ops Q S (fuel + n) (put4 lst i1 i3 i6 i9 (tick a.isSome) (tick b.isSome) (tick c.isSome) (tick e.isSome)) ⟨put4 t d1 d3 d6 d9 a b c e, df⟩ W [i3] := fun ha hbn => by
      subst hbn
      cases a with
      | none => cases ha
      | some a =>
        refine AllReadyH.cons h3 (fun K hK => ?_) AllReadyH.nil
        rw [if_pos (wt g3)]
        refine s3 a c e W K hJ (fun v W' hJ' => hK.out _ _ (hS _ _ _ _ _ hJ') (fun _ => ?_))
        have h := ih (some a) (some v) c e W' (by simp [left4] at hn ⊢; omega) (by simp) hJ'
        rw [put4_3 m4 m5]
        have h2 := put4_3 (t := lst) (d1 := i1) n4 n5 true (tick true) (tick c.isSome) (tick e.isSome)
        exact h2 ▸ h
    have A6 : c = none → AllReadyH P md ops Q S (fuel + n) (put4 lst i1 i3 i6 i9 (tick a.isSome) (tick b.isSome) (tick c.isSome) (tick e.isSome)) ⟨put4 t d1 d3 d6 d9 a b c e, df⟩ W [i6] := fun hc => by
      subst hc
      refine AllReadyH.cons h6 (fun K hK => ?_) AllReadyH.nil
      rw [if_pos (wt g6)]
      refine s6 a b e W K hJ (fun v W' hJ' => hK.out _ _ (hS _ _ _ _ _ hJ') (fun _ => ?_))
      have h := ih a b (some v) e W' (by simp [left4] at hn ⊢; omega) hb hJ'
      rw [put4_6 m6]
      have h2 := put4_6 (t := lst) (d1 := i1) (d3 := i3) n6 true (tick a.isSome) (tick b.isSome) (tick e.isSome)
      exact h2 ▸ h
    have A9 : e = none → AllReadyH P md ops Q S (fuel + n) (put4 lst i1 i3 i6 i9 (tick a.isSome) (tick b.isSome) (tick c.isSome) (tick e.isSome)) ⟨put4 t d1 d3 d6 d9 a b c e, df⟩ W [i9] := fun he => by
      subst he
      refine AllReadyH.cons h9 (fun K hK => ?_) AllReadyH.nil
      rw [if_pos (wt g9)]
      refine s9 a b c W K hJ (fun v W' hJ' => hK.out _ _ (hS _ _ _ _ _ hJ') (fun _ => ?_))
      have h := ih a b c (some v) W' (by simp [left4] at hn ⊢; omega) hb hJ'
      rw [put4_9]
      have h2 := put4_9 (t := lst) (d1 := i1) (d3 := i3) (d6 := i6) (d9 := i9) true (tick a.isSome) (tick b.isSome) (tick c.isSome)
      exact h2 ▸ h
    intro i hi
    unfold rsOf at hi
    rw [List.mem_append, List.mem_append] at hi
    rcases hi with hi | hi | hi
    · cases ha : a.isSome with
      | false =>
        rw [ha] at hi
        simp at hi
        rw [hi]
        have X := A1 (Option.not_isSome_iff_eq_none.1 (by rw [ha]; simp)) i1 (List.mem_singleton.2 rfl)
        rw [ha] at X
        exact X
      | true =>
        rw [ha] at hi
        cases hb2 : b.isSome with
        | false =>
          rw [hb2] at hi
          simp at hi
          rw [hi]
          have X := A3 ha (Option.not_isSome_iff_eq_none.1 (by rw [hb2]; simp)) i3 (List.mem_singleton.2 rfl)
          rw [ha, hb2] at X
          exact X
        | true => rw [hb2] at hi; simp at hi
    · cases hc : c.isSome with
      | false =>
        rw [hc] at hi
        simp at hi
        rw [hi]
        have X := A6 (Option.not_isSome_iff_eq_none.1 (by rw [hc]; simp)) i6 (List.mem_singleton.2 rfl)
        rw [hc] at X
        exact X
      | true => rw [hc] at hi; simp at hi
    · cases he : e.isSome with
      | false =>
        rw [he] at hi
        simp at hi
        rw [hi]
        have X := A9 (Option.not_isSome_iff_eq_none.1 (by rw [he]; simp)) i9 (List.mem_singleton.2 rfl)
        rw [he] at X
        exact X
      | true => rw [he] at hi; simp at hi
end
end Go.Proofs.YtijjkonephjodaaGreatDoor
