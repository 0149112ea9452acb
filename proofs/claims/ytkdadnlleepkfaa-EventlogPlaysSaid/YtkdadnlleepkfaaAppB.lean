/- append of bytes to bytes of the call's own, whatever the second slice is; a list of bytes laid. -/
import Derived.Test.YtkdadnlleepkfaaFlashPure
import Derived.Deep.RegionHeld3
namespace Go.Proofs.Ytkdadnlleepkfaa
open Go.RowKit

theorem bytes_of {A : List Int} (h : ∀ x ∈ A, 0 ≤ x ∧ x ≤ 255) : Bytes A := fun i => by
  rcases Nat.lt_or_ge i A.length with hi | hi
  · rw [List.getD_eq_getElem?_getD, List.getElem?_eq_getElem hi]; exact h _ (List.getElem_mem hi)
  · rw [List.getD_eq_getElem?_getD, List.getElem?_eq_none hi]; decide
theorem owns_down {w : World} {B B' size n : Nat} {e : TypeId} {v : Value} {xs : List Value} (h : w.ownsRow B e size v n xs) (hb : B' ≤ B) : w.ownsRow B' e size v n xs := by
  obtain ⟨hl, h⟩ := h
  refine ⟨hl, ?_⟩
  rcases h with h | ⟨g, cap, cur, hv, hg, r⟩
  · exact .inl h
  · exact .inr ⟨g, cap, cur, hv, by omega, r⟩

/-- Bytes of the call's own, in a block from B on. -/
def OwnB (w : World) (B : Nat) (v : Value) (A : List Int) : Prop := w.ownsRow B 5 1 v (u8s A).length (u8s A)
section
variable {w W : World} {B B' : Nat} {v : Value} {A : List Int} {S : List Nat}
theorem OwnB.nil (w : World) (B : Nat) : OwnB w B (.slice none 0 0) [] := World.ownsRow_nil _ _ _ _
theorem OwnB.rd (h : OwnB w B v A) : Rd w v (u8s A) := Rd.own h
theorem OwnB.lt (h : OwnB w B v A) : ∀ k, v.ownBlock = some k → B ≤ k ∧ k < w.heap.size := fun k hk => World.ownsRow.lt h k hk
theorem OwnB.mods (h : OwnB w B v A) (M : Mods S w W) (hS : ∀ k, v.ownBlock = some k → k ∉ S) : OwnB W B v A := M.owns h hS
theorem OwnB.mods0 (h : OwnB w B v A) (M : Mods [] w W) : OwnB W B v A := h.mods M (by simp)
theorem OwnB.down (h : OwnB w B v A) (hb : B' ≤ B) : OwnB w B' v A := owns_down h hb
theorem OwnB.lit (w : World) {B : Nat} (hB : B ≤ w.heap.size) (A : List Int) (hA : A.length ≤ maxLen) : OwnB (w.alloc (.cells (u8s A).toArray 5)) B (.slice (some ⟨w.heap.size, 0, none⟩) A.length A.length) A := by
  have := World.ownsRow_lit (base := B) (size := 1) (e := 5) w (u8s A).toArray A.length hB hA (by simp [u8s_length])
  unfold OwnB
  rw [u8s_length]
  exact this
theorem OwnB.apart {w : World} {B : Nat} {v : Value} {A : List Int} (h : OwnB w B v A) {g : Nat} {c : Array Value} {T : TypeId} {fr : Nat × Nat} (R : w.heap[g]? = some (.cells c T fr)) (hT : T ≠ 5) : g ∉ v.ownBlock.toList := fun hm => by
  rcases h.2 with ⟨rfl, _⟩ | ⟨g', cap, cur, rfl, _, hg, _⟩
  · simp [Value.ownBlock] at hm
  · simp [Value.ownBlock] at hm
    subst hm
    rw [R] at hg
    injection hg with hg
    injection hg with _ h2 _
    exact hT h2
theorem OwnB.back {w : World} {B : Nat} {v : Value} {A : List Int} (h : OwnB w B v A) {k : Nat} (hk : k ∈ v.ownBlock.toList) : B ≤ k := (h.lt k (by simpa using hk)).1
end
section
variable {ops : Array Oper} {Q : Exit → Act → World → Prop} {S : World → Prop} {md : Region.Mode}
theorem step_appB {o : Oper} {a : Act} {w : World} {K : Act → World → Prop} {E : Prop} (hw : Region.wanted o (yielded ops a.tmps) = true) (s x : Operand)
    (ho : o.op = .call { callee := .builtin .append, args := #[s, x], argTypes := #[61, 61] })
    {B : Nat} {v : Value} {A : List Int} (hs : a.eval s = v) (hown : OwnB w B v A) {vx : Value} {X : List Int} (hx : a.eval x = vx) (hX : Rd w vx (u8s X))
    (hn : A.length + X.length ≤ 1000000) (hB : B ≤ w.heap.size)
    (h : ∀ v' w', OwnB w' B v' (A ++ X) → Mods v.ownBlock.toList w w' → K (a.put o.dst v') w') :
    if Region.wanted o (yielded ops a.tmps) = true then Oper.wp Try.prog o a w K Q else E := by
  obtain ⟨i0, hi, hz0, hz1, hz2⟩ := info_parts Try.infoB
  rw [if_pos hw]
  obtain ⟨ad, cap, he, hc1, hc2, hc⟩ := hX
  rw [u8s_length] at he hc1 hc
  subst he
  cases ad with
  | none =>
    have hX0 : X = [] := by
      cases X with
      | nil => rfl
      | cons y l => obtain ⟨b, off, h0, _⟩ := hc 0 (by simp); cases h0
    subst hX0
    have hrun : ∀ ty, (Builtin.append_ #[61, 61] ty #[v, .slice none 0 cap]).run Try.prog w = .ok v w := by
      intro ty
      rcases hown.2 with ⟨rfl, _⟩ | ⟨g, cp, cur, rfl, _, _, hnc, _⟩
      · simp [Builtin.append_, run_underlying Try.underlying61, sizeOf, typeInfo, hi, Builtin.lenOf, Builtin.firstCells]
      · simp [Builtin.append_, run_underlying Try.underlying61, sizeOf, typeInfo, hi, Builtin.lenOf, Builtin.firstCells, hnc, storeCells]
    unfold Oper.wp
    simp [execOp, ho, resolve, invoke, builtin, hs, hx, hrun, Result.andThen]
    exact h v w (by rw [List.append_nil]; exact hown) Mods.refl
  | some ad =>
    refine wp_append_own w s x _ ho B 5 i0 _ 1 1 Try.underlying61 hi hz0 hz1 hz2 rfl (by decide) v _ (u8s A) hs hown ad X.length cap (u8s X) hx (by rw [u8s_length, Nat.mul_one]) ?_ (one_u8s X) (by rw [u8s_length]; unfold maxLen; omega) (by rw [u8s_length]; omega) hB ?_
    · intro j u hj
      have hjl : j < X.length := by rcases Nat.lt_or_ge j X.length with hl | hl; exact hl; rw [List.getElem?_eq_none (by rw [u8s_length]; exact hl)] at hj; cases hj
      obtain ⟨b, off, he, _⟩ := hc j hjl
      cases he
      exact rd_news (fun i hi => by
        obtain ⟨b', off', he', hc'⟩ := hc i (by rw [u8s_length] at hi; exact hi)
        cases he'
        exact hc') j u hj
    · intro v' w' h1 h2 _
      refine h v' w' ?_ (Mods.of_grown h2)
      unfold OwnB
      have e : u8s (A ++ X) = u8s A ++ u8s X := by simp [u8s]
      rw [e, List.length_append, u8s_length X]
      exact h1
theorem step_appD {o : Oper} {a : Act} {w : World} {K : Act → World → Prop} {E : Prop} (hw : Region.wanted o (yielded ops a.tmps) = true) (d : Nat) (hd : o.dst = some d) (s x : Operand)
    (ho : o.op = .call { callee := .builtin .append, args := #[s, x], argTypes := #[61, 61] })
    {B : Nat} {v : Value} {A : List Int} (hs : a.eval s = v) (hown : OwnB w B v A) {vx : Value} {X : List Int} (hx : a.eval x = vx) (hX : Rd w vx (u8s X))
    (hn : A.length + X.length ≤ 1000000) (hB : B ≤ w.heap.size)
    (h : ∀ v' w', OwnB w' B v' (A ++ X) → Mods v.ownBlock.toList w w' → K { a with tmps := a.tmps.setIfInBounds d v' } w') :
    if Region.wanted o (yielded ops a.tmps) = true then Oper.wp Try.prog o a w K Q else E :=
  step_appB hw s x ho hs hown hx hX hn hB fun v' w' h1 h2 => by unfold Act.put; rw [hd]; exact h v' w' h1 h2
theorem wpList_appB {rest : List Oper} {o : Oper} {a : Act} {w : World} (hw : Region.wanted o (yielded ops a.tmps) = true) (s x : Operand)
    (ho : o.op = .call { callee := .builtin .append, args := #[s, x], argTypes := #[61, 61] })
    {B : Nat} {v : Value} {A : List Int} (hs : a.eval s = v) (hown : OwnB w B v A) {vx : Value} {X : List Int} (hx : a.eval x = vx) (hX : Rd w vx (u8s X))
    (hn : A.length + X.length ≤ 1000000) (hB : B ≤ w.heap.size)
    (h : ∀ v' w', OwnB w' B v' (A ++ X) → Mods v.ownBlock.toList w w' → wpList Try.prog ops Q rest (a.put o.dst v') w') : wpList Try.prog ops Q (o :: rest) a w :=
  wpList_step fun _ hK => step_appB hw s x ho hs hown hx hX hn hB fun v' w' h1 h2 => hK _ _ (h v' w' h1 h2)
theorem exec_value {P : Program} {o : Oper} {a : Act} {w w' : World} {K : Act → World → Prop} {E : Prop} (hgd : o.guard = none) {d : Nat} (hd : o.dst = some d) {u : Value}
    (hr : (execOp a.eval o).run P w = .ok (.value u) w') (h : K { a with tmps := a.tmps.setIfInBounds d u } w') : if Region.wanted o (yielded ops a.tmps) = true then Oper.wp P o a w K Q else E := by
  rw [if_pos (by simp [Region.wanted, hgd])]
  unfold Oper.wp
  rw [hr, Oper.upon_value]
  unfold Act.put
  rw [hd]
  exact h
end
end Go.Proofs.Ytkdadnlleepkfaa
