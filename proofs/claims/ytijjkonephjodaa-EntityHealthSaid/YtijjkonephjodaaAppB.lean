/- append of bytes to bytes of the call's own, whatever the second slice is; a list of bytes laid. -/
import Derived.Test.YtijjkonephjodaaTwoBox
import Derived.Test.YtijjkonephjodaaEncodeD
namespace Go.Proofs.Ytijjkonephjodaa
open Go.RowKit

/-- Bytes of the call's own, in a block from B on. -/
def OwnB (w : World) (B : Nat) (v : Value) (A : List Int) : Prop := w.ownsRow B 5 1 v (u8s A).length (u8s A)
section
variable {w W : World} {B B' : Nat} {v : Value} {A : List Int} {S : List Nat}
theorem OwnB.nil (w : World) (B : Nat) : OwnB w B (.slice none 0 0) [] := World.ownsRow_nil _ _ _ _
theorem OwnB.rd (h : OwnB w B v A) : Rd w v (u8s A) := Rd.own h
theorem OwnB.lt (h : OwnB w B v A) : ∀ k, v.ownBlock = some k → B ≤ k ∧ k < w.heap.size := fun k hk => World.ownsRow.lt h k hk
theorem OwnB.mods (h : OwnB w B v A) (M : Mods S w W) (hS : ∀ k, v.ownBlock = some k → k ∉ S) : OwnB W B v A := M.owns h hS
theorem OwnB.mods0 (h : OwnB w B v A) (M : Mods [] w W) : OwnB W B v A := h.mods M (by simp)
theorem OwnB.down (h : OwnB w B v A) (hb : B' ≤ B) : OwnB w B' v A := owns_down h hb
theorem OwnB.lit (w : World) {B : Nat} (hB : B ≤ w.heap.size) (A : List Int) (hA : A.length ≤ maxLen) : OwnB (w.alloc (.cells (u8s A).toArray 5)) B (.slice (some ⟨w.heap.size, 0, none⟩) A.length A.length) A := by
  have := World.ownsRow_lit (base := B) (size := 1) (e := 5) w (u8s A).toArray A.length hB hA (by simp [u8s_length])
  unfold OwnB
  rw [u8s_length]
  exact this
theorem OwnB.apart {w : World} {B : Nat} {v : Value} {A : List Int} (h : OwnB w B v A) {g : Nat} {c : Array Value} {T : TypeId} {fr : Nat × Nat} (R : w.heap[g]? = some (.cells c T fr)) (hT : T ≠ 5) : g ∉ v.ownBlock.toList := fun hm => by
  rcases h.2 with ⟨rfl, _⟩ | ⟨g', cap, cur, rfl, _, hg, _⟩
  · simp [Value.ownBlock] at hm
  · simp [Value.ownBlock] at hm
    subst hm
    rw [R] at hg
    injection hg with hg
    injection hg with _ h2 _
    exact hT h2
theorem OwnB.back {w : World} {B : Nat} {v : Value} {A : List Int} (h : OwnB w B v A) {k : Nat} (hk : k ∈ v.ownBlock.toList) : B ≤ k := (h.lt k (by simpa using hk)).1
end
section
variable {ops : Array Oper} {Q : Exit → Act → World → Prop} {S : World → Prop} {md : Region.Mode}
theorem step_appB {o : Oper} {a : Act} {w : World} {K : Act → World → Prop} {E : Prop} (hw : Region.wanted o (yielded ops a.tmps) = true) (s x : Operand)
    (ho : o.op = .call { callee := .builtin .append, args := #[s, x], argTypes := #[33, 33] })
    {B : Nat} {v : Value} {A : List Int} (hs : a.eval s = v) (hown : OwnB w B v A) {vx : Value} {X : List Int} (hx : a.eval x = vx) (hX : Rd w vx (u8s X))
    (hn : A.length + X.length ≤ 1000000) (hB : B ≤ w.heap.size)
    (h : ∀ v' w', OwnB w' B v' (A ++ X) → Mods v.ownBlock.toList w w' → K (a.put o.dst v') w') :
    if Region.wanted o (yielded ops a.tmps) = true then Oper.wp Try.prog o a w K Q else E := by
  obtain ⟨i0, hi, hz0, hz1, hz2⟩ := info_parts Try.infoB
  rw [if_pos hw]
  obtain ⟨ad, cap, he, hc1, hc2, hc⟩ := hX
  rw [u8s_length] at he hc1 hc
  subst he
  cases ad with
  | none =>
    have hX0 : X = [] := by
      cases X with
      | nil => rfl
      | cons y l => obtain ⟨b, off, h0, _⟩ := hc 0 (by simp); cases h0
    subst hX0
    have hrun : ∀ ty, (Builtin.append_ #[33, 33] ty #[v, .slice none 0 cap]).run Try.prog w = .ok v w := by
      intro ty
      rcases hown.2 with ⟨rfl, _⟩ | ⟨g, cp, cur, rfl, _, _, hnc, _⟩
      · simp [Builtin.append_, run_underlying Try.underlying33, sizeOf, typeInfo, hi, Builtin.lenOf, Builtin.firstCells]
      · simp [Builtin.append_, run_underlying Try.underlying33, sizeOf, typeInfo, hi, Builtin.lenOf, Builtin.firstCells, hnc, storeCells]
    unfold Oper.wp
    simp [execOp, ho, resolve, invoke, builtin, hs, hx, hrun, Result.andThen]
    exact h v w (by rw [List.append_nil]; exact hown) Mods.refl
  | some ad =>
    refine wp_append_own w s x _ ho B 5 i0 _ 1 1 Try.underlying33 hi hz0 hz1 hz2 rfl (by decide) v _ (u8s A) hs hown ad X.length cap (u8s X) hx (by rw [u8s_length, Nat.mul_one]) ?_ (one_u8s X) (by rw [u8s_length]; unfold maxLen; omega) (by rw [u8s_length]; omega) hB ?_
    · intro j u hj
      have hjl : j < X.length := by rcases Nat.lt_or_ge j X.length with hl | hl; exact hl; rw [List.getElem?_eq_none (by rw [u8s_length]; exact hl)] at hj; cases hj
      obtain ⟨b, off, he, _⟩ := hc j hjl
      cases he
      exact rd_news (fun i hi => by
        obtain ⟨b', off', he', hc'⟩ := hc i (by rw [u8s_length] at hi; exact hi)
        cases he'
        exact hc') j u hj
    · intro v' w' h1 h2 _
      refine h v' w' ?_ (Mods.of_grown h2)
      unfold OwnB
      have e : u8s (A ++ X) = u8s A ++ u8s X := by simp [u8s]
      rw [e, List.length_append, u8s_length X]
      exact h1
theorem step_appD {o : Oper} {a : Act} {w : World} {K : Act → World → Prop} {E : Prop} (hw : Region.wanted o (yielded ops a.tmps) = true) (d : Nat) (hd : o.dst = some d) (s x : Operand)
    (ho : o.op = .call { callee := .builtin .append, args := #[s, x], argTypes := #[33, 33] })
    {B : Nat} {v : Value} {A : List Int} (hs : a.eval s = v) (hown : OwnB w B v A) {vx : Value} {X : List Int} (hx : a.eval x = vx) (hX : Rd w vx (u8s X))
    (hn : A.length + X.length ≤ 1000000) (hB : B ≤ w.heap.size)
    (h : ∀ v' w', OwnB w' B v' (A ++ X) → Mods v.ownBlock.toList w w' → K { a with tmps := a.tmps.setIfInBounds d v' } w') :
    if Region.wanted o (yielded ops a.tmps) = true then Oper.wp Try.prog o a w K Q else E :=
  step_appB hw s x ho hs hown hx hX hn hB fun v' w' h1 h2 => by unfold Act.put; rw [hd]; exact h v' w' h1 h2
theorem wpList_appB {rest : List Oper} {o : Oper} {a : Act} {w : World} (hw : Region.wanted o (yielded ops a.tmps) = true) (s x : Operand)
    (ho : o.op = .call { callee := .builtin .append, args := #[s, x], argTypes := #[33, 33] })
    {B : Nat} {v : Value} {A : List Int} (hs : a.eval s = v) (hown : OwnB w B v A) {vx : Value} {X : List Int} (hx : a.eval x = vx) (hX : Rd w vx (u8s X))
    (hn : A.length + X.length ≤ 1000000) (hB : B ≤ w.heap.size)
    (h : ∀ v' w', OwnB w' B v' (A ++ X) → Mods v.ownBlock.toList w w' → wpList Try.prog ops Q rest (a.put o.dst v') w') : wpList Try.prog ops Q (o :: rest) a w :=
  wpList_step fun _ hK => step_appB hw s x ho hs hown hx hX hn hB fun v' w' h1 h2 => hK _ _ (h v' w' h1 h2)
theorem exec_value {P : Program} {o : Oper} {a : Act} {w w' : World} {K : Act → World → Prop} {E : Prop} (hgd : o.guard = none) {d : Nat} (hd : o.dst = some d) {u : Value}
    (hr : (execOp a.eval o).run P w = .ok (.value u) w') (h : K { a with tmps := a.tmps.setIfInBounds d u } w') : if Region.wanted o (yielded ops a.tmps) = true then Oper.wp P o a w K Q else E := by
  rw [if_pos (by simp [Region.wanted, hgd])]
  unfold Oper.wp
  rw [hr, Oper.upon_value]
  unfold Act.put
  rw [hd]
  exact h
/-- append(append(s, x...), literal..): the literal's block may be laid ahead of the first append. -/
theorem appLit {a : Act} {w : World} {oA oL oB : Oper} {iA iL iB dA dL dB sA sX : Nat} {l0 : Array Bool} {fuel : Nat} {B : Nat} {v vx : Value} {A X X2 : List Int}
    (hA : ops[iA]? = some oA) (hL : ops[iL]? = some oL) (hB : ops[iB]? = some oB) (gA : oA.guard = none) (gL : oL.guard = none) (gB : oB.guard = none)
    (eA : oA.dst = some dA) (eL : oL.dst = some dL) (eB : oB.dst = some dB)
    (pA : oA.op = .call { callee := .builtin .append, args := #[.tmp sA, .tmp sX], argTypes := #[33, 33] })
    (pB : oB.op = .call { callee := .builtin .append, args := #[.tmp dA, .tmp dL], argTypes := #[33, 33] })
    (rL0 : ∀ w, (execOp a.eval oL).run Try.prog w = .ok (.value (.slice (some ⟨w.heap.size, 0, none⟩) X2.length X2.length)) (w.alloc (.cells (u8s X2).toArray 5)))
    (rL1 : ∀ (u : Value) w, (execOp ({ a with tmps := a.tmps.setIfInBounds dA u } : Act).eval oL).run Try.prog w = .ok (.value (.slice (some ⟨w.heap.size, 0, none⟩) X2.length X2.length)) (w.alloc (.cells (u8s X2).toArray 5)))
    (t1 : Region.ready md ops l0 = [iA, iL]) (t2 : Region.ready md ops (l0.setIfInBounds iA true) = [iL]) (t3 : Region.ready md ops (l0.setIfInBounds iL true) = [iA]) (t4 : Region.ready md ops ((l0.setIfInBounds iA true).setIfInBounds iL true) = [iB])
    (nI : iA ≠ iL) (nAL : dA ≠ dL) (nA1 : dL ≠ sA) (nA2 : dL ≠ sX) (lA : dA < a.tmps.size) (lL : dL < a.tmps.size)
    (vA : a.tmps.getD sA undef = v) (own : OwnB w B v A) (vX : a.tmps.getD sX undef = vx) (hX : Rd w vx (u8s X)) (hn : A.length + X.length + X2.length ≤ 1000000) (hBw : B ≤ w.heap.size)
    (hK : ∀ w', Mods (from_ B w) w w' → S w')
    (h : ∀ v1 g v3 W, OwnB W B v3 (A ++ X ++ X2) → Mods (from_ B w) w W → wpAnyH Try.prog md ops Q S fuel (((l0.setIfInBounds iA true).setIfInBounds iL true).setIfInBounds iB true) { a with tmps := ((a.tmps.setIfInBounds dA v1).setIfInBounds dL (.slice (some ⟨g, 0, none⟩) X2.length X2.length)).setIfInBounds dB v3 } W) :
    wpAnyH Try.prog md ops Q S (fuel + 3) l0 a w := by
  have hf : ∀ {w1 : World} {v : Value} {A : List Int} {W : World}, OwnB w1 B v A → Mods v.ownBlock.toList w1 W → Mods (from_ B w) w w1 → Mods (from_ B w) w W := fun {w1} {v} {A} {W} h1 h2 h3 => h3.comp h2 fun k hk => by
    rcases Nat.lt_or_ge k w.heap.size with hl | hl
    · left
      have := h1.back hk
      simp [from_, List.mem_range']
      exact ⟨k - B, by omega, by omega⟩
    · exact .inr hl
  have last : ∀ v1 g W, OwnB W B v1 (A ++ X) → Rd W (.slice (some ⟨g, 0, none⟩) X2.length X2.length) (u8s X2) → Mods (from_ B w) w W → wpAnyH Try.prog md ops Q S (fuel + 1) ((l0.setIfInBounds iA true).setIfInBounds iL true) { a with tmps := (a.tmps.setIfInBounds dA v1).setIfInBounds dL (.slice (some ⟨g, 0, none⟩) X2.length X2.length) } W := by
    intro v1 g W O R M
    refine wpAnyH_ready t4 (by simp) (AllReadyH.cons hB (fun _ hk => ?_) AllReadyH.nil)
    refine step_appB (by simp [Region.wanted, gB]) _ _ pB ((getD_set_other nAL.symm).trans (getD_set_same lA)) O (getD_set_same (by simpa using lL)) R (by rw [List.length_append]; omega) (Nat.le_trans hBw M.size) (fun v3 W3 O3 M3 => ?_)
    have M3 := hf O M3 M
    unfold Act.put
    rw [eB]
    exact hk.out _ _ (hK _ M3) (fun _ => h _ _ _ _ O3 M3)
  refine wpAnyH_ready t1 (by simp) (AllReadyH.cons hA (fun _ hk => ?_) (AllReadyH.cons hL (fun _ hk => ?_) AllReadyH.nil))
  · refine step_appB (by simp [Region.wanted, gA]) _ _ pA vA own vX hX (by omega) hBw (fun v1 W1 O1 M1 => ?_)
    have M1 := hf own M1 Mods.refl
    unfold Act.put
    rw [eA]
    refine hk.out _ _ (hK _ M1) (fun _ => ?_)
    refine wpAnyH_ready t2 (by simp) (AllReadyH.cons hL (fun _ hk => ?_) AllReadyH.nil)
    refine exec_value gL eL (rL1 v1 W1) ?_
    exact hk.out _ _ (hK _ (M1.alloc _)) (fun _ => last _ _ _ (O1.mods0 (Mods.refl.alloc _)) (OwnB.lit W1 (Nat.le_refl _) X2 (by unfold maxLen; omega)).rd (M1.alloc _))
  · refine exec_value gL eL (rL0 w) ?_
    have ML := (Mods.refl (S := from_ B w) (w := w)).alloc (.cells (u8s X2).toArray 5)
    have ML0 := (Mods.refl (S := []) (w := w)).alloc (.cells (u8s X2).toArray 5)
    refine hk.out _ _ (hK _ ML) (fun _ => ?_)
    refine wpAnyH_ready t3 (by simp) (AllReadyH.cons hA (fun _ hk => ?_) AllReadyH.nil)
    refine step_appB (by simp [Region.wanted, gA]) _ _ pA ((getD_set_other nA1).trans vA) (own.mods0 ML0) ((getD_set_other nA2).trans vX) (hX.mods0 ML0) (by omega) (Nat.le_trans hBw ML.size) (fun v1 W1 O1 M1 => ?_)
    have R := ((OwnB.lit w (Nat.le_refl _) X2 (by unfold maxLen; omega)).mods M1 (fun k hk => by
      simp [Value.ownBlock] at hk
      intro hm
      have := (own.lt k (by simpa using hm)).2
      omega)).rd
    have M1 := hf (own.mods0 ML0) M1 ML
    unfold Act.put
    rw [eA]
    refine hk.out _ _ (hK _ M1) (fun _ => ?_)
    dsimp only
    rw [Array.setIfInBounds_comm _ _ nAL.symm, Array.setIfInBounds_comm _ _ nI.symm]
    exact last _ _ _ O1 R M1
end
end Go.Proofs.Ytijjkonephjodaa
