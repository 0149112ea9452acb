/- A drawn region of three calls (a chain), two allocations that stand free among them, and at the end two stores into the boxes: one law for all its orders. -/
import Derived.Test.YtijjkonephjodaaTwoBoxN
namespace Go.Proofs.Ytijjkonephjodaa
open Go.RowKit

/-- Two blocks under way, next to calls that write into the block b. -/
structure TBC (T : TypeId) (b : Nat) (w0 w : World) (oA oB : Option (Nat × Array Value)) : Prop where
  M : Mods [b] w0 w
  A : ∀ p, oA = some p → w.heap[p.1]? = some (.cells p.2 T (0, 0)) ∧ w0.heap.size ≤ p.1
  B : ∀ p, oB = some p → w.heap[p.1]? = some (.cells p.2 T (0, 0)) ∧ w0.heap.size ≤ p.1
  ne : ∀ p q, oA = some p → oB = some q → p.1 ≠ q.1
section
variable {T : TypeId} {b : Nat} {w0 w W : World} {oA oB : Option (Nat × Array Value)}
theorem TBC.start (w : World) : TBC T b w w none none := ⟨Mods.refl, fun _ h => (by cases h), fun _ h => (by cases h), fun _ _ h => (by cases h)⟩
theorem TBC.swap (h : TBC T b w0 w oA oB) : TBC T b w0 w oB oA := ⟨h.M, h.B, h.A, fun p q hp hq => (h.ne q p hq hp).symm⟩
theorem TBC.allocA (h : TBC T b w0 w none oB) (c : Array Value) : TBC T b w0 (w.alloc (.cells c T)) (some (w.heap.size, c)) oB :=
  ⟨h.M.alloc _, fun p hp => by cases hp; exact ⟨heap_alloc_new w _, h.M.size⟩, fun p hp => ⟨heap_alloc (h.B p hp).1, (h.B p hp).2⟩, fun p q hp hq => by cases hp; have := lt_of_block (h.B q hq).1; omega⟩
theorem TBC.storeA {g : Nat} {c cs : Array Value} (h : TBC T b w0 w (some (g, c)) oB) (R : W.heap[g]? = some (.cells cs T (0, 0))) (M : Mods [g] w W) : TBC T b w0 W (some (g, cs)) oB :=
  ⟨h.M.comp M fun k hk => by simp at hk; subst hk; exact .inr (h.A _ rfl).2, fun p hp => by cases hp; exact ⟨R, (h.A _ rfl).2⟩, fun p hp => ⟨M.heap (h.B p hp).1 (by have := h.ne _ p rfl hp; simp; omega), (h.B p hp).2⟩, fun p q hp hq => by cases hp; exact h.ne (g, c) q rfl hq⟩
theorem TBC.call (h : TBC T b w0 w oA oB) (hb : b < w0.heap.size) (M : Mods [b] w W) : TBC T b w0 W oA oB :=
  ⟨h.M.comp M fun k hk => .inl hk, fun p hp => ⟨M.heap (h.A p hp).1 (by have := (h.A p hp).2; simp; omega), (h.A p hp).2⟩, fun p hp => ⟨M.heap (h.B p hp).1 (by have := (h.B p hp).2; simp; omega), (h.B p hp).2⟩, h.ne⟩
end

def oset {α : Type} (t : Array α) (d : Nat) : Option α → Array α
  | none => t
  | some v => t.setIfInBounds d v
theorem oset_comm {α : Type} {t : Array α} {d e : Nat} (h : d ≠ e) (o : Option α) (v : α) : (oset t d o).setIfInBounds e v = oset (t.setIfInBounds e v) d o := by
  cases o with
  | none => rfl
  | some u => exact Array.setIfInBounds_comm _ _ h
theorem oset_get {t : Array Value} {d k : Nat} (h : d ≠ k) (o : Option Value) : (oset t d o).getD k undef = t.getD k undef := by
  cases o with
  | none => rfl
  | some u => exact getD_set_other h
theorem oset_size {α : Type} {t : Array α} {d : Nat} (o : Option α) : (oset t d o).size = t.size := by cases o <;> simp [oset]
/-- The slots behind the first calls. -/
def cvs {α : Type} (dc : Nat → Nat) : Nat → Array α → List α → Array α
  | _, t, [] => t
  | k, t, v :: l => cvs dc (k + 1) (t.setIfInBounds (dc k) v) l
theorem cvs_snoc {α : Type} (dc : Nat → Nat) (v : α) : ∀ (l : List α) k t, cvs dc k t (l ++ [v]) = (cvs dc k t l).setIfInBounds (dc (k + l.length)) v
  | [], _, _ => rfl
  | u :: l, k, t => by
    show cvs dc (k + 1) _ (l ++ [v]) = _
    rw [cvs_snoc dc v l]
    show _ = (cvs dc (k + 1) _ l).setIfInBounds (dc (k + (l.length + 1))) v
    rw [show k + 1 + l.length = k + (l.length + 1) by omega]
theorem cvs_get (dc : Nat → Nat) {j : Nat} (h : ∀ k, dc k ≠ j) : ∀ (l : List Value) k t, (cvs dc k t l).getD j undef = t.getD j undef
  | [], _, _ => rfl
  | _ :: l, k, _ => (cvs_get dc h l (k + 1) _).trans (getD_set_other (h k))
theorem cvs_size {α : Type} (dc : Nat → Nat) : ∀ (l : List α) k t, (cvs dc k t l).size = t.size
  | [], _, _ => rfl
  | _ :: l, k, _ => (cvs_size dc l (k + 1) _).trans (by simp)

section
variable {P : Program} {ops : Array Oper} {Q : Exit → Act → World → Prop} {S : World → Prop} {md : Region.Mode} {T : TypeId}
theorem exec_call {o : Oper} {a : Act} {w : World} {K : Act → World → Prop} {E : Prop} (hgd : o.guard = none) {d : Nat} (hd : o.dst = some d) {f : FuncId} {args : Array Value}
    (hr : (execOp a.eval o).run P w = .ok (.enter f args) w) {R : Value → World → Prop} (hc : Calls P f args w fun e w' => ∃ v, e = .returned v ∧ R v w')
    (h : ∀ v w', R v w' → K { a with tmps := a.tmps.setIfInBounds d v } w') : if Region.wanted o (yielded ops a.tmps) = true then Oper.wp P o a w K Q else E := by
  rw [if_pos (by simp [Region.wanted, hgd])]
  unfold Oper.wp
  rw [hr]
  show Calls P f args w _
  refine hc.mono ?_
  rintro e w' ⟨v, rfl, hR⟩
  show K (a.put o.dst v) w'
  unfold Act.put
  rw [hd]
  exact h v w' hR
/-- The state: k calls are over. -/
def cbT (t : Array Value) (dc : Nat → Nat) (dA dB : Nat) (vs : List Value) (oA oB : Option Nat) : Array Value :=
  oset (oset (cvs dc 0 t vs) dA (oA.map fun g => .pointer (some ⟨g, 0, none⟩))) dB (oB.map fun g => .pointer (some ⟨g, 0, none⟩))
def cbL (l : Array Bool) (ic : Nat → Nat) (iA iB : Nat) (k : Nat) (bA bB : Bool) : Array Bool :=
  oset (oset (cvs ic 0 l (List.replicate k true)) iA (if bA then some true else none)) iB (if bB then some true else none)
theorem cbT_call {t : Array Value} {dc : Nat → Nat} {dA dB : Nat} (hA : ∀ k, dA ≠ dc k) (hB : ∀ k, dB ≠ dc k) (vs : List Value) (oA oB : Option Nat) (v : Value) :
    (cbT t dc dA dB vs oA oB).setIfInBounds (dc vs.length) v = cbT t dc dA dB (vs ++ [v]) oA oB := by
  unfold cbT
  rw [oset_comm (hB _), oset_comm (hA _), cvs_snoc, Nat.zero_add]
theorem cbT_A {t : Array Value} {dc : Nat → Nat} {dA dB : Nat} (h : dB ≠ dA) (vs : List Value) (oB : Option Nat) (g : Nat) :
    (cbT t dc dA dB vs none oB).setIfInBounds dA (.pointer (some ⟨g, 0, none⟩)) = cbT t dc dA dB vs (some g) oB := by
  unfold cbT
  rw [oset_comm h]; rfl
theorem cbT_B {t : Array Value} {dc : Nat → Nat} {dA dB : Nat} (vs : List Value) (oA : Option Nat) (g : Nat) :
    (cbT t dc dA dB vs oA none).setIfInBounds dB (.pointer (some ⟨g, 0, none⟩)) = cbT t dc dA dB vs oA (some g) := rfl
theorem cbL_call {l : Array Bool} {ic : Nat → Nat} {iA iB : Nat} (hA : ∀ k, iA ≠ ic k) (hB : ∀ k, iB ≠ ic k) (k : Nat) (bA bB : Bool) :
    (cbL l ic iA iB k bA bB).setIfInBounds (ic k) true = cbL l ic iA iB (k + 1) bA bB := by
  unfold cbL
  rw [oset_comm (hB _), oset_comm (hA _), List.replicate_succ', cvs_snoc, Nat.zero_add, List.length_replicate]
theorem cbL_A {l : Array Bool} {ic : Nat → Nat} {iA iB : Nat} (h : iB ≠ iA) (k : Nat) (bB : Bool) : (cbL l ic iA iB k false bB).setIfInBounds iA true = cbL l ic iA iB k true bB := by
  unfold cbL
  rw [oset_comm h]; rfl
theorem cbL_B {l : Array Bool} {ic : Nat → Nat} {iA iB : Nat} (k : Nat) (bA : Bool) : (cbL l ic iA iB k bA false).setIfInBounds iB true = cbL l ic iA iB k bA true := rfl

theorem cbT_get {t : Array Value} {dc : Nat → Nat} {dA dB s : Nat} (hA : dA ≠ s) (hB : dB ≠ s) (vs : List Value) (p q : Option Nat) : (cbT t dc dA dB vs p q).getD s undef = (cvs dc 0 t vs).getD s undef := by
  unfold cbT
  rw [oset_get hB, oset_get hA]
theorem callBoxes {lst : Array Bool} {n iA iB i4 i5 : Nat} {ic dc : Nat → Nat} {oc : Nat → Oper} {fc : Nat → FuncId} {ac : Nat → Array Value} {a : Act} {w0 w : World} {b : Nat} {J : List Value → World → Prop} {oA oB o4 o5 : Oper} {dA dB sA sB : Nat} {ty : TypeId} {z : Array Value} {fuel : Nat}
    (hc : ∀ k, k < n → ops[ic k]? = some (oc k) ∧ (oc k).guard = none ∧ (oc k).dst = some (dc k))
    (hrun : ∀ k, k < n → ∀ (x : List Value) (p q : Option Nat) w, (execOp (Act.eval { a with tmps := cbT a.tmps dc dA dB x p q }) (oc k)).run P w = .ok (.enter (fc k) (ac k)) w)
    (hcall : ∀ vs w, vs.length < n → J vs w → Calls P (fc vs.length) (ac vs.length) w fun e w' => ∃ v, e = .returned v ∧ (J (vs ++ [v]) w' ∧ Mods [b] w w'))
    (hJ : ∀ vs w c, J vs w → J vs (w.alloc c))
    (h2 : ops[iA]? = some oA) (h3 : ops[iB]? = some oB) (h4 : ops[i4]? = some o4) (h5 : ops[i5]? = some o5)
    (g2 : oA.guard = none) (g3 : oB.guard = none) (g4 : o4.guard = none) (g5 : o5.guard = none) (d2 : oA.dst = some dA) (d3 : oB.dst = some dB) (d4 : o4.dst = none) (d5 : o5.dst = none)
    (r2 : ∀ (a : Act) w, (execOp a.eval oA).run P w = .ok (.value (.pointer (some ⟨w.heap.size, 0, none⟩))) (w.alloc (.cells z T)))
    (r3 : ∀ (a : Act) w, (execOp a.eval oB).run P w = .ok (.value (.pointer (some ⟨w.heap.size, 0, none⟩))) (w.alloc (.cells z T)))
    (p4 : o4.op = .store ty (.tmp dA) (.tmp sA)) (p5 : o5.op = .store ty (.tmp dB) (.tmp sB))
    (hEnd : ∀ vs w, vs.length = n → J vs w → ∃ csA csB : Array Value, (∀ p q, (cbT a.tmps dc dA dB vs p q).getD sA undef = .agg csA) ∧ (∀ p q, (cbT a.tmps dc dA dB vs p q).getD sB undef = .agg csB) ∧ z.size = csA.size ∧ z.size = csB.size ∧ csA.all (·.oneCell') = true ∧ csB.all (·.oneCell') = true ∧
      ∀ gA gB W, TBC T b w0 W (some (gA, csA)) (some (gB, csB)) → (∃ w1, J vs w1 ∧ TBC T b w0 w1 (some (gA, z)) (some (gB, z)) ∧ Mods [gA, gB] w1 W) → wpAnyH P md ops Q S fuel (((cbL lst ic iA iB n true true).setIfInBounds i4 true).setIfInBounds i5 true) { a with tmps := cbT a.tmps dc dA dB vs (some gA) (some gB) } W)
    (iZ : (P.info? ty).map (·.size) = some z.size)
    (lA : dA < a.tmps.size) (lB : dB < a.tmps.size) (nAB : dA ≠ dB) (nA : ∀ k, dA ≠ dc k) (nB : ∀ k, dB ≠ dc k) (mAB : iA ≠ iB) (mA : ∀ k, iA ≠ ic k) (mB : ∀ k, iB ≠ ic k)
    (tab : ∀ k, k ≤ n → ∀ bA bB, Region.ready md ops (cbL lst ic iA iB k bA bB) = (if k < n then [ic k] else []) ++ ((if bA then [] else [iA]) ++ ((if bB then [] else [iB]) ++ (if k = n ∧ bA = true ∧ bB = true then [i4] else []))))
    (tab5 : Region.ready md ops ((cbL lst ic iA iB n true true).setIfInBounds i4 true) = [i5])
    (hS : ∀ w', Mods [b] w0 w' → S w') (hb : b < w0.heap.size)
    (hJ0 : J [] w) (hw : Mods [b] w0 w) :
    wpAnyH P md ops Q S (fuel + 2 + (n + 2)) lst a w := by
  have both : ∀ vs w gA gB, vs.length = n → J vs w → TBC T b w0 w (some (gA, z)) (some (gB, z)) → wpAnyH P md ops Q S (fuel + 2) (cbL lst ic iA iB n true true) { a with tmps := cbT a.tmps dc dA dB vs (some gA) (some gB) } w := by
    intro vs w gA gB hl hJv hW
    obtain ⟨csA, csB, vA, vB, zA, zB, oneA, oneB, hE⟩ := hEnd vs w hl hJv
    have e1 : (Act.eval { a with tmps := cbT a.tmps dc dA dB vs (some gA) (some gB) } (.tmp dA)) = .pointer (some ⟨gA, 0, none⟩) :=
      (getD_set_other nAB.symm).trans (getD_set_same (by rw [cvs_size]; exact lA))
    have e3 : (Act.eval { a with tmps := cbT a.tmps dc dA dB vs (some gA) (some gB) } (.tmp dB)) = .pointer (some ⟨gB, 0, none⟩) :=
      getD_set_same (by rw [oset_size, cvs_size]; exact lB)
    refine wpAnyH_ready (rs := [i4]) (by rw [tab n (Nat.le_refl _)]; simp) (by simp) (AllReadyH.cons h4 (fun K hk => ?_) AllReadyH.nil)
    refine exec_store g4 d4 p4 (hW.A _ rfl).1 e1 (vA _ _) zA (zA ▸ iZ) oneA (fun W' R M => ?_)
    have hW' := hW.storeA R M
    refine hk.out _ _ (hS _ hW'.M) (fun _ => ?_)
    refine wpAnyH_ready tab5 (by simp) (AllReadyH.cons h5 (fun K hk => ?_) AllReadyH.nil)
    refine exec_store g5 d5 p5 (hW'.B _ rfl).1 e3 (vB _ _) zB (zB ▸ iZ) oneB (fun W'' R M' => ?_)
    have hW'' := (hW'.swap.storeA R M').swap
    exact hk.out _ _ (hS _ hW''.M) (fun _ => hE _ _ _ hW'' ⟨w, hJv, hW, ((Mods.refl (S := [gA, gB])).comp M (fun k hk => .inl (by simp at hk; simp [hk]))).comp M' (fun k hk => .inl (by simp at hk; simp [hk]))⟩)
  have all : ∀ t vs (xA xB : Option (Nat × Array Value)) w, vs.length ≤ n → t = (n - vs.length) + ((if xA.isSome then 0 else 1) + (if xB.isSome then 0 else 1)) → J vs w → (∀ p, xA = some p → p.2 = z) → (∀ p, xB = some p → p.2 = z) → TBC T b w0 w xA xB →
      wpAnyH P md ops Q S (fuel + 2 + t) (cbL lst ic iA iB vs.length xA.isSome xB.isSome) { a with tmps := cbT a.tmps dc dA dB vs (xA.map (·.1)) (xB.map (·.1)) } w := by
    intro t
    induction t with
    | zero =>
      intro vs xA xB w hle ht hJv hA hB hW
      cases xA with
      | none => simp at ht; omega
      | some pA =>
        cases xB with
        | none => simp at ht
        | some pB =>
          have hl : vs.length = n := by simp at ht; omega
          obtain ⟨gA, zA⟩ := pA
          obtain ⟨gB, zB⟩ := pB
          obtain rfl : zA = z := hA _ rfl
          obtain rfl : zB = zA := hB _ rfl
          have := both vs w gA gB hl hJv hW
          rw [← hl] at this
          exact this
    | succ t ih =>
      intro vs xA xB w hle ht hJv hA hB hW
      have hr := tab vs.length hle xA.isSome xB.isSome
      refine wpAnyH_ready hr ?_ ?_
      · intro he
        rcases Nat.lt_or_ge vs.length n with hk | hk
        · rw [if_pos hk] at he; cases he
        · have hk : vs.length = n := by omega
          cases xA with
          | none => rw [if_neg (by omega)] at he; cases he
          | some pA =>
            cases xB with
            | none => rw [if_neg (by omega)] at he; cases he
            | some pB => simp at ht; omega
      · intro i hi
        simp only [List.mem_append] at hi
        rcases hi with hi | hi | hi | hi
        · by_cases hk : vs.length < n
          · rw [if_pos hk] at hi
            obtain rfl := List.mem_singleton.1 hi
            obtain ⟨c1, c2, c3⟩ := hc _ hk
            refine (AllReadyH.cons c1 (fun K hK => ?_) AllReadyH.nil) _ (List.mem_singleton.2 rfl)
            refine exec_call c2 c3 (hrun _ hk vs _ _ w) (hcall vs w hk hJv) ?_
            rintro v w' ⟨hJ', M⟩
            have hW' := hW.call hb M
            refine hK.out _ _ (hS _ hW'.M) (fun _ => ?_)
            have := ih (vs ++ [v]) xA xB w' (by simp; omega) (by simp; omega) hJ' hA hB hW'
            rw [List.length_append, List.length_singleton, ← cbL_call mA mB, ← cbT_call nA nB] at this
            exact this
          · rw [if_neg hk] at hi; cases hi
        · cases xA with
          | some pA => simp at hi
          | none =>
            obtain rfl : i = iA := by simpa using hi
            refine (AllReadyH.cons h2 (fun K hK => ?_) AllReadyH.nil) _ (List.mem_singleton.2 rfl)
            refine exec_alloc g2 d2 r2 ?_
            have hW' := hW.allocA z
            refine hK.out _ _ (hS _ hW'.M) (fun _ => ?_)
            have := ih vs (some (w.heap.size, z)) xB _ hle (by simp at ht ⊢; omega) (hJ _ _ (.cells z T) hJv) (fun p hp => by cases hp; rfl) hB hW'
            simp only [Option.isSome_some, Option.map_some] at this
            rw [← cbL_A mAB.symm, ← cbT_A nAB.symm] at this
            exact this
        · cases xB with
          | some pA => simp at hi
          | none =>
            obtain rfl : i = iB := by simpa using hi
            refine (AllReadyH.cons h3 (fun K hK => ?_) AllReadyH.nil) _ (List.mem_singleton.2 rfl)
            refine exec_alloc g3 d3 r3 ?_
            have hW' := (hW.swap.allocA z).swap
            refine hK.out _ _ (hS _ hW'.M) (fun _ => ?_)
            have := ih vs xA (some (w.heap.size, z)) _ hle (by simp at ht ⊢; omega) (hJ _ _ (.cells z T) hJv) hA (fun p hp => by cases hp; rfl) hW'
            simp only [Option.isSome_some, Option.map_some] at this
            rw [← cbL_B, ← cbT_B] at this
            exact this
        · split at hi
          · rename_i he
            obtain ⟨e1, e2, e3⟩ := he
            rw [if_pos e2, if_pos e3] at ht
            omega
          · cases hi
  exact all (n + 2) [] none none w (by simp) (by simp) hJ0 (fun _ h => (by cases h)) (fun _ h => (by cases h)) ⟨hw, fun _ h => (by cases h), fun _ h => (by cases h), fun _ _ h => (by cases h)⟩
end
end Go.Proofs.Ytijjkonephjodaa
