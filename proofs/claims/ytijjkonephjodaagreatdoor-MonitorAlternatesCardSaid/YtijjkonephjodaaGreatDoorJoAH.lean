/- Joined texts. 'x, y := a, b' for two structs: two blocks are made and stored into, in whatever order. | sensor.two: the bytes of numbers of 16 bits; contract. | append of one slice to another, in a guarded operation too. | sensor.Encode of a valid discrete sensor: contract. | append of bytes to bytes of the call's own, whatever the second slice is; a list of bytes laid. | The reference's Sum8, Copy, Seal8, Open8, and checksum.Open8: contracts. | The results of a function: one out of a block, one out of a slot. | sampling.Step and the reference's: contracts. -/
import Derived.Test.YtijjkonephjodaaGreatDoorJoAE
import Derived.Test.YtijjkonephjodaaGreatDoorJoAC
import Derived.Test.YtijjkonephjodaaGreatDoorJoAG
import Derived.Deep.AppendLies
import Derived.Test.YtijjkonephjodaaGreatDoorJoAA
import Derived.Test.YtijjkonephjodaaGreatDoorJoAB
import Derived.Lib.AppendStr
import Derived.Laws.OwnMore
import Derived.Deep.MidRow
import Derived.Laws.IdiomCopy
namespace Go.Proofs.YtijjkonephjodaaGreatDoor
open Go.RowKit

/-- Two blocks under way. -/
structure TB (T : TypeId) (w0 w : World) (oA oB : Option (Nat × Array Value)) : Prop where
  M : Mods [] w0 w
  A : ∀ p, oA = some p → w.heap[p.1]? = some (.cells p.2 T (0, 0)) ∧ w0.heap.size ≤ p.1
  B : ∀ p, oB = some p → w.heap[p.1]? = some (.cells p.2 T (0, 0)) ∧ w0.heap.size ≤ p.1
  ne : ∀ p q, oA = some p → oB = some q → p.1 ≠ q.1
variable {T : TypeId} {w0 w W : World} {oA oB : Option (Nat × Array Value)}
theorem TB.start (w : World) : TB T w w none none := ⟨Mods.refl, fun _ h => (by cases h), fun _ h => (by cases h), fun _ _ h => (by cases h)⟩
theorem TB.swap (h : TB T w0 w oA oB) : TB T w0 w oB oA := ⟨h.M, h.B, h.A, fun p q hp hq => (h.ne q p hq hp).symm⟩
theorem TB.allocA (h : TB T w0 w none oB) (c : Array Value) : TB T w0 (w.alloc (.cells c T)) (some (w.heap.size, c)) oB :=
  ⟨h.M.alloc _, fun p hp => by cases hp; exact ⟨heap_alloc_new w _, h.M.size⟩, fun p hp => ⟨heap_alloc (h.B p hp).1, (h.B p hp).2⟩, fun p q hp hq => by cases hp; have := lt_of_block (h.B q hq).1; omega⟩
theorem TB.storeA {g : Nat} {c cs : Array Value} (h : TB T w0 w (some (g, c)) oB) (R : W.heap[g]? = some (.cells cs T (0, 0))) (M : Mods [g] w W) : TB T w0 W (some (g, cs)) oB :=
  ⟨h.M.comp M fun k hk => by simp at hk; subst hk; exact .inr (h.A _ rfl).2, fun p hp => by cases hp; exact ⟨R, (h.A _ rfl).2⟩, fun p hp => ⟨M.heap (h.B p hp).1 (by have := h.ne _ p rfl hp; simp; omega), (h.B p hp).2⟩, fun p q hp hq => by cases hp; exact h.ne (g, c) q rfl hq⟩
section
variable {P : Program} {ops : Array Oper} {Q : Exit → Act → World → Prop} {S : World → Prop} {md : Region.Mode}
theorem exec_store {ops : Array Oper} {o : Oper} {a : Act} {w : World} {K : Act → World → Prop} {E : Prop} (hgd : o.guard = none) (hd : o.dst = none) {ty : TypeId} {x y : Operand} (ho : o.op = .store ty x y)
    {g : Nat} {c0 cs : Array Value} (hg : w.heap[g]? = some (.cells c0 T (0, 0))) (hx : a.eval x = .pointer (some ⟨g, 0, none⟩)) (hy : a.eval y = .agg cs) (hs : c0.size = cs.size)
    (hi : (P.info? ty).map (·.size) = some cs.size) (h1 : cs.all (·.oneCell') = true) (h : ∀ W, W.heap[g]? = some (.cells cs T (0, 0)) → Mods [g] w W → K a W) : if Region.wanted o (yielded ops a.tmps) = true then Oper.wp P o a w K Q else E := by
  rw [if_pos (by simp [Region.wanted, hgd])]
  have e : a.put o.dst undef = a := by rw [hd]; rfl
  have hR : (w.setCells g 0 cs.toList).heap[g]? = some (.cells cs T (0, 0)) := by rw [heap_setCells _ _ _ _ hg, setAll_whole hs]
  refine wp_store_mid ty x y ho g 0 cs hx hy ?_ hi h1 (by rw [e]; exact h _ hR (Mods.setCells _ _ _))
  · intro j hj
    refine ⟨?_, froz_blk hg _⟩
    rw [cell_blk hg, Nat.zero_add, Array.getElem?_eq_getElem (by omega)]
    rfl
theorem exec_alloc {ops : Array Oper} {o : Oper} {a : Act} {w : World} {K : Act → World → Prop} {E : Prop} (hgd : o.guard = none) {d : Nat} (hd : o.dst = some d) {c : Array Value}
    (hr : ∀ (a : Act) w, (execOp a.eval o).run P w = .ok (.value (.pointer (some ⟨w.heap.size, 0, none⟩))) (w.alloc (.cells c T)))
    (h : K { a with tmps := a.tmps.setIfInBounds d (.pointer (some ⟨w.heap.size, 0, none⟩)) } (w.alloc (.cells c T))) : if Region.wanted o (yielded ops a.tmps) = true then Oper.wp P o a w K Q else E := by
  rw [if_pos (by simp [Region.wanted, hgd])]
  unfold Oper.wp
  rw [hr, Oper.upon_value]
  unfold Act.put
  rw [hd]
  exact h
/-- Which operations may come up, at each point. -/
def twoTable (md : Region.Mode) (ops : Array Oper) : Bool :=
  decide (Region.ready md ops #[true, true, false, false, false, false] = [2, 3]) && decide (Region.ready md ops #[true, true, true, false, false, false] = [3])
  && decide (Region.ready md ops #[true, true, false, true, false, false] = [2]) && decide (Region.ready md ops #[true, true, true, true, false, false] = [4])
  && decide (Region.ready md ops #[true, true, true, true, true, false] = [5]) && decide (Region.ready md ops #[true, true, true, true, true, true] = [])
theorem twoTable_get (h : twoTable md ops = true) : Region.ready md ops #[true, true, false, false, false, false] = [2, 3] ∧ Region.ready md ops #[true, true, true, false, false, false] = [3]
    ∧ Region.ready md ops #[true, true, false, true, false, false] = [2] ∧ Region.ready md ops #[true, true, true, true, false, false] = [4]
    ∧ Region.ready md ops #[true, true, true, true, true, false] = [5] ∧ Region.ready md ops #[true, true, true, true, true, true] = [] := by
  simp only [twoTable, Bool.and_eq_true, decide_eq_true_eq] at h
  obtain ⟨⟨⟨⟨⟨h1, h2⟩, h3⟩, h4⟩, h5⟩, h6⟩ := h
  exact ⟨h1, h2, h3, h4, h5, h6⟩
theorem getD_set_same {l : Array Value} {d : Nat} {v u : Value} (h : d < l.size) : (l.setIfInBounds d v).getD d u = v := by simp [Array.getD_eq_getD_getElem?, h]
theorem getD_set_other {l : Array Value} {d k : Nat} {v u : Value} (h : d ≠ k) : (l.setIfInBounds d v).getD k u = l.getD k u := by simp [Array.getD_eq_getD_getElem?, h]
theorem twoBoxes {ops : Array Oper} {a : Act} {w : World} {o2 o3 o4 o5 : Oper} {dA dB sA sB : Nat} {ty : TypeId} {z csA csB : Array Value} {fuel : Nat}
    (h2 : ops[2]? = some o2) (h3 : ops[3]? = some o3) (h4 : ops[4]? = some o4) (h5 : ops[5]? = some o5)
    (g2 : o2.guard = none) (g3 : o3.guard = none) (g4 : o4.guard = none) (g5 : o5.guard = none) (d2 : o2.dst = some dA) (d3 : o3.dst = some dB) (d4 : o4.dst = none) (d5 : o5.dst = none)
    (r2 : ∀ (a : Act) w, (execOp a.eval o2).run P w = .ok (.value (.pointer (some ⟨w.heap.size, 0, none⟩))) (w.alloc (.cells z T)))
    (r3 : ∀ (a : Act) w, (execOp a.eval o3).run P w = .ok (.value (.pointer (some ⟨w.heap.size, 0, none⟩))) (w.alloc (.cells z T)))
    (p4 : o4.op = .store ty (.tmp dA) (.tmp sA)) (p5 : o5.op = .store ty (.tmp dB) (.tmp sB))
    (zA : z.size = csA.size) (zB : z.size = csB.size) (iA : (P.info? ty).map (·.size) = some csA.size) (iB : (P.info? ty).map (·.size) = some csB.size)
    (oneA : csA.all (·.oneCell') = true) (oneB : csB.all (·.oneCell') = true)
    (lA : dA < a.tmps.size) (lB : dB < a.tmps.size) (nAB : dA ≠ dB) (nA1 : dA ≠ sA) (nA2 : dA ≠ sB) (nB1 : dB ≠ sA) (nB2 : dB ≠ sB)
    (vA : a.tmps.getD sA undef = .agg csA) (vB : a.tmps.getD sB undef = .agg csB)
    (ht : twoTable md ops = true) (hK : ∀ w', Mods [] w w' → S w')
    (h : ∀ gA gB W, TB T w W (some (gA, csA)) (some (gB, csB)) → Q .normal { a with tmps := (a.tmps.setIfInBounds dA (.pointer (some ⟨gA, 0, none⟩))).setIfInBounds dB (.pointer (some ⟨gB, 0, none⟩)) } W) :
    wpAnyH P md ops Q S (fuel + 4) #[true, true, false, false, false, false] a w := by
  obtain ⟨t1, t2, t3, t4, t5, t6⟩ := twoTable_get ht
  have comm : ∀ gA gB, (a.tmps.setIfInBounds dB (.pointer (some ⟨gB, 0, none⟩))).setIfInBounds dA (.pointer (some ⟨gA, 0, none⟩)) = (a.tmps.setIfInBounds dA (.pointer (some ⟨gA, 0, none⟩))).setIfInBounds dB (.pointer (some ⟨gB, 0, none⟩)) := fun gA gB => Array.setIfInBounds_comm _ _ nAB.symm
  have e1 : ∀ gA gB, ({ a with tmps := (a.tmps.setIfInBounds dA (.pointer (some ⟨gA, 0, none⟩))).setIfInBounds dB (.pointer (some ⟨gB, 0, none⟩)) } : Act).eval (.tmp dA) = .pointer (some ⟨gA, 0, none⟩) := fun gA gB => (getD_set_other nAB.symm).trans (getD_set_same lA)
  have e2 : ∀ gA gB, ({ a with tmps := (a.tmps.setIfInBounds dA (.pointer (some ⟨gA, 0, none⟩))).setIfInBounds dB (.pointer (some ⟨gB, 0, none⟩)) } : Act).eval (.tmp sA) = .agg csA := fun gA gB => (getD_set_other nB1).trans ((getD_set_other nA1).trans vA)
  have e3 : ∀ gA gB, ({ a with tmps := (a.tmps.setIfInBounds dA (.pointer (some ⟨gA, 0, none⟩))).setIfInBounds dB (.pointer (some ⟨gB, 0, none⟩)) } : Act).eval (.tmp dB) = .pointer (some ⟨gB, 0, none⟩) := fun gA gB => getD_set_same (by simpa using lB)
  have e4 : ∀ gA gB, ({ a with tmps := (a.tmps.setIfInBounds dA (.pointer (some ⟨gA, 0, none⟩))).setIfInBounds dB (.pointer (some ⟨gB, 0, none⟩)) } : Act).eval (.tmp sB) = .agg csB := fun gA gB => (getD_set_other nB2).trans ((getD_set_other nA2).trans vB)
  have both : ∀ gA gB W, TB T w W (some (gA, z)) (some (gB, z)) → wpAnyH P md ops Q S (fuel + 2) #[true, true, true, true, false, false] { a with tmps := (a.tmps.setIfInBounds dA (.pointer (some ⟨gA, 0, none⟩))).setIfInBounds dB (.pointer (some ⟨gB, 0, none⟩)) } W := by
    intro gA gB W hW
    refine wpAnyH_ready t4 (by simp) (AllReadyH.cons h4 (fun K hk => ?_) AllReadyH.nil)
    refine exec_store g4 d4 p4 (hW.A _ rfl).1 (e1 gA gB) (e2 gA gB) zA iA oneA (fun W' R M => ?_)
    have hW' := hW.storeA R M
    refine hk.out _ _ (hK _ hW'.M) (fun _ => ?_)
    refine wpAnyH_ready t5 (by simp) (AllReadyH.cons h5 (fun K hk => ?_) AllReadyH.nil)
    refine exec_store g5 d5 p5 (hW'.B _ rfl).1 (e3 gA gB) (e4 gA gB) zB iB oneB (fun W'' R M => ?_)
    have hW'' := (hW'.swap.storeA R M).swap
    exact hk.out _ _ (hK _ hW''.M) (fun _ => wpAnyH_done t6 (h _ _ _ hW'') _)
  refine wpAnyH_ready t1 (by simp) (AllReadyH.cons h2 (fun K hk => ?_) (AllReadyH.cons h3 (fun K hk => ?_) AllReadyH.nil))
  · refine exec_alloc g2 d2 r2 ?_
    have hW := (TB.start (T := T) w).allocA z
    refine hk.out _ _ (hK _ hW.M) (fun _ => ?_)
    refine wpAnyH_ready t2 (by simp) (AllReadyH.cons h3 (fun K hk => ?_) AllReadyH.nil)
    refine exec_alloc g3 d3 r3 ?_
    have hW2 := (hW.swap.allocA z).swap
    exact hk.out _ _ (hK _ hW2.M) (fun _ => both _ _ _ hW2)
  · refine exec_alloc g3 d3 r3 ?_
    have hW := ((TB.start (T := T) w).allocA z).swap
    refine hk.out _ _ (hK _ hW.M) (fun _ => ?_)
    refine wpAnyH_ready t3 (by simp) (AllReadyH.cons h2 (fun K hk => ?_) AllReadyH.nil)
    refine exec_alloc g2 d2 r2 ?_
    have hW2 := hW.allocA z
    refine hk.out _ _ (hK _ hW2.M) (fun _ => ?_)
    rw [comm]
    exact both _ _ _ hW2
end
end Go.Proofs.YtijjkonephjodaaGreatDoor

namespace Go.Proofs.YtijjkonephjodaaGreatDoor
open Go.RowKit

def u16s (l : List Nat) : List Value := l.map fun (n : Nat) => Value.int .u16 (n : Int)
theorem u16s_length (l : List Nat) : (u16s l).length = l.length := by simp [u16s]
/-- The bytes of numbers, the less significant one first. -/
def twoL (l : List Nat) : List Int := l.flatMap fun (n : Nat) => [(n : Int) % 256, (n : Int) / 256]
theorem twoL_length (l : List Nat) : (twoL l).length = l.length * 2 := by
  induction l with
  | nil => rfl
  | cons p l ih => simp only [twoL, List.flatMap_cons, List.length_append, List.length_cons, List.length_nil] at ih ⊢; omega
theorem twoL_take (l : List Nat) (k : Nat) (hk : k < l.length) : twoL (l.take (k + 1)) = twoL (l.take k) ++ [((l.getD k 0 : Nat) : Int) % 256, ((l.getD k 0 : Nat) : Int) / 256] := by
  rw [List.take_add_one, List.getElem?_eq_getElem hk, List.getD_eq_getElem?_getD, List.getElem?_eq_getElem hk, twoL, List.flatMap_append]
  rfl
theorem twoL_bytes (l : List Nat) (h : ∀ n ∈ l, n < 65536) : ∀ x ∈ twoL l, 0 ≤ x ∧ x ≤ 255 := by
  intro x hx
  simp only [twoL, List.mem_flatMap] at hx
  obtain ⟨n, hn, hx⟩ := hx
  have := h n hn
  simp at hx
  rcases hx with rfl | rfl <;> constructor <;> omega
end Go.Proofs.YtijjkonephjodaaGreatDoor

namespace Go.Proofs.YtijjkonephjodaaGreatDoor
open Go.RowKit
theorem wpList_wanted {P : Program} {ops : Array Oper} {rest : List Oper} {o : Oper} {a : Act} {w : World} {Q : Exit → Act → World → Prop} (hw : Region.wanted o (yielded ops a.tmps) = true)
    (h : ∀ K : Act → World → Prop, (∀ a w, wpList P ops Q rest a w → K a w) → o.wp P a w K Q) : wpList P ops Q (o :: rest) a w :=
  wpList_step fun K hK => by rw [if_pos hw]; exact h K hK
/-- append(s, x...), s the call's own, x owned too (nil or not). -/
theorem wpList_append_two {P : Program} {ops : Array Oper} {rest : List Oper} {o : Oper} {a : Act} {Q : Exit → Act → World → Prop} {w : World} (hw : Region.wanted o (yielded ops a.tmps) = true) (s x : Operand) (t : TypeId)
    (ho : o.op = .call { callee := .builtin .append, args := #[s, x], argTypes := #[t, t] })
    (base : Nat) (e : TypeId) (i : TypeInfo) (z : Value) (bytes : Nat) (ht : P.underlying t = some (.slice e)) (hi : P.info? e = some i) (hz : i.zero = some z)
    (hsize : i.size = 1) (hby : i.bytes = bytes) (hzs : z.cells.size = 1)
    (v : Value) (n : Nat) (xs : List Value) (hs : a.eval s = v) (hown : w.ownsRow base e 1 v n xs) (u : Value) (b2 m : Nat) (e2 : TypeId) (ys : List Value) (hx : a.eval x = u) (hu : w.ownsRow b2 e2 1 u m ys) (h1 : ∀ y ∈ ys, y.oneCell' = true)
    (hn : n + m ≤ 1000000) (hb : bytes ≤ 1000) (hbase : base ≤ w.heap.size)
    (h : ∀ v' w', w'.ownsRow base e 1 v' (n + m) (xs ++ ys) → Mods (from_ base w) w w' → wpList P ops Q rest (a.put o.dst v') w') : wpList P ops Q (o :: rest) a w := by
  refine wpList_wanted hw fun K hK => ?_
  rcases hu.2 with ⟨hun, hm⟩ | ⟨g, cap, cur, hue, _, hg, hc1, hc2, hc3, hc4⟩
  · have hys : ys = [] := List.eq_nil_of_length_eq_zero (by rw [hu.1, hm])
    have hrun := run_append_owned_none (P := P) (w := w) base t o.type e i 1 ht hi v n xs hown
    unfold Oper.wp
    rw [hun] at hx
    simp [execOp, ho, resolve, invoke, builtin, hs, hx, hrun, Result.andThen]
    refine hK _ _ (h v w ?_ Mods.refl)
    rw [hys, hm, List.append_nil]; exact hown
  · rw [hue] at hx
    refine wp_append_own w s x t ho base e i z 1 bytes ht hi hz hsize hby hzs (by decide) v n xs hs hown ⟨g, 0, none⟩ m cap ys hx hu.1 ?_ h1 (by unfold maxLen; omega) ?_ hbase ?_
    · intro j y hj
      have hjl : j < ys.length := by rcases Nat.lt_or_ge j ys.length with hl | hl; exact hl; rw [List.getElem?_eq_none hl] at hj; cases hj
      have e1 : (⟨g, 0, none⟩ : Addr).add j = ⟨g, j, none⟩ := by unfold Addr.add; split <;> simp_all
      have hl := hu.1
      rw [e1, cell_blk hg, ← hj, ← hc4, List.getElem?_take, if_pos (by omega)]
      simp
    · have : (n + m) * bytes ≤ 1000000 * 1000 := Nat.mul_le_mul hn hb
      omega
    · intro v' w' h2 h3 _
      exact hK _ _ (h v' w' h2 (Mods.of_from ((Below.refl base w).grown h3 hbase fun k hk => (hown.lt k hk).1)))
end Go.Proofs.YtijjkonephjodaaGreatDoor

namespace Go.Proofs.YtijjkonephjodaaGreatDoor
open Go.RowKit

def nameL (s : ByteArray) : List Int := s.data.toList.map fun b => (b.toNat : Int)
theorem nameL_cells (s : ByteArray) : Lib.strCells s = u8s (nameL s) := by simp [Lib.strCells, u8s, nameL]
theorem nameL_length (s : ByteArray) : (nameL s).length = s.size := by rw [nameL, List.length_map, Array.length_toList]; rfl
theorem nameL_bytes (s : ByteArray) : ∀ x ∈ nameL s, 0 ≤ x ∧ x ≤ 255 := by
  intro x hx
  obtain ⟨b, _, rfl⟩ := List.mem_map.1 hx
  have : b.toNat < 256 := b.toNat_lt
  constructor <;> omega
def flagD (S : Sen) : Int := if S.host then 7 else 5
def headL (S : Sen) (f : Int) : List Int := [1, S.number, S.type, S.unit, S.eid, S.einst, f, S.name.size]
/-- The bytes of a discrete sensor, without the sum. -/
def bodyD (S : Sen) : List Int := headL S (flagD S) ++ nameL S.name ++ twoL [S.states, S.asrt, S.deas]
theorem bytes_of {A : List Int} (h : ∀ x ∈ A, 0 ≤ x ∧ x ≤ 255) : Bytes A := fun i => by
  rcases Nat.lt_or_ge i A.length with hi | hi
  · rw [List.getD_eq_getElem?_getD, List.getElem?_eq_getElem hi]; exact h _ (List.getElem_mem hi)
  · rw [List.getD_eq_getElem?_getD, List.getElem?_eq_none hi]; decide
theorem owns_down {w : World} {B B' size n : Nat} {e : TypeId} {v : Value} {xs : List Value} (h : w.ownsRow B e size v n xs) (hb : B' ≤ B) : w.ownsRow B' e size v n xs := by
  obtain ⟨hl, h⟩ := h
  refine ⟨hl, ?_⟩
  rcases h with h | ⟨g, cap, cur, hv, hg, r⟩
  · exact .inl h
  · exact .inr ⟨g, cap, cur, hv, by omega, r⟩
def EncOut (w : World) (A : List Int) (e : Ending) (w' : World) : Prop :=
  ∃ v', e = .returned (.tuple #[v', .int .i64 0]) ∧ w'.ownsRow w.heap.size 5 1 v' (u8s A).length (u8s A) ∧ Mods [] w w'
end Go.Proofs.YtijjkonephjodaaGreatDoor

namespace Go.Proofs.YtijjkonephjodaaGreatDoor
open Go.RowKit

/-- Bytes of the call's own, in a block from B on. -/
def OwnB (w : World) (B : Nat) (v : Value) (A : List Int) : Prop := w.ownsRow B 5 1 v (u8s A).length (u8s A)
section
variable {w W : World} {B B' : Nat} {v : Value} {A : List Int} {S : List Nat}
theorem OwnB.nil (w : World) (B : Nat) : OwnB w B (.slice none 0 0) [] := World.ownsRow_nil _ _ _ _
theorem OwnB.rd (h : OwnB w B v A) : Rd w v (u8s A) := Rd.own h
theorem OwnB.lt (h : OwnB w B v A) : ∀ k, v.ownBlock = some k → B ≤ k ∧ k < w.heap.size := fun k hk => World.ownsRow.lt h k hk
theorem OwnB.mods (h : OwnB w B v A) (M : Mods S w W) (hS : ∀ k, v.ownBlock = some k → k ∉ S) : OwnB W B v A := M.owns h hS
theorem OwnB.mods0 (h : OwnB w B v A) (M : Mods [] w W) : OwnB W B v A := h.mods M (by simp)
theorem OwnB.down (h : OwnB w B v A) (hb : B' ≤ B) : OwnB w B' v A := owns_down h hb
theorem OwnB.lit (w : World) {B : Nat} (hB : B ≤ w.heap.size) (A : List Int) (hA : A.length ≤ maxLen) : OwnB (w.alloc (.cells (u8s A).toArray 5)) B (.slice (some ⟨w.heap.size, 0, none⟩) A.length A.length) A := by
  have := World.ownsRow_lit (base := B) (size := 1) (e := 5) w (u8s A).toArray A.length hB hA (by simp [u8s_length])
  unfold OwnB
  rw [u8s_length]
  exact this
theorem OwnB.apart {w : World} {B : Nat} {v : Value} {A : List Int} (h : OwnB w B v A) {g : Nat} {c : Array Value} {T : TypeId} {fr : Nat × Nat} (R : w.heap[g]? = some (.cells c T fr)) (hT : T ≠ 5) : g ∉ v.ownBlock.toList := fun hm => by
  rcases h.2 with ⟨rfl, _⟩ | ⟨g', cap, cur, rfl, _, hg, _⟩
  · simp [Value.ownBlock] at hm
  · simp [Value.ownBlock] at hm
    subst hm
    rw [R] at hg
    injection hg with hg
    injection hg with _ h2 _
    exact hT h2
theorem OwnB.back {w : World} {B : Nat} {v : Value} {A : List Int} (h : OwnB w B v A) {k : Nat} (hk : k ∈ v.ownBlock.toList) : B ≤ k := (h.lt k (by simpa using hk)).1
end
section
variable {ops : Array Oper} {Q : Exit → Act → World → Prop} {S : World → Prop} {md : Region.Mode}
theorem step_appB {o : Oper} {a : Act} {w : World} {K : Act → World → Prop} {E : Prop} (hw : Region.wanted o (yielded ops a.tmps) = true) (s x : Operand)
    (ho : o.op = .call { callee := .builtin .append, args := #[s, x], argTypes := #[121, 121] })
    {B : Nat} {v : Value} {A : List Int} (hs : a.eval s = v) (hown : OwnB w B v A) {vx : Value} {X : List Int} (hx : a.eval x = vx) (hX : Rd w vx (u8s X))
    (hn : A.length + X.length ≤ 1000000) (hB : B ≤ w.heap.size)
    (h : ∀ v' w', OwnB w' B v' (A ++ X) → Mods v.ownBlock.toList w w' → K (a.put o.dst v') w') :
    if Region.wanted o (yielded ops a.tmps) = true then Oper.wp Tryz.prog o a w K Q else E := by
  obtain ⟨i0, hi, hz0, hz1, hz2⟩ := info_parts Tryz.infoB
  rw [if_pos hw]
  obtain ⟨ad, cap, he, hc1, hc2, hc⟩ := hX
  rw [u8s_length] at he hc1 hc
  subst he
  cases ad with
  | none =>
    have hX0 : X = [] := by
      cases X with
      | nil => rfl
      | cons y l => obtain ⟨b, off, h0, _⟩ := hc 0 (by simp); cases h0
    subst hX0
    have hrun : ∀ ty, (Builtin.append_ #[121, 121] ty #[v, .slice none 0 cap]).run Tryz.prog w = .ok v w := by
      intro ty
      rcases hown.2 with ⟨rfl, _⟩ | ⟨g, cp, cur, rfl, _, _, hnc, _⟩
      · simp [Builtin.append_, run_underlying Tryz.underlying121, sizeOf, typeInfo, hi, Builtin.lenOf, Builtin.firstCells]
      · simp [Builtin.append_, run_underlying Tryz.underlying121, sizeOf, typeInfo, hi, Builtin.lenOf, Builtin.firstCells, hnc, storeCells]
    unfold Oper.wp
    simp [execOp, ho, resolve, invoke, builtin, hs, hx, hrun, Result.andThen]
    exact h v w (by rw [List.append_nil]; exact hown) Mods.refl
  | some ad =>
    refine wp_append_own w s x _ ho B 5 i0 _ 1 1 Tryz.underlying121 hi hz0 hz1 hz2 rfl (by decide) v _ (u8s A) hs hown ad X.length cap (u8s X) hx (by rw [u8s_length, Nat.mul_one]) ?_ (one_u8s X) (by rw [u8s_length]; unfold maxLen; omega) (by rw [u8s_length]; omega) hB ?_
    · intro j u hj
      have hjl : j < X.length := by rcases Nat.lt_or_ge j X.length with hl | hl; exact hl; rw [List.getElem?_eq_none (by rw [u8s_length]; exact hl)] at hj; cases hj
      obtain ⟨b, off, he, _⟩ := hc j hjl
      cases he
      exact rd_news (fun i hi => by
        obtain ⟨b', off', he', hc'⟩ := hc i (by rw [u8s_length] at hi; exact hi)
        cases he'
        exact hc') j u hj
    · intro v' w' h1 h2 _
      refine h v' w' ?_ (Mods.of_grown h2)
      unfold OwnB
      have e : u8s (A ++ X) = u8s A ++ u8s X := by simp [u8s]
      rw [e, List.length_append, u8s_length X]
      exact h1
theorem step_appD {o : Oper} {a : Act} {w : World} {K : Act → World → Prop} {E : Prop} (hw : Region.wanted o (yielded ops a.tmps) = true) (d : Nat) (hd : o.dst = some d) (s x : Operand)
    (ho : o.op = .call { callee := .builtin .append, args := #[s, x], argTypes := #[121, 121] })
    {B : Nat} {v : Value} {A : List Int} (hs : a.eval s = v) (hown : OwnB w B v A) {vx : Value} {X : List Int} (hx : a.eval x = vx) (hX : Rd w vx (u8s X))
    (hn : A.length + X.length ≤ 1000000) (hB : B ≤ w.heap.size)
    (h : ∀ v' w', OwnB w' B v' (A ++ X) → Mods v.ownBlock.toList w w' → K { a with tmps := a.tmps.setIfInBounds d v' } w') :
    if Region.wanted o (yielded ops a.tmps) = true then Oper.wp Tryz.prog o a w K Q else E :=
  step_appB hw s x ho hs hown hx hX hn hB fun v' w' h1 h2 => by unfold Act.put; rw [hd]; exact h v' w' h1 h2
theorem wpList_appB {rest : List Oper} {o : Oper} {a : Act} {w : World} (hw : Region.wanted o (yielded ops a.tmps) = true) (s x : Operand)
    (ho : o.op = .call { callee := .builtin .append, args := #[s, x], argTypes := #[121, 121] })
    {B : Nat} {v : Value} {A : List Int} (hs : a.eval s = v) (hown : OwnB w B v A) {vx : Value} {X : List Int} (hx : a.eval x = vx) (hX : Rd w vx (u8s X))
    (hn : A.length + X.length ≤ 1000000) (hB : B ≤ w.heap.size)
    (h : ∀ v' w', OwnB w' B v' (A ++ X) → Mods v.ownBlock.toList w w' → wpList Tryz.prog ops Q rest (a.put o.dst v') w') : wpList Tryz.prog ops Q (o :: rest) a w :=
  wpList_step fun _ hK => step_appB hw s x ho hs hown hx hX hn hB fun v' w' h1 h2 => hK _ _ (h v' w' h1 h2)
theorem exec_value {P : Program} {o : Oper} {a : Act} {w w' : World} {K : Act → World → Prop} {E : Prop} (hgd : o.guard = none) {d : Nat} (hd : o.dst = some d) {u : Value}
    (hr : (execOp a.eval o).run P w = .ok (.value u) w') (h : K { a with tmps := a.tmps.setIfInBounds d u } w') : if Region.wanted o (yielded ops a.tmps) = true then Oper.wp P o a w K Q else E := by
  rw [if_pos (by simp [Region.wanted, hgd])]
  unfold Oper.wp
  rw [hr, Oper.upon_value]
  unfold Act.put
  rw [hd]
  exact h
/-- append(append(s, x...), literal..): the literal's block may be laid ahead of the first append. -/
theorem appLit {a : Act} {w : World} {oA oL oB : Oper} {iA iL iB dA dL dB sA sX : Nat} {l0 : Array Bool} {fuel : Nat} {B : Nat} {v vx : Value} {A X X2 : List Int}
    (hA : ops[iA]? = some oA) (hL : ops[iL]? = some oL) (hB : ops[iB]? = some oB) (gA : oA.guard = none) (gL : oL.guard = none) (gB : oB.guard = none)
    (eA : oA.dst = some dA) (eL : oL.dst = some dL) (eB : oB.dst = some dB)
    (pA : oA.op = .call { callee := .builtin .append, args := #[.tmp sA, .tmp sX], argTypes := #[121, 121] })
    (pB : oB.op = .call { callee := .builtin .append, args := #[.tmp dA, .tmp dL], argTypes := #[121, 121] })
    (rL0 : ∀ w, (execOp a.eval oL).run Tryz.prog w = .ok (.value (.slice (some ⟨w.heap.size, 0, none⟩) X2.length X2.length)) (w.alloc (.cells (u8s X2).toArray 5)))
    (rL1 : ∀ (u : Value) w, (execOp ({ a with tmps := a.tmps.setIfInBounds dA u } : Act).eval oL).run Tryz.prog w = .ok (.value (.slice (some ⟨w.heap.size, 0, none⟩) X2.length X2.length)) (w.alloc (.cells (u8s X2).toArray 5)))
    (t1 : Region.ready md ops l0 = [iA, iL]) (t2 : Region.ready md ops (l0.setIfInBounds iA true) = [iL]) (t3 : Region.ready md ops (l0.setIfInBounds iL true) = [iA]) (t4 : Region.ready md ops ((l0.setIfInBounds iA true).setIfInBounds iL true) = [iB])
    (nI : iA ≠ iL) (nAL : dA ≠ dL) (nA1 : dL ≠ sA) (nA2 : dL ≠ sX) (lA : dA < a.tmps.size) (lL : dL < a.tmps.size)
    (vA : a.tmps.getD sA undef = v) (own : OwnB w B v A) (vX : a.tmps.getD sX undef = vx) (hX : Rd w vx (u8s X)) (hn : A.length + X.length + X2.length ≤ 1000000) (hBw : B ≤ w.heap.size)
    (hK : ∀ w', Mods (from_ B w) w w' → S w')
    (h : ∀ v1 g v3 W, OwnB W B v3 (A ++ X ++ X2) → Mods (from_ B w) w W → wpAnyH Tryz.prog md ops Q S fuel (((l0.setIfInBounds iA true).setIfInBounds iL true).setIfInBounds iB true) { a with tmps := ((a.tmps.setIfInBounds dA v1).setIfInBounds dL (.slice (some ⟨g, 0, none⟩) X2.length X2.length)).setIfInBounds dB v3 } W) :
    wpAnyH Tryz.prog md ops Q S (fuel + 3) l0 a w := by
  have hf : ∀ {w1 : World} {v : Value} {A : List Int} {W : World}, OwnB w1 B v A → Mods v.ownBlock.toList w1 W → Mods (from_ B w) w w1 → Mods (from_ B w) w W := fun {w1} {v} {A} {W} h1 h2 h3 => h3.comp h2 fun k hk => by
    rcases Nat.lt_or_ge k w.heap.size with hl | hl
    · left
      have := h1.back hk
      simp [from_, List.mem_range']
      exact ⟨k - B, by omega, by omega⟩
    · exact .inr hl
  have last : ∀ v1 g W, OwnB W B v1 (A ++ X) → Rd W (.slice (some ⟨g, 0, none⟩) X2.length X2.length) (u8s X2) → Mods (from_ B w) w W → wpAnyH Tryz.prog md ops Q S (fuel + 1) ((l0.setIfInBounds iA true).setIfInBounds iL true) { a with tmps := (a.tmps.setIfInBounds dA v1).setIfInBounds dL (.slice (some ⟨g, 0, none⟩) X2.length X2.length) } W := by
    intro v1 g W O R M
    refine wpAnyH_ready t4 (by simp) (AllReadyH.cons hB (fun _ hk => ?_) AllReadyH.nil)
    refine step_appB (by simp [Region.wanted, gB]) _ _ pB ((getD_set_other nAL.symm).trans (getD_set_same lA)) O (getD_set_same (by simpa using lL)) R (by rw [List.length_append]; omega) (Nat.le_trans hBw M.size) (fun v3 W3 O3 M3 => ?_)
    have M3 := hf O M3 M
    unfold Act.put
    rw [eB]
    exact hk.out _ _ (hK _ M3) (fun _ => h _ _ _ _ O3 M3)
  refine wpAnyH_ready t1 (by simp) (AllReadyH.cons hA (fun _ hk => ?_) (AllReadyH.cons hL (fun _ hk => ?_) AllReadyH.nil))
  · refine step_appB (by simp [Region.wanted, gA]) _ _ pA vA own vX hX (by omega) hBw (fun v1 W1 O1 M1 => ?_)
    have M1 := hf own M1 Mods.refl
    unfold Act.put
    rw [eA]
    refine hk.out _ _ (hK _ M1) (fun _ => ?_)
    refine wpAnyH_ready t2 (by simp) (AllReadyH.cons hL (fun _ hk => ?_) AllReadyH.nil)
    refine exec_value gL eL (rL1 v1 W1) ?_
    exact hk.out _ _ (hK _ (M1.alloc _)) (fun _ => last _ _ _ (O1.mods0 (Mods.refl.alloc _)) (OwnB.lit W1 (Nat.le_refl _) X2 (by unfold maxLen; omega)).rd (M1.alloc _))
  · refine exec_value gL eL (rL0 w) ?_
    have ML := (Mods.refl (S := from_ B w) (w := w)).alloc (.cells (u8s X2).toArray 5)
    have ML0 := (Mods.refl (S := []) (w := w)).alloc (.cells (u8s X2).toArray 5)
    refine hk.out _ _ (hK _ ML) (fun _ => ?_)
    refine wpAnyH_ready t3 (by simp) (AllReadyH.cons hA (fun _ hk => ?_) AllReadyH.nil)
    refine step_appB (by simp [Region.wanted, gA]) _ _ pA ((getD_set_other nA1).trans vA) (own.mods0 ML0) ((getD_set_other nA2).trans vX) (hX.mods0 ML0) (by omega) (Nat.le_trans hBw ML.size) (fun v1 W1 O1 M1 => ?_)
    have R := ((OwnB.lit w (Nat.le_refl _) X2 (by unfold maxLen; omega)).mods M1 (fun k hk => by
      simp [Value.ownBlock] at hk
      intro hm
      have := (own.lt k (by simpa using hm)).2
      omega)).rd
    have M1 := hf (own.mods0 ML0) M1 ML
    unfold Act.put
    rw [eA]
    refine hk.out _ _ (hK _ M1) (fun _ => ?_)
    dsimp only
    rw [Array.setIfInBounds_comm _ _ nAL.symm, Array.setIfInBounds_comm _ _ nI.symm]
    exact last _ _ _ O1 R M1
end
end Go.Proofs.YtijjkonephjodaaGreatDoor

namespace Go.Proofs.YtijjkonephjodaaGreatDoor
open Go.RowKit

theorem sum8_sub (x : Int) : (256 - x % 256) % 256 = -x % 256 := by omega
theorem u8s_take_succ (A : List Int) (k : Nat) (hk : k < A.length) : A.take (k + 1) = A.take k ++ [A.getD k 0] := by
  rw [List.take_add_one, List.getElem?_eq_getElem hk, List.getD_eq_getElem?_getD, List.getElem?_eq_getElem hk]; rfl
set_option maxRecDepth 100000 in
set_option maxHeartbeats 1000000 in
theorem refCopy_ok (w : World) (v : Value) (A : List Int) (hv : Rd w v (u8s A)) (hl : A.length ≤ 900000) :
    Calls Tryz.prog 139 #[v] w fun e w' => OwnedBy 5 w (u8s A) e w' := by
  have HV := Lib.hid hv
  obtain ⟨ad, cap, rfl, h1, h2, _⟩ := hv.u8
  have h3 : cap ≤ 9223372036854775807 := h2
  clear hv h2
  go_enter Tryz.func139, Tryz.ntmps139
  go_wp2_with fail
  go_loopw [3, 4] (fun s i wr => ∃ k : Nat, k ≤ A.length ∧ i = .int .i64 k ∧ OwnB wr w.heap.size s (A.take k) ∧ Mods [] w wr) (fun _ i _ => A.length - (intOf i).toNat)
  case atStart => exact ⟨0, Nat.zero_le _, rfl, OwnB.nil _ _, Mods.refl⟩
  case round =>
    obtain ⟨k, hk, rfl, O, M⟩ := hrel
    by_cases hlt : k < A.length
    · obtain ⟨_, _, he, _, _, hc⟩ := (HV.out.mods0 M).u8
      obtain ⟨bb, off, rfl, x0⟩ := hc k hlt
      injection he with he1 he2 he3
      subst he1 he3
      clear hc he2
      have i1 : (0 : Int) ≤ (k : Int) := by omega
      have i2 : (k : Int) < (A.length : Int) := by omega
      have HST := Lib.hid (u8s_take_succ A k hlt)
      generalize A.getD k 0 = x at x0 HST
      have HO := Lib.hid O
      have HM := Lib.hid M
      have hlk : (A.take k).length ≤ 900000 := by simp; omega
      clear O M
      go_wp2_with (at_builtin; refine wpList_appB (by rfl) (.tmp 11) (.tmp 16) rfl (v := u3) (by rfl) (HO.out.mods0 (Mods.refl.alloc _)) (by rfl) (OwnB.lit wr (Nat.le_refl _) [x] (by unfold maxLen; simp)).rd (by simp only [List.length_cons, List.length_nil]; omega) (by have := HM.out.size; simp; omega) ?_; intro v3 w3 O3 M3; have HM3 := Lib.hid ((HM.out.alloc (.cells (u8s [x]).toArray 5)).comp M3 (fun k hk => .inr (HO.out.back hk))); have HO3 : Hid (OwnB w3 w.heap.size v3 (A.take (k + 1))) := Lib.hid (by rw [HST.out]; exact O3); clear O3 M3)
      exact ⟨⟨k + 1, by omega, by go_num, HO3.out, HM3.out⟩, by simp only [intOf]; omega⟩
    · have hkl : k = A.length := by omega
      rw [hkl, List.take_length] at O
      have HO := Lib.hid O
      have HM := Lib.hid M
      clear O M
      go_wp2_with fail
      go_ret
      exact ⟨_, rfl, HO.out, HM.out⟩
/-- What Open8 gives. -/
def OpenRes (w : World) (A : List Int) (e : Ending) (w' : World) : Prop :=
  if A = [] then e = .returned (.tuple #[.slice none 0 0, .int .i64 4]) ∧ Mods [] w w'
  else if sum8 A = 0 then EncOut w A.dropLast e w' else e = .returned (.tuple #[.slice none 0 0, .int .i64 5]) ∧ Mods [] w w'
theorem Rd.take {w : World} {ad : Option Addr} {n cap : Nat} {A : List Int} (h : Rd w (.slice ad n cap) (u8s A)) (k : Nat) (hk : k ≤ A.length) : Rd w (.slice ad k cap) (u8s (A.take k)) := by
  obtain ⟨ad', cap', he, h1, h2, hc⟩ := h.u8
  injection he with he1 he2 he3
  subst he1 he3
  have hl : (A.take k).length = k := by simp; omega
  refine ⟨ad, cap, by rw [u8s_length, hl], by rw [u8s_length, hl]; omega, h2, fun i hi => ?_⟩
  rw [u8s_length, hl] at hi
  obtain ⟨b, off, hb, hx⟩ := hc i (by omega)
  refine ⟨b, off, hb, ?_⟩
  rw [hx, u8s_getD _ _ (by rw [hl]; exact hi)]
  simp [List.getD_eq_getElem?_getD, hi]
theorem Bytes.take {A : List Int} (h : Bytes A) (k : Nat) : Bytes (A.take k) := fun i => by
  have := h i
  rw [List.getD_eq_getElem?_getD, List.getElem?_take]
  split
  · rw [← List.getD_eq_getElem?_getD]; exact this
  · simp
end Go.Proofs.YtijjkonephjodaaGreatDoor

namespace Go.Proofs.YtijjkonephjodaaGreatDoor
open Go.RowKit

theorem results_cell_row2 {P : Program} {fn : Func} {p u : Tmp} {ty : TypeId} (h : fn.results = #[.cell p ty, .tmp u]) (tmps : Array Value) (w : World) (g : Nat) (t : TypeId) (cs : Array Value) (fr : Nat × Nat) (d : TypeDesc)
    (hp : tmps.getD p undef = .pointer (some ⟨g, 0, none⟩)) (hg : w.heap[g]? = some (.cells cs t fr))
    (hu : P.underlying ty = some d) (hd : (match d with | .struct _ | .array _ _ => true | _ => false) = true) (hi : (P.info? ty).map (·.size) = some cs.size) :
    (results fn tmps).run P w = .ok (.tuple #[.agg cs, tmps.getD u undef]) w := by
  have hp' : tmps[p]?.getD undef = .pointer (some ⟨g, 0, none⟩) := by simpa using hp
  simp [results, h, hp', asAddr, run_loadVar_row w g t ty cs fr d hg hu hd hi]
theorem run_storeVar_one {P : Program} (w : World) (g i : Nat) (ty : TypeId) (u : Value) (hc : (w.cell? ⟨g, i, none⟩).isSome = true) (hf : w.frozen? ⟨g, i, none⟩ = false) (hi : (P.info? ty).map (·.size) = some 1) (hu : u.oneCell' = true) :
    (storeVar ty ⟨g, i, none⟩ u).run P w = .ok () (w.setCell ⟨g, i, none⟩ u) := by
  have hcs : u.cells = #[u] := by cases u <;> simp_all [Value.cells, Value.oneCell']
  have := run_storeCells_cells (P := P) g i [u] 0 w (fun j hj => by have : j = 0 := by simpa using hj
                                                                    subst this; exact hc) (fun j hj => by have : j = 0 := by simpa using hj
                                                                                                          subst this; exact hf) (fun v hv => by simp at hv; subst hv; exact hu)
  cases hq : P.info? ty with
  | none => simp [hq] at hi
  | some x =>
    have hs : x.size = 1 := by simpa [hq] using hi
    simp only [Nat.add_zero] at this
    simp [storeVar, sizeOf, typeInfo, hq, hcs, hs, this]
    rfl
/-- One cell stored into a block; the world behind it by what is known of it. -/
theorem wpList_store_one {P : Program} {ops : Array Oper} {rest : List Oper} {o : Oper} {a : Act} {w : World} {Q : Exit → Act → World → Prop} (hgd : o.guard = none) (hd : o.dst = none) (ty : TypeId) (x y : Operand) (ho : o.op = .store ty x y)
    {g : Nat} {c0 : Array Value} {T : TypeId} (hg : w.heap[g]? = some (.cells c0 T (0, 0))) (i : Nat) (hx : a.eval x = .pointer (some ⟨g, i, none⟩)) {u : Value} (hy : a.eval y = u) (hs : i < c0.size)
    (hi : (P.info? ty).map (·.size) = some 1) (hu : u.oneCell' = true) (h : ∀ W, W.heap[g]? = some (.cells (c0.setIfInBounds i u) T (0, 0)) → Mods [g] w W → wpList P ops Q rest a W) : wpList P ops Q (o :: rest) a w :=
  wpList_plain hgd fun K hK => by
    have hc : (w.cell? ⟨g, i, none⟩).isSome = true := by rw [cell_blk hg, Array.getElem?_eq_getElem hs]; rfl
    have e : a.put o.dst undef = a := by rw [hd]; rfl
    unfold Oper.wp execOp
    simp only [ho, hx, hy, Instr.storeAt, Instr.sureAddr, Sem.run_bind, Sem.run_pure, Result.andThen_ok, run_storeVar_one w g i ty u hc (froz_blk hg _) hi hu]
    have := hK _ _ (h _ (heap_setCell (i := i) (v := u) hg) (Mods.refl.setCell (.inl (by simp)) u))
    rw [← e] at this
    exact this
end Go.Proofs.YtijjkonephjodaaGreatDoor

namespace Go.Proofs.YtijjkonephjodaaGreatDoor
open Go.RowKit

def stepA (b : Bool) (k : Int) (W : List Int) (n r : Int) (ok : Bool) : (List Int × Int) × Int := if b then (stepF k W n r ok, 0) else (([], 0), 1)
/-- A filter is handed back, its window a slice of the call's own. -/
def StepRes (w : World) (A : (List Int × Int) × Int) (e : Ending) (w' : World) : Prop :=
  ∃ win', e = .returned (.tuple #[.agg #[win', .int .i64 A.1.2], .int .i64 A.2]) ∧ Rd w' win' (u8s A.1.1) ∧ (∀ q, win'.ownBlock = some q → w.heap.size ≤ q) ∧ Mods [] w w'
theorem flt_samples {S : Sen} {P : List Pt} {W : List Int} {n : Int} (h : fltB S P W n = true) : 1 ≤ S.samples ∧ (W.length : Int) ≤ S.samples ∧ 0 ≤ n ∧ n ≤ 3 ∧ S.samples ≤ 5 := by
  rw [fltB_eq, Bool.and_eq_true, decide_eq_true_eq] at h
  obtain ⟨hv, h1, h2, h3, _⟩ := h
  unfold validB at hv
  simp only [Bool.and_eq_true, decide_eq_true_eq] at hv
  have := hv.1.2
  omega
theorem Tryz.infoFl : (Tryz.prog.info? 123).map (·.size) = some 2 := by kernel_rfl
theorem Tryz.infoSl : (Tryz.prog.info? 121).map (·.size) = some 1 := by kernel_rfl
theorem Tryz.infoI1 : (Tryz.prog.info? 3).map (·.size) = some 1 := by kernel_rfl
theorem rd_tail {w : World} {g cap : Nat} {A : List Int} (h : Rd w (.slice (some ⟨g, 0, none⟩) A.length cap) (u8s A)) (h0 : 0 < A.length) : Rd w (.slice (some ⟨g, 1, none⟩) (A.length - 1) (cap - 1)) (u8s (A.drop 1)) := by
  obtain ⟨ad, cap', he, h1, h2, hc⟩ := h.u8
  injection he with he1 _ he3
  subst he3
  have hl : (u8s (A.drop 1)).length = A.length - 1 := by rw [u8s_length, List.length_drop]
  refine ⟨some ⟨g, 1, none⟩, cap - 1, by rw [hl], by omega, by unfold maxLen at *; omega, fun i hi => ⟨g, 1, rfl, ?_⟩⟩
  obtain ⟨b, o, hb, hx⟩ := hc (i + 1) (by omega)
  rw [← he1] at hb
  injection hb with hb
  injection hb with hb1 hb2
  subst hb1 hb2
  rw [u8s_getD _ _ (by rw [List.length_drop]; omega)]
  rw [show 1 + i = 0 + (i + 1) by omega, hx, List.getD_eq_getElem?_getD, List.getD_eq_getElem?_getD, List.getElem?_drop, Nat.add_comm]
set_option maxRecDepth 100000 in
set_option maxHeartbeats 4000000 in
theorem samStep_ok (w : World) (S : Sen) (P : List Pt) (win : Value) (W : List Int) (n : Int) (r : Int) (ok : Bool) (hS : IsSen w S P) (hF : IsFlt w win W n) :
    Calls Tryz.prog 85 #[.agg S.cells, .agg #[win, .int .i64 n], .int .u8 r, .bool ok] w fun e w' => StepRes w (stepA (fltB S P W n) S.samples W n r ok) e w' := by
  have HS := Lib.hid hS
  have HF := Lib.hid hF
  obtain ⟨ad, cap, rfl, h1, h2, -⟩ := hF.rd.u8
  have h3 : cap ≤ 9223372036854775807 := h2
  have hlen := hF.len
  clear hS hF h2
  have R2 := heap_alloc_new ((w.alloc (.cells S.cells 40)).alloc (.cells #[.slice ad W.length cap, .int .i64 n] 123)) (.cells #[.slice none 0 0, .int .i64 0] 123)
  rw [World.size_alloc, World.size_alloc] at R2
  have R1 := heap_alloc_new (w.alloc (.cells S.cells 40)) (.cells #[.slice ad W.length cap, .int .i64 n] 123)
  rw [World.size_alloc] at R1
  have HR2 := Lib.hid R2
  have HR1 := Lib.hid (heap_alloc (o' := .cells #[.slice none 0 0, .int .i64 0] 123) R1)
  have HB := Lib.hid (SenBox.mk (heap_alloc (o' := .cells #[.slice none 0 0, .int .i64 0] 123) (heap_alloc (o' := .cells #[.slice ad W.length cap, .int .i64 n] 123) (heap_alloc_new w (.cells S.cells 40)))))
  have HM0 := Lib.hid ((((Mods.refl (S := []) (w := w)).alloc (.cells S.cells 40)).alloc (.cells #[.slice ad W.length cap, .int .i64 n] 123)).alloc (.cells #[.slice none 0 0, .int .i64 0] 123))
  obtain ⟨_, _, _, _, _, _, x27⟩ := S.restc
  clear R1 R2
  have HA := Lib.hid (show stepA (fltB S P W n) S.samples W n r ok = if fltB S P W n then (stepF S.samples W n r ok, 0) else (([], 0), 1) from rfl)
  generalize stepA (fltB S P W n) S.samples W n r ok = A at HA ⊢
  go_enter Tryz.func85, Tryz.ntmps85
  go_wp2_with (refine wpList_load_sen rfl (.tmp 4) rfl HB.out (by rfl) ?_)
  refine (samValid_ok _ S P _ W n (HS.out.mods0 HM0.out) (HF.out.mods0 HM0.out)).mono ?_
  rintro e w1 ⟨rfl, M1⟩
  have HM1 := Lib.hid (HM0.out.trans M1)
  have RB := (M1.heap HB.out.blk (by simp))
  have RF := (M1.heap HR1.out (by simp))
  have RZ := (M1.heap HR2.out (by simp))
  have hw1 := M1.size
  simp only [World.size_alloc] at hw1
  have y0 : w1.cell? ⟨w.heap.size, 27, none⟩ = some (.int .i64 S.samples) := (cell_blk RB 27).trans x27
  have y1 : w1.cell? ⟨w.heap.size + 1, 0, none⟩ = some (.slice ad W.length cap) := (cell_blk RF 0).trans rfl
  have y2 : w1.cell? ⟨w.heap.size + 1, 1, none⟩ = some (.int .i64 n) := (cell_blk RF 1).trans rfl
  have HZ := Lib.hid RZ
  have HF1 := Lib.hid (HF.out.mods0 HM1.out)
  clear M1 RB RF RZ HB HR1 HM0 HS HF x27
  cases hb : fltB S P W n with
  | false =>
    obtain rfl : A = (([], 0), 1) := HA.out.trans (if_neg (by rw [hb]; decide))
    clear hb HA
    go_wp2_with (refine wpList_store_row (cs := #[.slice none 0 0, .int .i64 0]) rfl 123 (.tmp 8) (.tmp 15) rfl HZ.out (by rfl) (by rfl) (by rfl) Tryz.infoFl (by simp [Value.oneCell']) ?_; intro w9 R9 M9)
    refine bodyPost_ret (results_cell_row2 rfl _ _ (w.heap.size + 2) _ _ _ _ rfl R9 Tryz.underlying123 rfl Tryz.infoFl) rfl ?_
    exact ⟨.slice none 0 0, rfl, Rd.nil _, (fun q hq => by cases hq), HM1.out.comp M9 (fun k hk => by simp at hk; exact .inr (by omega))⟩
  | true =>
    have hsam := flt_samples hb
    replace HA := Lib.hid (HA.out.trans (if_pos hb))
    clear hb
    go_wp2_with fail
    refine (cloneB_ok w1 _ (u8s W) HF1.out.rd (one_u8s W) (by rw [u8s_length]; omega)).mono ?_
    rintro e w2 ⟨vC, rfl, O2, M2⟩
    have HO2 := Lib.hid (show OwnB w2 w1.heap.size vC W from O2)
    obtain ⟨aC, cC, rfl⟩ := HO2.out.rd.len
    rw [u8s_length] at HO2 ⊢
    have HM2 := Lib.hid (HM1.out.trans M2)
    have HZ2 := Lib.hid (M2.heap HZ.out (by simp))
    have y02 := M2.cell y0 (by simp)
    have y22 := M2.cell y2 (by simp)
    have hw2 := M2.size
    clear O2 M2 HZ HM1 y0 y1 HF1 h3
    have HVC := Lib.hid (show ∀ k, k ∈ (Value.slice aC W.length cC).ownBlock.toList → w1.heap.size ≤ k ∧ k < w2.heap.size from fun k hk => HO2.out.lt k (by simpa using hk))
    cases ok with
    | true =>
      obtain rfl : A = ((nextW S.samples W r, 0), 0) := HA.out
      clear HA
      by_cases hk : S.samples < (W.length : Int) + 1
      · have q1 : decide (S.samples < ((W.length + 1 : Nat) : Int)) = true := decide_eq_true (by omega)
        have HNX := Lib.hid (show nextW S.samples W r = (W ++ [r]).drop 1 from if_pos hk)
        go_wp2_with (first
          | (refine wpList_store_row (cs := #[.slice aC W.length cC, .int .i64 0]) rfl 123 (.tmp 10) (.tmp 19) rfl (heap_alloc_new w2 _) (by rfl) (by rfl) (by rfl) Tryz.infoFl (by simp [Value.oneCell']) ?_; intro w3 R3 M3; have HF3 := Lib.hid (fresh M3); have HM4 := Lib.hid (HM2.out.trans HF3.out); have HO3 := Lib.hid (HO2.out.mods0 HF3.out); have HZ3 := Lib.hid (HF3.out.heap HZ2.out (by simp)); have y03 := HF3.out.cell y02 (by simp); have y23 := HF3.out.cell y22 (by simp); have d0 : w3.cell? ⟨w2.heap.size, 0, none⟩ = some (.slice aC W.length cC) := (cell_blk R3 0).trans rfl; have HR3 := Lib.hid R3; have hw3 := lt_of_block R3; clear R3 M3)
          | (at_builtin; refine wpList_appB (by rfl) (.tmp 22) (.tmp 24) rfl (v := .slice aC W.length cC) (by rfl) (HO3.out.mods0 (Mods.refl.alloc _)) (by rfl) (OwnB.lit w3 (Nat.le_refl _) [r] (by unfold maxLen; simp)).rd (by simp; omega) (by simp; omega) ?_; go_must (intro VB WB OB MB; obtain ⟨gB, cB, cur, hVB, hq1, hcl, hq2⟩ := owns_form OB (by simp [u8s_length]); have hcB : ¬ cB = 1 := (by rw [u8s_length, List.length_append, List.length_singleton] at hcl; omega); clear hq1 hcl hq2; simp only [u8s_length, List.length_append, List.length_cons, List.length_nil, Nat.zero_add] at hVB; subst hVB; have HOB := Lib.hid OB; have HMB := Lib.hid ((HM4.out.alloc (.cells (u8s [r]).toArray 5)).comp MB (fun k hk => .inr (by have := (HVC.out k hk).1; omega))); have HRB := Lib.hid (MB.heap (heap_alloc (o' := .cells (u8s [r]).toArray 5) HR3.out) (fun hm => by have := (HVC.out _ hm).2; omega)); have HZB := Lib.hid (MB.heap (heap_alloc (o' := .cells (u8s [r]).toArray 5) HZ3.out) (fun hm => by have := (HVC.out _ hm).1; omega)); have y0B := MB.cell (((Mods.refl (S := []) (w := w3)).alloc (.cells (u8s [r]).toArray 5)).cell y03 (by simp)) (fun hm => by have := (HVC.out _ hm).1; simp at this; omega); clear OB MB))
          | (refine wpList_store_one rfl rfl 121 (.tmp 26) (.tmp 25) rfl HRB.out 0 rfl (by rfl) (by simp) Tryz.infoSl rfl ?_; intro w5 R5 M5; have HR5 : Hid (w5.heap[w2.heap.size]? = some (.cells #[.slice (some ⟨gB, 0, none⟩) (W.length + 1) cB, .int .i64 0] 123 (0, 0))) := Lib.hid R5; have d5 : w5.cell? ⟨w2.heap.size, 0, none⟩ = some (.slice (some ⟨gB, 0, none⟩) (W.length + 1) cB) := (cell_blk HR5.out 0).trans rfl; have HM5 := Lib.hid (HMB.out.comp M5 (fun k hk => by simp at hk; exact .inr (by omega))); have HZ5 := Lib.hid (M5.heap HZB.out (by simp; omega)); have y05 := M5.cell y0B (by simp; omega); have HO5 := Lib.hid (HOB.out.mods M5 (fun k hk hm => by simp at hm; subst hm; exact HOB.out.apart HRB.out (by decide) (by simpa using hk))); clear R5 M5)
          | (refine wpList_store_one rfl rfl 121 (.tmp 36) (.tmp 35) rfl HR5.out 0 rfl (u := .slice (some ⟨gB, 1, none⟩) W.length (cB - 1)) (by rfl) (by simp) Tryz.infoSl rfl ?_; intro w7 R7 M7; have HR7 : Hid (w7.heap[w2.heap.size]? = some (.cells #[.slice (some ⟨gB, 1, none⟩) W.length (cB - 1), .int .i64 0] 123 (0, 0))) := Lib.hid R7; have HO7 := Lib.hid (HO5.out.mods M7 (fun k hk hm => by simp at hm; subst hm; exact HO5.out.apart HR5.out (by decide) (by simpa using hk))); have HM7 := Lib.hid (HM5.out.comp M7 (fun k hk => by simp at hk; exact .inr (by omega))); have HZ7 := Lib.hid (M7.heap HZ5.out (by simp; omega)); clear R7 M7)
          | (refine wpList_load_row rfl _ (.tmp 10) rfl w2.heap.size (by rfl) _ _ _ _ HR7.out Tryz.underlying123 rfl Tryz.infoFl ?_)
          | (show wpList _ _ _ (⟨none, .store 123 _ _, _, _, _, _⟩ :: _) _ _; go_must (refine wpList_store_row (cs := #[.slice (some ⟨gB, 1, none⟩) W.length (cB - 1), .int .i64 0]) rfl 123 (.tmp 8) (.tmp 37) rfl HZ7.out (by rfl) (by rfl) (by rfl) Tryz.infoFl (by simp [Value.oneCell']) ?_; intro w9 R9 M9))
          )
        refine bodyPost_ret (results_cell_row2 rfl _ _ (w.heap.size + 2) _ _ _ _ rfl R9 Tryz.underlying123 rfl Tryz.infoFl) rfl ?_
        have OR := HO7.out.rd
        rw [show W.length + 1 = (W ++ [r]).length by simp] at OR
        have OT := rd_tail OR (by simp)
        rw [show (W ++ [r]).length - 1 = W.length by simp] at OT
        have hgB := (HOB.out.lt gB rfl)
        exact ⟨.slice (some ⟨gB, 1, none⟩) W.length (cB - 1), rfl, by rw [HNX.out]; exact OT.mods M9 (fun _ k hk hm => by simp [Value.ownBlock] at hk hm; omega), (fun q hq => by simp [Value.ownBlock] at hq; omega), HM7.out.comp M9 (fun k hk => by simp at hk; exact .inr (by omega))⟩
      · have q1 : decide (S.samples < ((W.length + 1 : Nat) : Int)) = false := decide_eq_false (by omega)
        have HNX := Lib.hid (show nextW S.samples W r = W ++ [r] from if_neg hk)
        go_wp2_with (first
          | (refine wpList_store_row (cs := #[.slice aC W.length cC, .int .i64 0]) rfl 123 (.tmp 10) (.tmp 19) rfl (heap_alloc_new w2 _) (by rfl) (by rfl) (by rfl) Tryz.infoFl (by simp [Value.oneCell']) ?_; intro w3 R3 M3; have HF3 := Lib.hid (fresh M3); have HM4 := Lib.hid (HM2.out.trans HF3.out); have HO3 := Lib.hid (HO2.out.mods0 HF3.out); have HZ3 := Lib.hid (HF3.out.heap HZ2.out (by simp)); have y03 := HF3.out.cell y02 (by simp); have y23 := HF3.out.cell y22 (by simp); have d0 : w3.cell? ⟨w2.heap.size, 0, none⟩ = some (.slice aC W.length cC) := (cell_blk R3 0).trans rfl; have HR3 := Lib.hid R3; have hw3 := lt_of_block R3; clear R3 M3)
          | (at_builtin; refine wpList_appB (by rfl) (.tmp 22) (.tmp 24) rfl (v := .slice aC W.length cC) (by rfl) (HO3.out.mods0 (Mods.refl.alloc _)) (by rfl) (OwnB.lit w3 (Nat.le_refl _) [r] (by unfold maxLen; simp)).rd (by simp; omega) (by simp; omega) ?_; go_must (intro VB WB OB MB; obtain ⟨gB, cB, cur, hVB, hq1, hcl, hq2⟩ := owns_form OB (by simp [u8s_length]); skip; clear hq1 hcl hq2; simp only [u8s_length, List.length_append, List.length_cons, List.length_nil, Nat.zero_add] at hVB; subst hVB; have HOB := Lib.hid OB; have HMB := Lib.hid ((HM4.out.alloc (.cells (u8s [r]).toArray 5)).comp MB (fun k hk => .inr (by have := (HVC.out k hk).1; omega))); have HRB := Lib.hid (MB.heap (heap_alloc (o' := .cells (u8s [r]).toArray 5) HR3.out) (fun hm => by have := (HVC.out _ hm).2; omega)); have HZB := Lib.hid (MB.heap (heap_alloc (o' := .cells (u8s [r]).toArray 5) HZ3.out) (fun hm => by have := (HVC.out _ hm).1; omega)); have y0B := MB.cell (((Mods.refl (S := []) (w := w3)).alloc (.cells (u8s [r]).toArray 5)).cell y03 (by simp)) (fun hm => by have := (HVC.out _ hm).1; simp at this; omega); clear OB MB))
          | (refine wpList_store_one rfl rfl 121 (.tmp 26) (.tmp 25) rfl HRB.out 0 rfl (by rfl) (by simp) Tryz.infoSl rfl ?_; intro w5 R5 M5; have HR5 : Hid (w5.heap[w2.heap.size]? = some (.cells #[.slice (some ⟨gB, 0, none⟩) (W.length + 1) cB, .int .i64 0] 123 (0, 0))) := Lib.hid R5; have d5 : w5.cell? ⟨w2.heap.size, 0, none⟩ = some (.slice (some ⟨gB, 0, none⟩) (W.length + 1) cB) := (cell_blk HR5.out 0).trans rfl; have HM5 := Lib.hid (HMB.out.comp M5 (fun k hk => by simp at hk; exact .inr (by omega))); have HZ5 := Lib.hid (M5.heap HZB.out (by simp; omega)); have y05 := M5.cell y0B (by simp; omega); have HO5 := Lib.hid (HOB.out.mods M5 (fun k hk hm => by simp at hm; subst hm; exact HOB.out.apart HRB.out (by decide) (by simpa using hk))); clear R5 M5)
          | (refine wpList_load_row rfl _ (.tmp 10) rfl w2.heap.size (by rfl) _ _ _ _ HR5.out Tryz.underlying123 rfl Tryz.infoFl ?_)
          | (show wpList _ _ _ (⟨none, .store 123 _ _, _, _, _, _⟩ :: _) _ _; go_must (refine wpList_store_row (cs := #[.slice (some ⟨gB, 0, none⟩) (W.length + 1) cB, .int .i64 0]) rfl 123 (.tmp 8) (.tmp 37) rfl HZ5.out (by rfl) (by rfl) (by rfl) Tryz.infoFl (by simp [Value.oneCell']) ?_; intro w9 R9 M9))
          )
        refine bodyPost_ret (results_cell_row2 rfl _ _ (w.heap.size + 2) _ _ _ _ rfl R9 Tryz.underlying123 rfl Tryz.infoFl) rfl ?_
        have OR := HO5.out.rd
        have hgB := (HOB.out.lt gB rfl)
        exact ⟨.slice (some ⟨gB, 0, none⟩) (W.length + 1) cB, rfl, by rw [HNX.out]; exact OR.mods M9 (fun _ k hk hm => by simp [Value.ownBlock] at hk hm; omega), (fun q hq => by simp [Value.ownBlock] at hq; omega), HM5.out.comp M9 (fun k hk => by simp at hk; exact .inr (by omega))⟩
    | false =>
      by_cases h2 : n + 1 < 3
      · have hm : min (n + 1) 3 = n + 1 := by omega
        obtain rfl : A = ((W, n + 1), 0) := HA.out.trans (by unfold stepF; simp only [hm]; rw [if_neg (by simp), if_neg (by omega)])
        have e3 : (n + 1 == 3) = false := beq_eq_false_iff_ne.2 (by omega)
        clear HA
        go_wp2_with (first
          | (refine wpList_store_row (cs := #[.slice aC W.length cC, .int .i64 0]) rfl 123 (.tmp 10) (.tmp 19) rfl (heap_alloc_new w2 _) (by rfl) (by rfl) (by rfl) Tryz.infoFl (by simp [Value.oneCell']) ?_; intro w3 R3 M3; have HF3 := Lib.hid (fresh M3); have HM4 := Lib.hid (HM2.out.trans HF3.out); have HO3 := Lib.hid (HO2.out.mods0 HF3.out); have HZ3 := Lib.hid (HF3.out.heap HZ2.out (by simp)); have y03 := HF3.out.cell y02 (by simp); have y23 := HF3.out.cell y22 (by simp); have d0 : w3.cell? ⟨w2.heap.size, 0, none⟩ = some (.slice aC W.length cC) := (cell_blk R3 0).trans rfl; have HR3 := Lib.hid R3; have hw3 := lt_of_block R3; clear R3 M3)
          | (refine wpList_store_one rfl rfl 3 (.tmp 42) (.tmp 41) rfl HR3.out 1 rfl (u := .int .i64 (n + 1)) (by rfl) (by simp) Tryz.infoI1 rfl ?_; go_must (intro w5 R5 M5; have HR5 : Hid (w5.heap[w2.heap.size]? = some (.cells #[.slice aC W.length cC, .int .i64 (n + 1)] 123 (0, 0))) := Lib.hid R5; have d5 : w5.cell? ⟨w2.heap.size, 1, none⟩ = some (.int .i64 (n + 1)) := (cell_blk HR5.out 1).trans rfl; have HM5 := Lib.hid (HM4.out.comp M5 (fun k hk => by simp at hk; exact .inr (by omega))); have HZ5 := Lib.hid (M5.heap HZ3.out (by simp; omega)); have HO5 := Lib.hid (HO3.out.mods M5 (fun k hk hm => by simp at hm; subst hm; have := HVC.out _ (by simpa using hk); omega)); clear R5 M5))
          | (refine wpList_load_row rfl _ (.tmp 10) rfl w2.heap.size (by rfl) _ _ _ _ HR5.out Tryz.underlying123 rfl Tryz.infoFl ?_)
          | (show wpList _ _ _ (⟨none, .store 123 _ _, _, _, _, _⟩ :: _) _ _; go_must (refine wpList_store_row (cs := #[.slice aC W.length cC, .int .i64 (n + 1)]) rfl 123 (.tmp 8) (.tmp 47) rfl HZ5.out (by rfl) (by rfl) (by rfl) Tryz.infoFl (by simp [Value.oneCell']) ?_; intro w9 R9 M9))
          )
        refine bodyPost_ret (results_cell_row2 rfl _ _ (w.heap.size + 2) _ _ _ _ rfl R9 Tryz.underlying123 rfl Tryz.infoFl) rfl ?_
        exact ⟨.slice aC W.length cC, rfl, HO5.out.rd.mods M9 (fun _ k hk hm => by have := HVC.out k (by simpa using hk); simp at hm; omega), (fun q hq => by have := HVC.out q (by simpa using hq); omega), HM5.out.comp M9 (fun k hk => by simp at hk; exact .inr (by omega))⟩
      · have hm : min (n + 1) 3 = 3 := by omega
        obtain rfl : A = (([], 3), 0) := HA.out.trans (by simp [stepF, hm])
        clear HA hm
        rcases (show n = 2 ∨ n = 3 by omega) with rfl | rfl
        all_goals
          go_wp2_with (first
            | (refine wpList_store_row (cs := #[.slice aC W.length cC, .int .i64 0]) rfl 123 (.tmp 10) (.tmp 19) rfl (heap_alloc_new w2 _) (by rfl) (by rfl) (by rfl) Tryz.infoFl (by simp [Value.oneCell']) ?_; intro w3 R3 M3; have HF3 := Lib.hid (fresh M3); have HM4 := Lib.hid (HM2.out.trans HF3.out); have HO3 := Lib.hid (HO2.out.mods0 HF3.out); have HZ3 := Lib.hid (HF3.out.heap HZ2.out (by simp)); have y03 := HF3.out.cell y02 (by simp); have y23 := HF3.out.cell y22 (by simp); have d0 : w3.cell? ⟨w2.heap.size, 0, none⟩ = some (.slice aC W.length cC) := (cell_blk R3 0).trans rfl; have HR3 := Lib.hid R3; have hw3 := lt_of_block R3; clear R3 M3)
            | (refine wpList_store_one rfl rfl 3 (.tmp 42) (.tmp 41) rfl HR3.out 1 rfl (u := .int .i64 3) (by rfl) (by simp) Tryz.infoI1 rfl ?_; go_must (intro w5 R5 M5; have HR5 : Hid (w5.heap[w2.heap.size]? = some (.cells #[.slice aC W.length cC, .int .i64 3] 123 (0, 0))) := Lib.hid R5; have d5 : w5.cell? ⟨w2.heap.size, 1, none⟩ = some (.int .i64 3) := (cell_blk HR5.out 1).trans rfl; have HM5 := Lib.hid (HM4.out.comp M5 (fun k hk => by simp at hk; exact .inr (by omega))); have HZ5 := Lib.hid (M5.heap HZ3.out (by simp; omega)); have HO5 := Lib.hid (HO3.out.mods M5 (fun k hk hm => by simp at hm; subst hm; have := HVC.out _ (by simpa using hk); omega)); clear R5 M5))
            | (show wpList _ _ _ (⟨none, .store 121 _ _, _, _, _, _⟩ :: _) _ _; go_must (refine wpList_store_one rfl rfl 121 (.tmp 46) (.const (.slice none 0 0)) rfl HR5.out 0 rfl (u := .slice none 0 0) (by rfl) (by simp) Tryz.infoSl rfl ?_; intro w7 R7 M7; have HR7 : Hid (w7.heap[w2.heap.size]? = some (.cells #[.slice none 0 0, .int .i64 3] 123 (0, 0))) := Lib.hid R7; have HM7 := Lib.hid (HM5.out.comp M7 (fun k hk => by simp at hk; exact .inr (by omega))); have HZ7 := Lib.hid (M7.heap HZ5.out (by simp; omega)); clear R7 M7))
            | (refine wpList_load_row rfl _ (.tmp 10) rfl w2.heap.size (by rfl) _ _ _ _ HR7.out Tryz.underlying123 rfl Tryz.infoFl ?_)
            | (show wpList _ _ _ (⟨none, .store 123 _ _, _, _, _, _⟩ :: _) _ _; go_must (refine wpList_store_row (cs := #[.slice none 0 0, .int .i64 3]) rfl 123 (.tmp 8) (.tmp 47) rfl HZ7.out (by rfl) (by rfl) (by rfl) Tryz.infoFl (by simp [Value.oneCell']) ?_; intro w9 R9 M9))
            )
          refine bodyPost_ret (results_cell_row2 rfl _ _ (w.heap.size + 2) _ _ _ _ rfl R9 Tryz.underlying123 rfl Tryz.infoFl) rfl ?_
          exact ⟨.slice none 0 0, rfl, Rd.nil _, (fun q hq => by cases hq), HM7.out.comp M9 (fun k hk => by simp at hk; exact .inr (by omega))⟩
set_option maxRecDepth 100000 in
set_option maxHeartbeats 4000000 in
theorem refStep14_ok (w : World) (S : Sen) (P : List Pt) (win : Value) (W : List Int) (n : Int) (r : Int) (ok : Bool) (hS : IsSen w S P) (hF : IsFlt w win W n) :
    Calls Tryz.prog 107 #[.agg S.cells, .agg #[win, .int .i64 n], .int .u8 r, .bool ok] w fun e w' => StepRes w (stepA (fltB S P W n) S.samples W n r ok) e w' := by
  have HS := Lib.hid hS
  have HF := Lib.hid hF
  obtain ⟨ad, cap, rfl, h1, h2, -⟩ := hF.rd.u8
  have h3 : cap ≤ 9223372036854775807 := h2
  have hlen := hF.len
  clear hS hF h2
  have R2 := heap_alloc_new ((w.alloc (.cells S.cells 40)).alloc (.cells #[.slice ad W.length cap, .int .i64 n] 123)) (.cells #[.slice none 0 0, .int .i64 0] 123)
  rw [World.size_alloc, World.size_alloc] at R2
  have R1 := heap_alloc_new (w.alloc (.cells S.cells 40)) (.cells #[.slice ad W.length cap, .int .i64 n] 123)
  rw [World.size_alloc] at R1
  have HR2 := Lib.hid R2
  have HR1 := Lib.hid (heap_alloc (o' := .cells #[.slice none 0 0, .int .i64 0] 123) R1)
  have HB := Lib.hid (SenBox.mk (heap_alloc (o' := .cells #[.slice none 0 0, .int .i64 0] 123) (heap_alloc (o' := .cells #[.slice ad W.length cap, .int .i64 n] 123) (heap_alloc_new w (.cells S.cells 40)))))
  have HM0 := Lib.hid ((((Mods.refl (S := []) (w := w)).alloc (.cells S.cells 40)).alloc (.cells #[.slice ad W.length cap, .int .i64 n] 123)).alloc (.cells #[.slice none 0 0, .int .i64 0] 123))
  obtain ⟨_, _, _, _, _, _, x27⟩ := S.restc
  clear R1 R2
  have HA := Lib.hid (show stepA (fltB S P W n) S.samples W n r ok = if fltB S P W n then (stepF S.samples W n r ok, 0) else (([], 0), 1) from rfl)
  generalize stepA (fltB S P W n) S.samples W n r ok = A at HA ⊢
  go_enter Tryz.func107, Tryz.ntmps107
  go_wp2_with (refine wpList_load_sen rfl (.tmp 4) rfl HB.out (by rfl) ?_)
  refine (refSamValid_ok _ S P _ W n (HS.out.mods0 HM0.out) (HF.out.mods0 HM0.out)).mono ?_
  rintro e w1 ⟨rfl, M1⟩
  have HM1 := Lib.hid (HM0.out.trans M1)
  have RB := (M1.heap HB.out.blk (by simp))
  have RF := (M1.heap HR1.out (by simp))
  have RZ := (M1.heap HR2.out (by simp))
  have hw1 := M1.size
  simp only [World.size_alloc] at hw1
  have y0 : w1.cell? ⟨w.heap.size, 27, none⟩ = some (.int .i64 S.samples) := (cell_blk RB 27).trans x27
  have y1 : w1.cell? ⟨w.heap.size + 1, 0, none⟩ = some (.slice ad W.length cap) := (cell_blk RF 0).trans rfl
  have y2 : w1.cell? ⟨w.heap.size + 1, 1, none⟩ = some (.int .i64 n) := (cell_blk RF 1).trans rfl
  have HZ := Lib.hid RZ
  have HF1 := Lib.hid (HF.out.mods0 HM1.out)
  clear M1 RB RF RZ HB HR1 HM0 HS HF x27 HR2
  cases hb : fltB S P W n with
  | false =>
    obtain rfl : A = (([], 0), 1) := HA.out.trans (if_neg (by rw [hb]; decide))
    clear hb HA
    go_wp2_with (refine wpList_store_row (cs := #[.slice none 0 0, .int .i64 0]) rfl 123 (.tmp 8) (.tmp 16) rfl HZ.out (by rfl) (by rfl) (by rfl) Tryz.infoFl (by simp [Value.oneCell']) ?_; intro w9 R9 M9)
    refine bodyPost_ret (results_cell_row2 rfl _ _ (w.heap.size + 2) _ _ _ _ rfl R9 Tryz.underlying123 rfl Tryz.infoFl) rfl ?_
    exact ⟨.slice none 0 0, rfl, Rd.nil _, (fun q hq => by cases hq), HM1.out.comp M9 (fun k hk => by simp at hk; exact .inr (by omega))⟩
  | true =>
    have hsam := flt_samples hb
    replace HA := Lib.hid (HA.out.trans (if_pos hb))
    clear hb
    cases ok with
    | true =>
      obtain rfl : A = ((nextW S.samples W r, 0), 0) := HA.out
      clear HA
      go_wp2_with fail
      refine (refCopy_ok w1 _ W HF1.out.rd (by omega)).mono ?_
      rintro e w2 ⟨vC, rfl, O2, M2⟩
      have HO2 := Lib.hid (show OwnB w2 w1.heap.size vC W from O2)
      obtain ⟨aC, cC, rfl⟩ := HO2.out.rd.len
      rw [u8s_length] at HO2 ⊢
      have HM2 := Lib.hid (HM1.out.trans M2)
      have HZ2 := Lib.hid (M2.heap HZ.out (by simp))
      have y02 := M2.cell y0 (by simp)
      have hw2 := M2.size
      have HVC := Lib.hid (show ∀ k, k ∈ (Value.slice aC W.length cC).ownBlock.toList → w1.heap.size ≤ k ∧ k < w2.heap.size from fun k hk => HO2.out.lt k (by simpa using hk))
      clear O2 M2 HZ HM1 y0 y1 y2 HF1 h3
      by_cases hk : S.samples < (W.length : Int) + 1
      · have q1 : decide (S.samples < ((W.length + 1 : Nat) : Int)) = true := decide_eq_true (by omega)
        have HNX := Lib.hid (show nextW S.samples W r = (W ++ [r]).drop 1 from if_pos hk)
        go_wp2_with (first
          | (at_builtin; refine wpList_appB (by rfl) (.tmp 20) (.tmp 22) rfl (v := .slice aC W.length cC) (by rfl) (HO2.out.mods0 (Mods.refl.alloc _)) (by rfl) (OwnB.lit w2 (Nat.le_refl _) [r] (by unfold maxLen; simp)).rd (by simp; omega) (by simp; omega) ?_; go_must (intro VB WB OB MB; obtain ⟨gB, cB, cur, hVB, hq1, hcl, hq2⟩ := owns_form OB (by simp [u8s_length]); have hcB : ¬ cB = 1 := (by rw [u8s_length, List.length_append, List.length_singleton] at hcl; omega); clear hq1 hcl hq2; simp only [u8s_length, List.length_append, List.length_cons, List.length_nil, Nat.zero_add] at hVB; subst hVB; have HOB := Lib.hid OB; have HMB := Lib.hid ((HM2.out.alloc (.cells (u8s [r]).toArray 5)).comp MB (fun k hk => .inr (by have := (HVC.out k hk).1; omega))); have HZB := Lib.hid (MB.heap (heap_alloc (o' := .cells (u8s [r]).toArray 5) HZ2.out) (fun hm => by have := (HVC.out _ hm).1; omega)); have y0B := MB.cell (((Mods.refl (S := []) (w := w2)).alloc (.cells (u8s [r]).toArray 5)).cell y02 (by simp)) (fun hm => by have := (HVC.out _ hm).1; simp at this; omega); clear OB MB))
          | (show wpList _ _ _ (⟨none, .store 123 _ _, _, _, _, _⟩ :: _) _ _; go_must (refine wpList_store_row (cs := #[.slice (some ⟨gB, 1, none⟩) W.length (cB - 1), .int .i64 0]) rfl 123 (.tmp 8) (.tmp 32) rfl HZB.out (by rfl) (by rfl) (by rfl) Tryz.infoFl (by simp [Value.oneCell']) ?_; intro w9 R9 M9))
          )
        refine bodyPost_ret (results_cell_row2 rfl _ _ (w.heap.size + 2) _ _ _ _ rfl R9 Tryz.underlying123 rfl Tryz.infoFl) rfl ?_
        have OR := HOB.out.rd
        rw [show W.length + 1 = (W ++ [r]).length by simp] at OR
        have OT := rd_tail OR (by simp)
        rw [show (W ++ [r]).length - 1 = W.length by simp] at OT
        have hgB := (HOB.out.lt gB rfl)
        exact ⟨.slice (some ⟨gB, 1, none⟩) W.length (cB - 1), rfl, by rw [HNX.out]; exact OT.mods M9 (fun _ k hk hm => by simp [Value.ownBlock] at hk hm; omega), (fun q hq => by simp [Value.ownBlock] at hq; omega), HMB.out.comp M9 (fun k hk => by simp at hk; exact .inr (by omega))⟩
      · have q1 : decide (S.samples < ((W.length + 1 : Nat) : Int)) = false := decide_eq_false (by omega)
        have HNX := Lib.hid (show nextW S.samples W r = W ++ [r] from if_neg hk)
        go_wp2_with (first
          | (at_builtin; refine wpList_appB (by rfl) (.tmp 20) (.tmp 22) rfl (v := .slice aC W.length cC) (by rfl) (HO2.out.mods0 (Mods.refl.alloc _)) (by rfl) (OwnB.lit w2 (Nat.le_refl _) [r] (by unfold maxLen; simp)).rd (by simp; omega) (by simp; omega) ?_; go_must (intro VB WB OB MB; obtain ⟨gB, cB, cur, hVB, hq1, hcl, hq2⟩ := owns_form OB (by simp [u8s_length]); skip; clear hq1 hcl hq2; simp only [u8s_length, List.length_append, List.length_cons, List.length_nil, Nat.zero_add] at hVB; subst hVB; have HOB := Lib.hid OB; have HMB := Lib.hid ((HM2.out.alloc (.cells (u8s [r]).toArray 5)).comp MB (fun k hk => .inr (by have := (HVC.out k hk).1; omega))); have HZB := Lib.hid (MB.heap (heap_alloc (o' := .cells (u8s [r]).toArray 5) HZ2.out) (fun hm => by have := (HVC.out _ hm).1; omega)); have y0B := MB.cell (((Mods.refl (S := []) (w := w2)).alloc (.cells (u8s [r]).toArray 5)).cell y02 (by simp)) (fun hm => by have := (HVC.out _ hm).1; simp at this; omega); clear OB MB))
          | (show wpList _ _ _ (⟨none, .store 123 _ _, _, _, _, _⟩ :: _) _ _; go_must (refine wpList_store_row (cs := #[.slice (some ⟨gB, 0, none⟩) (W.length + 1) cB, .int .i64 0]) rfl 123 (.tmp 8) (.tmp 32) rfl HZB.out (by rfl) (by rfl) (by rfl) Tryz.infoFl (by simp [Value.oneCell']) ?_; intro w9 R9 M9))
          )
        refine bodyPost_ret (results_cell_row2 rfl _ _ (w.heap.size + 2) _ _ _ _ rfl R9 Tryz.underlying123 rfl Tryz.infoFl) rfl ?_
        have OR := HOB.out.rd
        have hgB := (HOB.out.lt gB rfl)
        exact ⟨.slice (some ⟨gB, 0, none⟩) (W.length + 1) cB, rfl, by rw [HNX.out]; exact OR.mods M9 (fun _ k hk hm => by simp [Value.ownBlock] at hk hm; omega), (fun q hq => by simp [Value.ownBlock] at hq; omega), HMB.out.comp M9 (fun k hk => by simp at hk; exact .inr (by omega))⟩
    | false =>
      by_cases h2 : n + 1 < 3
      · have hm : min (n + 1) 3 = n + 1 := by omega
        obtain rfl : A = ((W, n + 1), 0) := HA.out.trans (by unfold stepF; simp only [hm]; rw [if_neg (by simp), if_neg (by omega)])
        have e3 : (n + 1 == 3) = false := beq_eq_false_iff_ne.2 (by omega)
        clear HA
        go_wp2_with fail
        refine (refCopy_ok w1 _ W HF1.out.rd (by omega)).mono ?_
        rintro e w2 ⟨vC, rfl, O2, M2⟩
        have HO2 := Lib.hid (show OwnB w2 w1.heap.size vC W from O2)
        obtain ⟨aC, cC, rfl⟩ := HO2.out.rd.len
        rw [u8s_length] at HO2 ⊢
        have HM2 := Lib.hid (HM1.out.trans M2)
        have HZ2 := Lib.hid (M2.heap HZ.out (by simp))
        have y02 := M2.cell y0 (by simp)
        have hw2 := M2.size
        have HVC := Lib.hid (show ∀ k, k ∈ (Value.slice aC W.length cC).ownBlock.toList → w1.heap.size ≤ k ∧ k < w2.heap.size from fun k hk => HO2.out.lt k (by simpa using hk))
        clear O2 M2 HZ HM1 y0 y1 y2 HF1 h3
        go_wp2_with (first
          | (show wpList _ _ _ (⟨none, .store 123 _ _, _, _, _, _⟩ :: _) _ _; go_must (refine wpList_store_row (cs := #[.slice aC W.length cC, .int .i64 (n + 1)]) rfl 123 (.tmp 8) (.tmp 45) rfl HZ2.out (by rfl) (by rfl) (by rfl) Tryz.infoFl (by simp [Value.oneCell']) ?_; intro w9 R9 M9))
          )
        refine bodyPost_ret (results_cell_row2 rfl _ _ (w.heap.size + 2) _ _ _ _ rfl R9 Tryz.underlying123 rfl Tryz.infoFl) rfl ?_
        exact ⟨.slice aC W.length cC, rfl, HO2.out.rd.mods M9 (fun _ k hk hm => by have := HVC.out k (by simpa using hk); simp at hm; omega), (fun q hq => by have := HVC.out q (by simpa using hq); omega), HM2.out.comp M9 (fun k hk => by simp at hk; exact .inr (by omega))⟩
      · have hm : min (n + 1) 3 = 3 := by omega
        obtain rfl : A = (([], 3), 0) := HA.out.trans (by simp [stepF, hm])
        clear HA hm
        rcases (show n = 2 ∨ n = 3 by omega) with rfl | rfl
        all_goals
          go_wp2_with (first
            | (show wpList _ _ _ (⟨none, .store 123 _ _, _, _, _, _⟩ :: _) _ _; go_must (refine wpList_store_row (cs := #[.slice none 0 0, .int .i64 3]) rfl 123 (.tmp 8) (.tmp 40) rfl HZ.out (by rfl) (by rfl) (by rfl) Tryz.infoFl (by simp [Value.oneCell']) ?_; intro w9 R9 M9))
            )
          refine bodyPost_ret (results_cell_row2 rfl _ _ (w.heap.size + 2) _ _ _ _ rfl R9 Tryz.underlying123 rfl Tryz.infoFl) rfl ?_
          exact ⟨.slice none 0 0, rfl, Rd.nil _, (fun q hq => by cases hq), HM1.out.comp M9 (fun k hk => by simp at hk; exact .inr (by omega))⟩
end Go.Proofs.YtijjkonephjodaaGreatDoor
