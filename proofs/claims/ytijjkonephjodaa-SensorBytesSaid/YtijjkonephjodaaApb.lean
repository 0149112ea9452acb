/- Joined texts. append of one slice to another, in a guarded operation too. | 'x, y := a, b' for two structs: two blocks are made and stored into, in whatever order. | sensor.Encode of a valid discrete sensor: contract. | append of bytes to bytes of the call's own, whatever the second slice is; a list of bytes laid. -/
import Derived.Test.YtijjkonephjodaaMem
import Derived.Test.YtijjkonephjodaaHeldRow
import Derived.Test.YtijjkonephjodaaBld
import Derived.Test.YtijjkonephjodaaBys
import Derived.Test.YtijjkonephjodaaSenValid
import Derived.Lib.AppendStr
import Derived.Laws.OwnMore
namespace Go.Proofs.Ytijjkonephjodaa
open Go.RowKit
theorem wpList_wanted {P : Program} {ops : Array Oper} {rest : List Oper} {o : Oper} {a : Act} {w : World} {Q : Exit → Act → World → Prop} (hw : Region.wanted o (yielded ops a.tmps) = true)
    (h : ∀ K : Act → World → Prop, (∀ a w, wpList P ops Q rest a w → K a w) → o.wp P a w K Q) : wpList P ops Q (o :: rest) a w :=
  wpList_step fun K hK => by rw [if_pos hw]; exact h K hK
/-- append(s, x...), s the call's own, x owned too (nil or not). -/
theorem wpList_append_two {P : Program} {ops : Array Oper} {rest : List Oper} {o : Oper} {a : Act} {Q : Exit → Act → World → Prop} {w : World} (hw : Region.wanted o (yielded ops a.tmps) = true) (s x : Operand) (t : TypeId)
    (ho : o.op = .call { callee := .builtin .append, args := #[s, x], argTypes := #[t, t] })
    (base : Nat) (e : TypeId) (i : TypeInfo) (z : Value) (bytes : Nat) (ht : P.underlying t = some (.slice e)) (hi : P.info? e = some i) (hz : i.zero = some z)
    (hsize : i.size = 1) (hby : i.bytes = bytes) (hzs : z.cells.size = 1)
    (v : Value) (n : Nat) (xs : List Value) (hs : a.eval s = v) (hown : w.ownsRow base e 1 v n xs) (u : Value) (b2 m : Nat) (e2 : TypeId) (ys : List Value) (hx : a.eval x = u) (hu : w.ownsRow b2 e2 1 u m ys) (h1 : ∀ y ∈ ys, y.oneCell' = true)
    (hn : n + m ≤ 1000000) (hb : bytes ≤ 1000) (hbase : base ≤ w.heap.size)
    (h : ∀ v' w', w'.ownsRow base e 1 v' (n + m) (xs ++ ys) → Mods (from_ base w) w w' → wpList P ops Q rest (a.put o.dst v') w') : wpList P ops Q (o :: rest) a w := by
  refine wpList_wanted hw fun K hK => ?_
  rcases hu.2 with ⟨hun, hm⟩ | ⟨g, cap, cur, hue, _, hg, hc1, hc2, hc3, hc4⟩
  · have hys : ys = [] := List.eq_nil_of_length_eq_zero (by rw [hu.1, hm])
    have hrun := run_append_owned_none (P := P) (w := w) base t o.type e i 1 ht hi v n xs hown
    unfold Oper.wp
    rw [hun] at hx
    simp [execOp, ho, resolve, invoke, builtin, hs, hx, hrun, Result.andThen]
    refine hK _ _ (h v w ?_ Mods.refl)
    rw [hys, hm, List.append_nil]; exact hown
  · rw [hue] at hx
    refine wp_append_own w s x t ho base e i z 1 bytes ht hi hz hsize hby hzs (by decide) v n xs hs hown ⟨g, 0, none⟩ m cap ys hx hu.1 ?_ h1 (by unfold maxLen; omega) ?_ hbase ?_
    · intro j y hj
      have hjl : j < ys.length := by rcases Nat.lt_or_ge j ys.length with hl | hl; exact hl; rw [List.getElem?_eq_none hl] at hj; cases hj
      have e1 : (⟨g, 0, none⟩ : Addr).add j = ⟨g, j, none⟩ := by unfold Addr.add; split <;> simp_all
      have hl := hu.1
      rw [e1, cell_blk hg, ← hj, ← hc4, List.getElem?_take, if_pos (by omega)]
      simp
    · have : (n + m) * bytes ≤ 1000000 * 1000 := Nat.mul_le_mul hn hb
      omega
    · intro v' w' h2 h3 _
      exact hK _ _ (h v' w' h2 (Mods.of_from ((Below.refl base w).grown h3 hbase fun k hk => (hown.lt k hk).1)))
end Go.Proofs.Ytijjkonephjodaa

namespace Go.Proofs.Ytijjkonephjodaa
open Go.RowKit

/-- Two blocks under way. -/
structure TB (T : TypeId) (w0 w : World) (oA oB : Option (Nat × Array Value)) : Prop where
  M : Mods [] w0 w
  A : ∀ p, oA = some p → w.heap[p.1]? = some (.cells p.2 T (0, 0)) ∧ w0.heap.size ≤ p.1
  B : ∀ p, oB = some p → w.heap[p.1]? = some (.cells p.2 T (0, 0)) ∧ w0.heap.size ≤ p.1
  ne : ∀ p q, oA = some p → oB = some q → p.1 ≠ q.1
variable {T : TypeId} {w0 w W : World} {oA oB : Option (Nat × Array Value)}
theorem TB.start (w : World) : TB T w w none none := ⟨Mods.refl, fun _ h => (by cases h), fun _ h => (by cases h), fun _ _ h => (by cases h)⟩
theorem TB.swap (h : TB T w0 w oA oB) : TB T w0 w oB oA := ⟨h.M, h.B, h.A, fun p q hp hq => (h.ne q p hq hp).symm⟩
theorem TB.allocA (h : TB T w0 w none oB) (c : Array Value) : TB T w0 (w.alloc (.cells c T)) (some (w.heap.size, c)) oB :=
  ⟨h.M.alloc _, fun p hp => by cases hp; exact ⟨heap_alloc_new w _, h.M.size⟩, fun p hp => ⟨heap_alloc (h.B p hp).1, (h.B p hp).2⟩, fun p q hp hq => by cases hp; have := lt_of_block (h.B q hq).1; omega⟩
theorem TB.storeA {g : Nat} {c cs : Array Value} (h : TB T w0 w (some (g, c)) oB) (R : W.heap[g]? = some (.cells cs T (0, 0))) (M : Mods [g] w W) : TB T w0 W (some (g, cs)) oB :=
  ⟨h.M.comp M fun k hk => by simp at hk; subst hk; exact .inr (h.A _ rfl).2, fun p hp => by cases hp; exact ⟨R, (h.A _ rfl).2⟩, fun p hp => ⟨M.heap (h.B p hp).1 (by have := h.ne _ p rfl hp; simp; omega), (h.B p hp).2⟩, fun p q hp hq => by cases hp; exact h.ne (g, c) q rfl hq⟩
section
variable {P : Program} {ops : Array Oper} {Q : Exit → Act → World → Prop} {S : World → Prop} {md : Region.Mode}
theorem exec_store {ops : Array Oper} {o : Oper} {a : Act} {w : World} {K : Act → World → Prop} {E : Prop} (hgd : o.guard = none) (hd : o.dst = none) {ty : TypeId} {x y : Operand} (ho : o.op = .store ty x y)
    {g : Nat} {c0 cs : Array Value} (hg : w.heap[g]? = some (.cells c0 T (0, 0))) (hx : a.eval x = .pointer (some ⟨g, 0, none⟩)) (hy : a.eval y = .agg cs) (hs : c0.size = cs.size)
    (hi : (P.info? ty).map (·.size) = some cs.size) (h1 : cs.all (·.oneCell') = true) (h : ∀ W, W.heap[g]? = some (.cells cs T (0, 0)) → Mods [g] w W → K a W) : if Region.wanted o (yielded ops a.tmps) = true then Oper.wp P o a w K Q else E := by
  rw [if_pos (by simp [Region.wanted, hgd])]
  have e : a.put o.dst undef = a := by rw [hd]; rfl
  have hR : (w.setCells g 0 cs.toList).heap[g]? = some (.cells cs T (0, 0)) := by rw [heap_setCells _ _ _ _ hg, setAll_whole hs]
  refine wp_store_mid ty x y ho g 0 cs hx hy ?_ hi h1 (by rw [e]; exact h _ hR (Mods.setCells _ _ _))
  · intro j hj
    refine ⟨?_, froz_blk hg _⟩
    rw [cell_blk hg, Nat.zero_add, Array.getElem?_eq_getElem (by omega)]
    rfl
theorem exec_alloc {ops : Array Oper} {o : Oper} {a : Act} {w : World} {K : Act → World → Prop} {E : Prop} (hgd : o.guard = none) {d : Nat} (hd : o.dst = some d) {c : Array Value}
    (hr : ∀ (a : Act) w, (execOp a.eval o).run P w = .ok (.value (.pointer (some ⟨w.heap.size, 0, none⟩))) (w.alloc (.cells c T)))
    (h : K { a with tmps := a.tmps.setIfInBounds d (.pointer (some ⟨w.heap.size, 0, none⟩)) } (w.alloc (.cells c T))) : if Region.wanted o (yielded ops a.tmps) = true then Oper.wp P o a w K Q else E := by
  rw [if_pos (by simp [Region.wanted, hgd])]
  unfold Oper.wp
  rw [hr, Oper.upon_value]
  unfold Act.put
  rw [hd]
  exact h
/-- Which operations may come up, at each point. -/
def twoTable (md : Region.Mode) (ops : Array Oper) : Bool :=
  decide (Region.ready md ops #[true, true, false, false, false, false] = [2, 3]) && decide (Region.ready md ops #[true, true, true, false, false, false] = [3])
  && decide (Region.ready md ops #[true, true, false, true, false, false] = [2]) && decide (Region.ready md ops #[true, true, true, true, false, false] = [4])
  && decide (Region.ready md ops #[true, true, true, true, true, false] = [5]) && decide (Region.ready md ops #[true, true, true, true, true, true] = [])
theorem twoTable_get (h : twoTable md ops = true) : Region.ready md ops #[true, true, false, false, false, false] = [2, 3] ∧ Region.ready md ops #[true, true, true, false, false, false] = [3]
    ∧ Region.ready md ops #[true, true, false, true, false, false] = [2] ∧ Region.ready md ops #[true, true, true, true, false, false] = [4]
    ∧ Region.ready md ops #[true, true, true, true, true, false] = [5] ∧ Region.ready md ops #[true, true, true, true, true, true] = [] := by
  simp only [twoTable, Bool.and_eq_true, decide_eq_true_eq] at h
  obtain ⟨⟨⟨⟨⟨h1, h2⟩, h3⟩, h4⟩, h5⟩, h6⟩ := h
  exact ⟨h1, h2, h3, h4, h5, h6⟩
theorem getD_set_same {l : Array Value} {d : Nat} {v u : Value} (h : d < l.size) : (l.setIfInBounds d v).getD d u = v := by simp [Array.getD_eq_getD_getElem?, h]
theorem getD_set_other {l : Array Value} {d k : Nat} {v u : Value} (h : d ≠ k) : (l.setIfInBounds d v).getD k u = l.getD k u := by simp [Array.getD_eq_getD_getElem?, h]
theorem twoBoxes {ops : Array Oper} {a : Act} {w : World} {o2 o3 o4 o5 : Oper} {dA dB sA sB : Nat} {ty : TypeId} {z csA csB : Array Value} {fuel : Nat}
    (h2 : ops[2]? = some o2) (h3 : ops[3]? = some o3) (h4 : ops[4]? = some o4) (h5 : ops[5]? = some o5)
    (g2 : o2.guard = none) (g3 : o3.guard = none) (g4 : o4.guard = none) (g5 : o5.guard = none) (d2 : o2.dst = some dA) (d3 : o3.dst = some dB) (d4 : o4.dst = none) (d5 : o5.dst = none)
    (r2 : ∀ (a : Act) w, (execOp a.eval o2).run P w = .ok (.value (.pointer (some ⟨w.heap.size, 0, none⟩))) (w.alloc (.cells z T)))
    (r3 : ∀ (a : Act) w, (execOp a.eval o3).run P w = .ok (.value (.pointer (some ⟨w.heap.size, 0, none⟩))) (w.alloc (.cells z T)))
    (p4 : o4.op = .store ty (.tmp dA) (.tmp sA)) (p5 : o5.op = .store ty (.tmp dB) (.tmp sB))
    (zA : z.size = csA.size) (zB : z.size = csB.size) (iA : (P.info? ty).map (·.size) = some csA.size) (iB : (P.info? ty).map (·.size) = some csB.size)
    (oneA : csA.all (·.oneCell') = true) (oneB : csB.all (·.oneCell') = true)
    (lA : dA < a.tmps.size) (lB : dB < a.tmps.size) (nAB : dA ≠ dB) (nA1 : dA ≠ sA) (nA2 : dA ≠ sB) (nB1 : dB ≠ sA) (nB2 : dB ≠ sB)
    (vA : a.tmps.getD sA undef = .agg csA) (vB : a.tmps.getD sB undef = .agg csB)
    (ht : twoTable md ops = true) (hK : ∀ w', Mods [] w w' → S w')
    (h : ∀ gA gB W, TB T w W (some (gA, csA)) (some (gB, csB)) → Q .normal { a with tmps := (a.tmps.setIfInBounds dA (.pointer (some ⟨gA, 0, none⟩))).setIfInBounds dB (.pointer (some ⟨gB, 0, none⟩)) } W) :
    wpAnyH P md ops Q S (fuel + 4) #[true, true, false, false, false, false] a w := by
  obtain ⟨t1, t2, t3, t4, t5, t6⟩ := twoTable_get ht
  have comm : ∀ gA gB, (a.tmps.setIfInBounds dB (.pointer (some ⟨gB, 0, none⟩))).setIfInBounds dA (.pointer (some ⟨gA, 0, none⟩)) = (a.tmps.setIfInBounds dA (.pointer (some ⟨gA, 0, none⟩))).setIfInBounds dB (.pointer (some ⟨gB, 0, none⟩)) := fun gA gB => Array.setIfInBounds_comm _ _ nAB.symm
  have e1 : ∀ gA gB, ({ a with tmps := (a.tmps.setIfInBounds dA (.pointer (some ⟨gA, 0, none⟩))).setIfInBounds dB (.pointer (some ⟨gB, 0, none⟩)) } : Act).eval (.tmp dA) = .pointer (some ⟨gA, 0, none⟩) := fun gA gB => (getD_set_other nAB.symm).trans (getD_set_same lA)
  have e2 : ∀ gA gB, ({ a with tmps := (a.tmps.setIfInBounds dA (.pointer (some ⟨gA, 0, none⟩))).setIfInBounds dB (.pointer (some ⟨gB, 0, none⟩)) } : Act).eval (.tmp sA) = .agg csA := fun gA gB => (getD_set_other nB1).trans ((getD_set_other nA1).trans vA)
  have e3 : ∀ gA gB, ({ a with tmps := (a.tmps.setIfInBounds dA (.pointer (some ⟨gA, 0, none⟩))).setIfInBounds dB (.pointer (some ⟨gB, 0, none⟩)) } : Act).eval (.tmp dB) = .pointer (some ⟨gB, 0, none⟩) := fun gA gB => getD_set_same (by simpa using lB)
  have e4 : ∀ gA gB, ({ a with tmps := (a.tmps.setIfInBounds dA (.pointer (some ⟨gA, 0, none⟩))).setIfInBounds dB (.pointer (some ⟨gB, 0, none⟩)) } : Act).eval (.tmp sB) = .agg csB := fun gA gB => (getD_set_other nB2).trans ((getD_set_other nA2).trans vB)
  have both : ∀ gA gB W, TB T w W (some (gA, z)) (some (gB, z)) → wpAnyH P md ops Q S (fuel + 2) #[true, true, true, true, false, false] { a with tmps := (a.tmps.setIfInBounds dA (.pointer (some ⟨gA, 0, none⟩))).setIfInBounds dB (.pointer (some ⟨gB, 0, none⟩)) } W := by
    intro gA gB W hW
    refine wpAnyH_ready t4 (by simp) (AllReadyH.cons h4 (fun K hk => ?_) AllReadyH.nil)
    refine exec_store g4 d4 p4 (hW.A _ rfl).1 (e1 gA gB) (e2 gA gB) zA iA oneA (fun W' R M => ?_)
    have hW' := hW.storeA R M
    refine hk.out _ _ (hK _ hW'.M) (fun _ => ?_)
    refine wpAnyH_ready t5 (by simp) (AllReadyH.cons h5 (fun K hk => ?_) AllReadyH.nil)
    refine exec_store g5 d5 p5 (hW'.B _ rfl).1 (e3 gA gB) (e4 gA gB) zB iB oneB (fun W'' R M => ?_)
    have hW'' := (hW'.swap.storeA R M).swap
    exact hk.out _ _ (hK _ hW''.M) (fun _ => wpAnyH_done t6 (h _ _ _ hW'') _)
  refine wpAnyH_ready t1 (by simp) (AllReadyH.cons h2 (fun K hk => ?_) (AllReadyH.cons h3 (fun K hk => ?_) AllReadyH.nil))
  · refine exec_alloc g2 d2 r2 ?_
    have hW := (TB.start (T := T) w).allocA z
    refine hk.out _ _ (hK _ hW.M) (fun _ => ?_)
    refine wpAnyH_ready t2 (by simp) (AllReadyH.cons h3 (fun K hk => ?_) AllReadyH.nil)
    refine exec_alloc g3 d3 r3 ?_
    have hW2 := (hW.swap.allocA z).swap
    exact hk.out _ _ (hK _ hW2.M) (fun _ => both _ _ _ hW2)
  · refine exec_alloc g3 d3 r3 ?_
    have hW := ((TB.start (T := T) w).allocA z).swap
    refine hk.out _ _ (hK _ hW.M) (fun _ => ?_)
    refine wpAnyH_ready t3 (by simp) (AllReadyH.cons h2 (fun K hk => ?_) AllReadyH.nil)
    refine exec_alloc g2 d2 r2 ?_
    have hW2 := hW.allocA z
    refine hk.out _ _ (hK _ hW2.M) (fun _ => ?_)
    rw [comm]
    exact both _ _ _ hW2
end
end Go.Proofs.Ytijjkonephjodaa

namespace Go.Proofs.Ytijjkonephjodaa
open Go.RowKit

def nameL (s : ByteArray) : List Int := s.data.toList.map fun b => (b.toNat : Int)
theorem nameL_cells (s : ByteArray) : Lib.strCells s = u8s (nameL s) := by simp [Lib.strCells, u8s, nameL]
theorem nameL_length (s : ByteArray) : (nameL s).length = s.size := by rw [nameL, List.length_map, Array.length_toList]; rfl
theorem nameL_bytes (s : ByteArray) : ∀ x ∈ nameL s, 0 ≤ x ∧ x ≤ 255 := by
  intro x hx
  obtain ⟨b, _, rfl⟩ := List.mem_map.1 hx
  have : b.toNat < 256 := b.toNat_lt
  constructor <;> omega
def flagD (S : Sen) : Int := if S.host then 7 else 5
def headL (S : Sen) (f : Int) : List Int := [1, S.number, S.type, S.unit, S.eid, S.einst, f, S.name.size]
/-- The bytes of a discrete sensor, without the sum. -/
def bodyD (S : Sen) : List Int := headL S (flagD S) ++ nameL S.name ++ twoL [S.states, S.asrt, S.deas]
theorem bytes_of {A : List Int} (h : ∀ x ∈ A, 0 ≤ x ∧ x ≤ 255) : Bytes A := fun i => by
  rcases Nat.lt_or_ge i A.length with hi | hi
  · rw [List.getD_eq_getElem?_getD, List.getElem?_eq_getElem hi]; exact h _ (List.getElem_mem hi)
  · rw [List.getD_eq_getElem?_getD, List.getElem?_eq_none hi]; decide
theorem owns_down {w : World} {B B' size n : Nat} {e : TypeId} {v : Value} {xs : List Value} (h : w.ownsRow B e size v n xs) (hb : B' ≤ B) : w.ownsRow B' e size v n xs := by
  obtain ⟨hl, h⟩ := h
  refine ⟨hl, ?_⟩
  rcases h with h | ⟨g, cap, cur, hv, hg, r⟩
  · exact .inl h
  · exact .inr ⟨g, cap, cur, hv, by omega, r⟩
def EncOut (w : World) (A : List Int) (e : Ending) (w' : World) : Prop :=
  ∃ v', e = .returned (.tuple #[v', .int .i64 0]) ∧ w'.ownsRow w.heap.size 5 1 v' (u8s A).length (u8s A) ∧ Mods [] w w'
set_option maxRecDepth 100000 in
set_option maxHeartbeats 2000000 in
theorem encodeD_ok (w : World) (S : Sen) (P : List Pt) (hS : IsSen w S P) (hd : S.disc = true) (hv : validB S P = true) :
    Calls Try.prog 16 #[.agg S.cells] w fun e w' => EncOut w (seal8 (bodyD S)) e w' := by
  have hsm : S.samples = 1 ∧ S.name.size ≤ 16 := by
    unfold validB at hv
    rw [hd] at hv
    simp only [Bool.and_eq_true, if_true, discB, nameB, decide_eq_true_eq] at hv
    exact ⟨hv.2.1.2.1, hv.1.1.1.2⟩
  obtain ⟨hs1, hn16⟩ := hsm
  have HV := Lib.hid hv
  have HS := Lib.hid hS
  have b0 := hS.number
  have b1 := hS.type
  have b2 := hS.unit
  have b4 := hS.eid
  have b5 := hS.einst
  have b23 := hS.states
  have b24 := hS.asrt
  have b25 := hS.deas
  clear hS hv
  have BB := Lib.hid (SenBox.new w S)
  have M0 := Lib.hid ((Mods.refl (S := []) (w := w)).alloc (.cells S.cells 32))
  obtain ⟨i0, hi, hz0, hz1, hz2⟩ := info_parts Try.infoB
  go_enter Try.func16, Try.ntmps16
  go_wp2_with (refine wpList_load_sen rfl (.tmp 1) rfl BB.out (by rfl) ?_)
  refine (valid_ok _ S P (HS.out.mods0 M0.out)).mono ?_
  rw [HV.out]
  rintro e w2 ⟨rfl, M2⟩
  have B2 := BB.out.mods0 M2
  have HM := Lib.hid (M0.out.trans M2)
  have c27 : w2.cell? ⟨w.heap.size, 27, none⟩ = some (.int .i64 1) := by rw [B2.rest.2.2.2.2.2.2, hs1]
  have c6 : w2.cell? ⟨w.heap.size, 6, none⟩ = some (.bool true) := by rw [B2.head.2.2.2.2.2.2, hd]
  have c26 := B2.rest.2.2.2.2.2.1
  obtain ⟨c0, c1, c2, c3, c4, c5, _⟩ := B2.head
  obtain ⟨_, _, c23, c24, c25, _, _⟩ := B2.rest
  have HH := Lib.hid (B2.blk)
  clear B2 BB M0 M2 HV HS
  generalize hg : w.heap.size = g at c27 c6 c26 c0 c1 c2 c3 c4 c5 c23 c24 c25 HH ⊢
  have HG := Lib.hid hg
  clear hg
  have f1 : bits .or .u8 4 1 = 5 := by decide
  have f2 : bits .or .u8 5 2 = 7 := by decide
  have hnm : S.name.size ≤ 9223372036854775807 := by omega
  cases hh : S.host with
  | false =>
    rw [hh] at c26
    have HF := Lib.hid (show flagD S = 5 by unfold flagD; rw [hh]; rfl)
    clear hh
    have MA := (Mods.refl (S := []) (w := w2)).alloc (.cells #[.int .u8 1, .int .u8 (S.number : Int), .int .u8 (S.type : Int), .int .u8 (S.unit : Int), .int .u8 (S.eid : Int), .int .u8 (S.einst : Int), .int .u8 5, .int .u8 (S.name.size : Int)] 5)
    have ca3 := MA.cell c3 (by simp)
    go_wp2_with (at_builtin; refine Lib.wpList_append_own_string _ rfl (.tmp 41) (.tmp 43) 33 9 rfl w.heap.size 5 i0 Try.underlying33 Try.underlying9 hi hz0 hz1 hz2 _ 8 (u8s (headL S 5)) (by rfl) (World.ownsRow_lit w2 #[.int .u8 1, .int .u8 S.number, .int .u8 S.type, .int .u8 S.unit, .int .u8 S.eid, .int .u8 S.einst, .int .u8 5, .int .u8 S.name.size] 8 HM.out.size (by decide) rfl) S.name (by rfl) (by unfold maxLen; omega) (by omega) (by have := HM.out.size; simp; omega) ?_; intro v3 w3 O3 G3 _; have HM3 := Lib.hid ((HM.out.trans MA).grown G3 (fun q hq => .inr (by simp [Value.ownBlock] at hq; have := HM.out.size; omega))); have HH3 : Hid (w3.heap[g]? = some (.cells S.cells 32 (0, 0))) := Lib.hid ((Mods.of_grown G3).heap (MA.heap HH.out (by simp)) (by have := lt_of_block HH.out; simp [Value.ownBlock]; omega)); have q6 : w3.cell? ⟨g, 6, none⟩ = some (.bool true) := (by rw [cell_blk HH3.out]; rw [cell_blk HH.out] at c6; exact c6); have q23 : w3.cell? ⟨g, 23, none⟩ = some (.int .u16 S.states) := (by rw [cell_blk HH3.out]; rfl); have q24 : w3.cell? ⟨g, 24, none⟩ = some (.int .u16 S.asrt) := (by rw [cell_blk HH3.out]; rfl); have q25 : w3.cell? ⟨g, 25, none⟩ = some (.int .u16 S.deas) := (by rw [cell_blk HH3.out]; rfl); have O3 := Lib.hid O3; clear G3)
    have R4 := heap_alloc_new w3 (.cells #[.int .u16 (S.states : Int), .int .u16 (S.asrt : Int), .int .u16 (S.deas : Int)] 30)
    have M4 := (Mods.refl (S := []) (w := w3)).alloc (.cells #[.int .u16 (S.states : Int), .int .u16 (S.asrt : Int), .int .u16 (S.deas : Int)] 30)
    have O4 := M4.owns O3.out (by simp)
    have HM4 := Lib.hid (HM3.out.trans M4)
    generalize w3.alloc (.cells #[.int .u16 (S.states : Int), .int .u16 (S.asrt : Int), .int .u16 (S.deas : Int)] 30) = w4 at R4 O4 HM4 ⊢
    generalize w3.heap.size = gl at R4 ⊢
    have HRL : Rd w4 (.slice (some ⟨gl, 0, none⟩) 3 3) (u16s [S.states, S.asrt, S.deas]) := ⟨some ⟨gl, 0, none⟩, 3, rfl, Nat.le_refl _, by decide, fun i hi => ⟨gl, 0, rfl, by
      rw [cell_blk R4]
      match i, hi with
      | 0, _ | 1, _ | 2, _ => rfl⟩⟩
    have H16 : ∀ n ∈ [S.states, S.asrt, S.deas], n < 65536 := fun n hn => by simp at hn; rcases hn with rfl | rfl | rfl <;> assumption
    clear MA M4 R4 ca3 q6 q23 q24 q25 c27 c6 c26 c0 c1 c2 c3 c4 c5 c23 c24 c25 HH HH3 O3 HM3
    refine (two_ok w4 _ [S.states, S.asrt, S.deas] HRL H16 (by simp)).mono ?_
    rintro e w5 ⟨v5, rfl, O5, M5⟩
    have O45 := M5.owns O4 (by simp)
    have HM5 := Lib.hid (HM4.out.trans M5)
    have ht6 : (u8s (twoL [S.states, S.asrt, S.deas])).length = 6 := by rw [u8s_length, twoL_length]; rfl
    clear HRL O4 HM4 M5
    go_wp2_with (at_builtin; refine wpList_append_two (by rfl) (.tmp 47) (.tmp 55) 33 rfl w.heap.size 5 i0 (.int .u8 0) 1 Try.underlying33 hi hz0 hz1 hz2 rfl v3 _ _ (by rfl) O45 v5 _ _ _ _ (by rfl) O5 (one_u8s _) (by rw [ht6]; omega) (by omega) HM5.out.size ?_; intro v6 w6 O6 M6)
    have HM6 := Lib.hid (HM5.out.then_from M6 (Nat.le_refl _))
    have HE : (u8s (headL S 5) ++ Lib.strCells S.name) ++ u8s (twoL [S.states, S.asrt, S.deas]) = u8s (bodyD S) := by rw [nameL_cells, bodyD, HF.out]; simp [u8s]
    rw [HE] at O6
    have HB : Bytes (bodyD S) := bytes_of fun x hx => by
      rw [bodyD, HF.out, List.mem_append, List.mem_append] at hx
      rcases hx with (hx | hx) | hx
      · simp only [headL, List.mem_cons, List.mem_nil_iff, or_false] at hx
        rcases hx with rfl | rfl | rfl | rfl | rfl | rfl | rfl | rfl <;> constructor <;> omega
      · exact nameL_bytes _ x hx
      · exact twoL_bytes _ H16 x hx
    have hlen : (bodyD S).length ≤ 100000 := by rw [bodyD, List.length_append, List.length_append, nameL_length, twoL_length]; simp [headL]; omega
    have HR6 := Rd.own O6
    clear O45 O5 O6 M6 HE HM5
    refine (seal8_ok w6 v6 (bodyD S) HR6 HB hlen).mono ?_
    rintro e w7 ⟨v7, rfl, O7, M7⟩
    have HM7 := Lib.hid (HM6.out.trans M7)
    have O7 := Lib.hid (owns_down O7 HM6.out.size)
    clear M7 HR6
    go_wp2
    go_ret2
    exact ⟨_, rfl, O7.out, HM7.out⟩
  | true =>
    rw [hh] at c26
    have HF := Lib.hid (show flagD S = 7 by unfold flagD; rw [hh]; rfl)
    clear hh
    have MA := (Mods.refl (S := []) (w := w2)).alloc (.cells #[.int .u8 1, .int .u8 (S.number : Int), .int .u8 (S.type : Int), .int .u8 (S.unit : Int), .int .u8 (S.eid : Int), .int .u8 (S.einst : Int), .int .u8 7, .int .u8 (S.name.size : Int)] 5)
    have ca3 := MA.cell c3 (by simp)
    go_wp2_with (at_builtin; refine Lib.wpList_append_own_string _ rfl (.tmp 41) (.tmp 43) 33 9 rfl w.heap.size 5 i0 Try.underlying33 Try.underlying9 hi hz0 hz1 hz2 _ 8 (u8s (headL S 7)) (by rfl) (World.ownsRow_lit w2 #[.int .u8 1, .int .u8 S.number, .int .u8 S.type, .int .u8 S.unit, .int .u8 S.eid, .int .u8 S.einst, .int .u8 7, .int .u8 S.name.size] 8 HM.out.size (by decide) rfl) S.name (by rfl) (by unfold maxLen; omega) (by omega) (by have := HM.out.size; simp; omega) ?_; intro v3 w3 O3 G3 _; have HM3 := Lib.hid ((HM.out.trans MA).grown G3 (fun q hq => .inr (by simp [Value.ownBlock] at hq; have := HM.out.size; omega))); have HH3 : Hid (w3.heap[g]? = some (.cells S.cells 32 (0, 0))) := Lib.hid ((Mods.of_grown G3).heap (MA.heap HH.out (by simp)) (by have := lt_of_block HH.out; simp [Value.ownBlock]; omega)); have q6 : w3.cell? ⟨g, 6, none⟩ = some (.bool true) := (by rw [cell_blk HH3.out]; rw [cell_blk HH.out] at c6; exact c6); have q23 : w3.cell? ⟨g, 23, none⟩ = some (.int .u16 S.states) := (by rw [cell_blk HH3.out]; rfl); have q24 : w3.cell? ⟨g, 24, none⟩ = some (.int .u16 S.asrt) := (by rw [cell_blk HH3.out]; rfl); have q25 : w3.cell? ⟨g, 25, none⟩ = some (.int .u16 S.deas) := (by rw [cell_blk HH3.out]; rfl); have O3 := Lib.hid O3; clear G3)
    have R4 := heap_alloc_new w3 (.cells #[.int .u16 (S.states : Int), .int .u16 (S.asrt : Int), .int .u16 (S.deas : Int)] 30)
    have M4 := (Mods.refl (S := []) (w := w3)).alloc (.cells #[.int .u16 (S.states : Int), .int .u16 (S.asrt : Int), .int .u16 (S.deas : Int)] 30)
    have O4 := M4.owns O3.out (by simp)
    have HM4 := Lib.hid (HM3.out.trans M4)
    generalize w3.alloc (.cells #[.int .u16 (S.states : Int), .int .u16 (S.asrt : Int), .int .u16 (S.deas : Int)] 30) = w4 at R4 O4 HM4 ⊢
    generalize w3.heap.size = gl at R4 ⊢
    have HRL : Rd w4 (.slice (some ⟨gl, 0, none⟩) 3 3) (u16s [S.states, S.asrt, S.deas]) := ⟨some ⟨gl, 0, none⟩, 3, rfl, Nat.le_refl _, by decide, fun i hi => ⟨gl, 0, rfl, by
      rw [cell_blk R4]
      match i, hi with
      | 0, _ | 1, _ | 2, _ => rfl⟩⟩
    have H16 : ∀ n ∈ [S.states, S.asrt, S.deas], n < 65536 := fun n hn => by simp at hn; rcases hn with rfl | rfl | rfl <;> assumption
    clear MA M4 R4 ca3 q6 q23 q24 q25 c27 c6 c26 c0 c1 c2 c3 c4 c5 c23 c24 c25 HH HH3 O3 HM3
    refine (two_ok w4 _ [S.states, S.asrt, S.deas] HRL H16 (by simp)).mono ?_
    rintro e w5 ⟨v5, rfl, O5, M5⟩
    have O45 := M5.owns O4 (by simp)
    have HM5 := Lib.hid (HM4.out.trans M5)
    have ht6 : (u8s (twoL [S.states, S.asrt, S.deas])).length = 6 := by rw [u8s_length, twoL_length]; rfl
    clear HRL O4 HM4 M5
    go_wp2_with (at_builtin; refine wpList_append_two (by rfl) (.tmp 47) (.tmp 55) 33 rfl w.heap.size 5 i0 (.int .u8 0) 1 Try.underlying33 hi hz0 hz1 hz2 rfl v3 _ _ (by rfl) O45 v5 _ _ _ _ (by rfl) O5 (one_u8s _) (by rw [ht6]; omega) (by omega) HM5.out.size ?_; intro v6 w6 O6 M6)
    have HM6 := Lib.hid (HM5.out.then_from M6 (Nat.le_refl _))
    have HE : (u8s (headL S 7) ++ Lib.strCells S.name) ++ u8s (twoL [S.states, S.asrt, S.deas]) = u8s (bodyD S) := by rw [nameL_cells, bodyD, HF.out]; simp [u8s]
    rw [HE] at O6
    have HB : Bytes (bodyD S) := bytes_of fun x hx => by
      rw [bodyD, HF.out, List.mem_append, List.mem_append] at hx
      rcases hx with (hx | hx) | hx
      · simp only [headL, List.mem_cons, List.mem_nil_iff, or_false] at hx
        rcases hx with rfl | rfl | rfl | rfl | rfl | rfl | rfl | rfl <;> constructor <;> omega
      · exact nameL_bytes _ x hx
      · exact twoL_bytes _ H16 x hx
    have hlen : (bodyD S).length ≤ 100000 := by rw [bodyD, List.length_append, List.length_append, nameL_length, twoL_length]; simp [headL]; omega
    have HR6 := Rd.own O6
    clear O45 O5 O6 M6 HE HM5
    refine (seal8_ok w6 v6 (bodyD S) HR6 HB hlen).mono ?_
    rintro e w7 ⟨v7, rfl, O7, M7⟩
    have HM7 := Lib.hid (HM6.out.trans M7)
    have O7 := Lib.hid (owns_down O7 HM6.out.size)
    clear M7 HR6
    go_wp2
    go_ret2
    exact ⟨_, rfl, O7.out, HM7.out⟩
end Go.Proofs.Ytijjkonephjodaa

namespace Go.Proofs.Ytijjkonephjodaa
open Go.RowKit

/-- Bytes of the call's own, in a block from B on. -/
def OwnB (w : World) (B : Nat) (v : Value) (A : List Int) : Prop := w.ownsRow B 5 1 v (u8s A).length (u8s A)
section
variable {w W : World} {B B' : Nat} {v : Value} {A : List Int} {S : List Nat}
theorem OwnB.nil (w : World) (B : Nat) : OwnB w B (.slice none 0 0) [] := World.ownsRow_nil _ _ _ _
theorem OwnB.rd (h : OwnB w B v A) : Rd w v (u8s A) := Rd.own h
theorem OwnB.lt (h : OwnB w B v A) : ∀ k, v.ownBlock = some k → B ≤ k ∧ k < w.heap.size := fun k hk => World.ownsRow.lt h k hk
theorem OwnB.mods (h : OwnB w B v A) (M : Mods S w W) (hS : ∀ k, v.ownBlock = some k → k ∉ S) : OwnB W B v A := M.owns h hS
theorem OwnB.mods0 (h : OwnB w B v A) (M : Mods [] w W) : OwnB W B v A := h.mods M (by simp)
theorem OwnB.down (h : OwnB w B v A) (hb : B' ≤ B) : OwnB w B' v A := owns_down h hb
theorem OwnB.lit (w : World) {B : Nat} (hB : B ≤ w.heap.size) (A : List Int) (hA : A.length ≤ maxLen) : OwnB (w.alloc (.cells (u8s A).toArray 5)) B (.slice (some ⟨w.heap.size, 0, none⟩) A.length A.length) A := by
  have := World.ownsRow_lit (base := B) (size := 1) (e := 5) w (u8s A).toArray A.length hB hA (by simp [u8s_length])
  unfold OwnB
  rw [u8s_length]
  exact this
theorem OwnB.apart {w : World} {B : Nat} {v : Value} {A : List Int} (h : OwnB w B v A) {g : Nat} {c : Array Value} {T : TypeId} {fr : Nat × Nat} (R : w.heap[g]? = some (.cells c T fr)) (hT : T ≠ 5) : g ∉ v.ownBlock.toList := fun hm => by
  rcases h.2 with ⟨rfl, _⟩ | ⟨g', cap, cur, rfl, _, hg, _⟩
  · simp [Value.ownBlock] at hm
  · simp [Value.ownBlock] at hm
    subst hm
    rw [R] at hg
    injection hg with hg
    injection hg with _ h2 _
    exact hT h2
theorem OwnB.back {w : World} {B : Nat} {v : Value} {A : List Int} (h : OwnB w B v A) {k : Nat} (hk : k ∈ v.ownBlock.toList) : B ≤ k := (h.lt k (by simpa using hk)).1
end
section
variable {ops : Array Oper} {Q : Exit → Act → World → Prop} {S : World → Prop} {md : Region.Mode}
theorem step_appB {o : Oper} {a : Act} {w : World} {K : Act → World → Prop} {E : Prop} (hw : Region.wanted o (yielded ops a.tmps) = true) (s x : Operand)
    (ho : o.op = .call { callee := .builtin .append, args := #[s, x], argTypes := #[33, 33] })
    {B : Nat} {v : Value} {A : List Int} (hs : a.eval s = v) (hown : OwnB w B v A) {vx : Value} {X : List Int} (hx : a.eval x = vx) (hX : Rd w vx (u8s X))
    (hn : A.length + X.length ≤ 1000000) (hB : B ≤ w.heap.size)
    (h : ∀ v' w', OwnB w' B v' (A ++ X) → Mods v.ownBlock.toList w w' → K (a.put o.dst v') w') :
    if Region.wanted o (yielded ops a.tmps) = true then Oper.wp Try.prog o a w K Q else E := by
  obtain ⟨i0, hi, hz0, hz1, hz2⟩ := info_parts Try.infoB
  rw [if_pos hw]
  obtain ⟨ad, cap, he, hc1, hc2, hc⟩ := hX
  rw [u8s_length] at he hc1 hc
  subst he
  cases ad with
  | none =>
    have hX0 : X = [] := by
      cases X with
      | nil => rfl
      | cons y l => obtain ⟨b, off, h0, _⟩ := hc 0 (by simp); cases h0
    subst hX0
    have hrun : ∀ ty, (Builtin.append_ #[33, 33] ty #[v, .slice none 0 cap]).run Try.prog w = .ok v w := by
      intro ty
      rcases hown.2 with ⟨rfl, _⟩ | ⟨g, cp, cur, rfl, _, _, hnc, _⟩
      · simp [Builtin.append_, run_underlying Try.underlying33, sizeOf, typeInfo, hi, Builtin.lenOf, Builtin.firstCells]
      · simp [Builtin.append_, run_underlying Try.underlying33, sizeOf, typeInfo, hi, Builtin.lenOf, Builtin.firstCells, hnc, storeCells]
    unfold Oper.wp
    simp [execOp, ho, resolve, invoke, builtin, hs, hx, hrun, Result.andThen]
    exact h v w (by rw [List.append_nil]; exact hown) Mods.refl
  | some ad =>
    refine wp_append_own w s x _ ho B 5 i0 _ 1 1 Try.underlying33 hi hz0 hz1 hz2 rfl (by decide) v _ (u8s A) hs hown ad X.length cap (u8s X) hx (by rw [u8s_length, Nat.mul_one]) ?_ (one_u8s X) (by rw [u8s_length]; unfold maxLen; omega) (by rw [u8s_length]; omega) hB ?_
    · intro j u hj
      have hjl : j < X.length := by rcases Nat.lt_or_ge j X.length with hl | hl; exact hl; rw [List.getElem?_eq_none (by rw [u8s_length]; exact hl)] at hj; cases hj
      obtain ⟨b, off, he, _⟩ := hc j hjl
      cases he
      exact rd_news (fun i hi => by
        obtain ⟨b', off', he', hc'⟩ := hc i (by rw [u8s_length] at hi; exact hi)
        cases he'
        exact hc') j u hj
    · intro v' w' h1 h2 _
      refine h v' w' ?_ (Mods.of_grown h2)
      unfold OwnB
      have e : u8s (A ++ X) = u8s A ++ u8s X := by simp [u8s]
      rw [e, List.length_append, u8s_length X]
      exact h1
theorem step_appD {o : Oper} {a : Act} {w : World} {K : Act → World → Prop} {E : Prop} (hw : Region.wanted o (yielded ops a.tmps) = true) (d : Nat) (hd : o.dst = some d) (s x : Operand)
    (ho : o.op = .call { callee := .builtin .append, args := #[s, x], argTypes := #[33, 33] })
    {B : Nat} {v : Value} {A : List Int} (hs : a.eval s = v) (hown : OwnB w B v A) {vx : Value} {X : List Int} (hx : a.eval x = vx) (hX : Rd w vx (u8s X))
    (hn : A.length + X.length ≤ 1000000) (hB : B ≤ w.heap.size)
    (h : ∀ v' w', OwnB w' B v' (A ++ X) → Mods v.ownBlock.toList w w' → K { a with tmps := a.tmps.setIfInBounds d v' } w') :
    if Region.wanted o (yielded ops a.tmps) = true then Oper.wp Try.prog o a w K Q else E :=
  step_appB hw s x ho hs hown hx hX hn hB fun v' w' h1 h2 => by unfold Act.put; rw [hd]; exact h v' w' h1 h2
theorem wpList_appB {rest : List Oper} {o : Oper} {a : Act} {w : World} (hw : Region.wanted o (yielded ops a.tmps) = true) (s x : Operand)
    (ho : o.op = .call { callee := .builtin .append, args := #[s, x], argTypes := #[33, 33] })
    {B : Nat} {v : Value} {A : List Int} (hs : a.eval s = v) (hown : OwnB w B v A) {vx : Value} {X : List Int} (hx : a.eval x = vx) (hX : Rd w vx (u8s X))
    (hn : A.length + X.length ≤ 1000000) (hB : B ≤ w.heap.size)
    (h : ∀ v' w', OwnB w' B v' (A ++ X) → Mods v.ownBlock.toList w w' → wpList Try.prog ops Q rest (a.put o.dst v') w') : wpList Try.prog ops Q (o :: rest) a w :=
  wpList_step fun _ hK => step_appB hw s x ho hs hown hx hX hn hB fun v' w' h1 h2 => hK _ _ (h v' w' h1 h2)
theorem exec_value {P : Program} {o : Oper} {a : Act} {w w' : World} {K : Act → World → Prop} {E : Prop} (hgd : o.guard = none) {d : Nat} (hd : o.dst = some d) {u : Value}
    (hr : (execOp a.eval o).run P w = .ok (.value u) w') (h : K { a with tmps := a.tmps.setIfInBounds d u } w') : if Region.wanted o (yielded ops a.tmps) = true then Oper.wp P o a w K Q else E := by
  rw [if_pos (by simp [Region.wanted, hgd])]
  unfold Oper.wp
  rw [hr, Oper.upon_value]
  unfold Act.put
  rw [hd]
  exact h
/-- append(append(s, x...), literal..): the literal's block may be laid ahead of the first append. -/
theorem appLit {a : Act} {w : World} {oA oL oB : Oper} {iA iL iB dA dL dB sA sX : Nat} {l0 : Array Bool} {fuel : Nat} {B : Nat} {v vx : Value} {A X X2 : List Int}
    (hA : ops[iA]? = some oA) (hL : ops[iL]? = some oL) (hB : ops[iB]? = some oB) (gA : oA.guard = none) (gL : oL.guard = none) (gB : oB.guard = none)
    (eA : oA.dst = some dA) (eL : oL.dst = some dL) (eB : oB.dst = some dB)
    (pA : oA.op = .call { callee := .builtin .append, args := #[.tmp sA, .tmp sX], argTypes := #[33, 33] })
    (pB : oB.op = .call { callee := .builtin .append, args := #[.tmp dA, .tmp dL], argTypes := #[33, 33] })
    (rL0 : ∀ w, (execOp a.eval oL).run Try.prog w = .ok (.value (.slice (some ⟨w.heap.size, 0, none⟩) X2.length X2.length)) (w.alloc (.cells (u8s X2).toArray 5)))
    (rL1 : ∀ (u : Value) w, (execOp ({ a with tmps := a.tmps.setIfInBounds dA u } : Act).eval oL).run Try.prog w = .ok (.value (.slice (some ⟨w.heap.size, 0, none⟩) X2.length X2.length)) (w.alloc (.cells (u8s X2).toArray 5)))
    (t1 : Region.ready md ops l0 = [iA, iL]) (t2 : Region.ready md ops (l0.setIfInBounds iA true) = [iL]) (t3 : Region.ready md ops (l0.setIfInBounds iL true) = [iA]) (t4 : Region.ready md ops ((l0.setIfInBounds iA true).setIfInBounds iL true) = [iB])
    (nI : iA ≠ iL) (nAL : dA ≠ dL) (nA1 : dL ≠ sA) (nA2 : dL ≠ sX) (lA : dA < a.tmps.size) (lL : dL < a.tmps.size)
    (vA : a.tmps.getD sA undef = v) (own : OwnB w B v A) (vX : a.tmps.getD sX undef = vx) (hX : Rd w vx (u8s X)) (hn : A.length + X.length + X2.length ≤ 1000000) (hBw : B ≤ w.heap.size)
    (hK : ∀ w', Mods (from_ B w) w w' → S w')
    (h : ∀ v1 g v3 W, OwnB W B v3 (A ++ X ++ X2) → Mods (from_ B w) w W → wpAnyH Try.prog md ops Q S fuel (((l0.setIfInBounds iA true).setIfInBounds iL true).setIfInBounds iB true) { a with tmps := ((a.tmps.setIfInBounds dA v1).setIfInBounds dL (.slice (some ⟨g, 0, none⟩) X2.length X2.length)).setIfInBounds dB v3 } W) :
    wpAnyH Try.prog md ops Q S (fuel + 3) l0 a w := by
  have hf : ∀ {w1 : World} {v : Value} {A : List Int} {W : World}, OwnB w1 B v A → Mods v.ownBlock.toList w1 W → Mods (from_ B w) w w1 → Mods (from_ B w) w W := fun {w1} {v} {A} {W} h1 h2 h3 => h3.comp h2 fun k hk => by
    rcases Nat.lt_or_ge k w.heap.size with hl | hl
    · left
      have := h1.back hk
      simp [from_, List.mem_range']
      exact ⟨k - B, by omega, by omega⟩
    · exact .inr hl
  have last : ∀ v1 g W, OwnB W B v1 (A ++ X) → Rd W (.slice (some ⟨g, 0, none⟩) X2.length X2.length) (u8s X2) → Mods (from_ B w) w W → wpAnyH Try.prog md ops Q S (fuel + 1) ((l0.setIfInBounds iA true).setIfInBounds iL true) { a with tmps := (a.tmps.setIfInBounds dA v1).setIfInBounds dL (.slice (some ⟨g, 0, none⟩) X2.length X2.length) } W := by
    intro v1 g W O R M
    refine wpAnyH_ready t4 (by simp) (AllReadyH.cons hB (fun _ hk => ?_) AllReadyH.nil)
    refine step_appB (by simp [Region.wanted, gB]) _ _ pB ((getD_set_other nAL.symm).trans (getD_set_same lA)) O (getD_set_same (by simpa using lL)) R (by rw [List.length_append]; omega) (Nat.le_trans hBw M.size) (fun v3 W3 O3 M3 => ?_)
    have M3 := hf O M3 M
    unfold Act.put
    rw [eB]
    exact hk.out _ _ (hK _ M3) (fun _ => h _ _ _ _ O3 M3)
  refine wpAnyH_ready t1 (by simp) (AllReadyH.cons hA (fun _ hk => ?_) (AllReadyH.cons hL (fun _ hk => ?_) AllReadyH.nil))
  · refine step_appB (by simp [Region.wanted, gA]) _ _ pA vA own vX hX (by omega) hBw (fun v1 W1 O1 M1 => ?_)
    have M1 := hf own M1 Mods.refl
    unfold Act.put
    rw [eA]
    refine hk.out _ _ (hK _ M1) (fun _ => ?_)
    refine wpAnyH_ready t2 (by simp) (AllReadyH.cons hL (fun _ hk => ?_) AllReadyH.nil)
    refine exec_value gL eL (rL1 v1 W1) ?_
    exact hk.out _ _ (hK _ (M1.alloc _)) (fun _ => last _ _ _ (O1.mods0 (Mods.refl.alloc _)) (OwnB.lit W1 (Nat.le_refl _) X2 (by unfold maxLen; omega)).rd (M1.alloc _))
  · refine exec_value gL eL (rL0 w) ?_
    have ML := (Mods.refl (S := from_ B w) (w := w)).alloc (.cells (u8s X2).toArray 5)
    have ML0 := (Mods.refl (S := []) (w := w)).alloc (.cells (u8s X2).toArray 5)
    refine hk.out _ _ (hK _ ML) (fun _ => ?_)
    refine wpAnyH_ready t3 (by simp) (AllReadyH.cons hA (fun _ hk => ?_) AllReadyH.nil)
    refine step_appB (by simp [Region.wanted, gA]) _ _ pA ((getD_set_other nA1).trans vA) (own.mods0 ML0) ((getD_set_other nA2).trans vX) (hX.mods0 ML0) (by omega) (Nat.le_trans hBw ML.size) (fun v1 W1 O1 M1 => ?_)
    have R := ((OwnB.lit w (Nat.le_refl _) X2 (by unfold maxLen; omega)).mods M1 (fun k hk => by
      simp [Value.ownBlock] at hk
      intro hm
      have := (own.lt k (by simpa using hm)).2
      omega)).rd
    have M1 := hf (own.mods0 ML0) M1 ML
    unfold Act.put
    rw [eA]
    refine hk.out _ _ (hK _ M1) (fun _ => ?_)
    dsimp only
    rw [Array.setIfInBounds_comm _ _ nAL.symm, Array.setIfInBounds_comm _ _ nI.symm]
    exact last _ _ _ O1 R M1
end
end Go.Proofs.Ytijjkonephjodaa
