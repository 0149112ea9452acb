/- Points of a conversion in a row of the call's own; conversions made. -/
import Derived.Test.YtijjkonephjodaaThs
namespace Go.Proofs.Ytijjkonephjodaa
open Go.RowKit

def ptsCells (P : List Pt) : List Value := P.flatMap fun p => [.int .u8 p.raw, .int .i64 p.val]
theorem ptsCells_length (P : List Pt) : (ptsCells P).length = P.length * 2 := by
  induction P with
  | nil => rfl
  | cons p P ih => simp only [ptsCells, List.flatMap_cons, List.length_append, List.length_cons, List.length_nil] at ih ⊢; omega
theorem ptsCells_snoc (P : List Pt) (p : Pt) : ptsCells (P ++ [p]) = ptsCells P ++ [.int .u8 p.raw, .int .i64 p.val] := by simp [ptsCells]
theorem ptsCells_get (P : List Pt) : ∀ i, i < P.length → (ptsCells P)[i * 2]? = some (.int .u8 (P.getD i default).raw) ∧ (ptsCells P)[i * 2 + 1]? = some (.int .i64 (P.getD i default).val) := by
  induction P with
  | nil => intro i hi; simp at hi
  | cons p P ih =>
    intro i hi
    match i with
    | 0 => exact ⟨rfl, rfl⟩
    | i + 1 =>
      have := ih i (by simpa using hi)
      have e : ptsCells (p :: P) = .int .u8 p.raw :: .int .i64 p.val :: ptsCells P := rfl
      rw [e, show (i + 1) * 2 = i * 2 + 1 + 1 by omega]
      simpa [List.getD_cons_succ] using this
/-- The slice v is the call's own from block B on and holds the points P. -/
def OwnPts (w : World) (B : Nat) (v : Value) (P : List Pt) : Prop := w.ownsRow B 115 2 v P.length (ptsCells P)
theorem OwnPts.rd {w : World} {B : Nat} {v : Value} {P : List Pt} (h : OwnPts w B v P) : RdPts w v P := by
  obtain ⟨hl, h⟩ := h
  rcases h with ⟨rfl, h0⟩ | ⟨g, cap, cur, rfl, _, hg, h1, h2, h3, h4⟩
  · have : P = [] := List.eq_nil_of_length_eq_zero h0
    subst this
    exact RdPts.nil w
  · refine ⟨_, cap, rfl, h1, h2, fun i hi => ⟨g, 0, rfl, ?_⟩⟩
    have ⟨a, b⟩ := ptsCells_get P i hi
    rw [cell_blk hg, cell_blk hg]
    rw [← h4] at a b
    rw [List.getElem?_take, if_pos (by omega)] at a b
    constructor
    · rw [← a]; simp
    · rw [← b, show 0 + i * 2 + 1 = i * 2 + 1 by omega]; simp
theorem OwnPts.mods {S : List Nat} {w w' : World} {B : Nat} {v : Value} {P : List Pt} (h : OwnPts w B v P) (hm : Mods S w w') (hS : ∀ k ∈ S, k < B) : OwnPts w' B v P :=
  hm.owns h fun k hk hk2 => by have := (World.ownsRow.lt h k hk).1; have := hS k hk2; omega
theorem OwnPts.own {w : World} {B : Nat} {v : Value} {P : List Pt} (h : OwnPts w B v P) : ∀ k, v.ownBlock = some k → B ≤ k ∧ k < w.heap.size := fun k hk => ⟨(World.ownsRow.lt h k hk).1, (World.ownsRow.lt h k hk).2⟩
theorem OwnPts.form {w : World} {B : Nat} {v : Value} {P : List Pt} (h : OwnPts w B v P) (hl : 0 < P.length) : ∃ g cap, v = .slice (some ⟨g, 0, none⟩) P.length cap := by
  obtain ⟨g, cap, _, rfl, _⟩ := owns_form h hl
  exact ⟨g, cap, rfl⟩
theorem OwnPts.down {w : World} {B B' : Nat} {v : Value} {P : List Pt} (h : OwnPts w B v P) (hB : B' ≤ B) : OwnPts w B' v P := by
  obtain ⟨hl, h⟩ := h
  refine ⟨hl, ?_⟩
  rcases h with h | ⟨g, cap, cur, hv, hg, rest⟩
  · exact .inl h
  · exact .inr ⟨g, cap, cur, hv, by omega, rest⟩
theorem OwnPts.nil (w : World) (B : Nat) : OwnPts w B (.slice none 0 0) [] := World.ownsRow_nil _ _ _ _
theorem Try.infoP : (Try.prog.info? 115).map (fun i => (i.zero, i.size, i.bytes)) = some (some (.agg #[.int .u8 0, .int .i64 0]), 2, 16) := by kernel_rfl
/-- append of one point within a region that draws its order. -/
theorem step_pushP {ops : Array Oper} {o : Oper} {a : Act} {w : World} {K : Act → World → Prop} {Q : Exit → Act → World → Prop} {E : Prop} (hgd : o.guard = none) (s x : Operand)
    (ho : o.op = .call { callee := .builtin .append, args := #[s, x], argTypes := #[24, 24] })
    (B : Nat) (v : Value) (P : List Pt) (hs : a.eval s = v) (hown : OwnPts w B v P) (g : Nat) (p : Pt) (T : TypeId) (fr : Nat × Nat) (hg : w.heap[g]? = some (.cells #[.int .u8 p.raw, .int .i64 p.val] T fr)) (hx : a.eval x = .slice (some ⟨g, 0, none⟩) 1 1)
    (hn : P.length ≤ 1000000) (hbase : B ≤ w.heap.size)
    (h : ∀ v' w', OwnPts w' B v' (P ++ [p]) → Mods (from_ B w) w w' → K (a.put o.dst v') w') :
    if Region.wanted o (yielded ops a.tmps) = true then Oper.wp Try.prog o a w K Q else E := by
  obtain ⟨i0, hi, hz0, hz1, hz2⟩ := info_parts Try.infoP
  refine step_append_lies _ hgd s x _ ho B 115 i0 _ 2 16 Try.underlying24 hi hz0 hz1 hz2 rfl (by decide) v P.length (ptsCells P) hs hown ⟨g, 0, none⟩ 1 1 [.int .u8 p.raw, .int .i64 p.val] hx rfl ?_ (by intro u hu; simp at hu; rcases hu with rfl | rfl <;> rfl) (by decide) (by unfold maxLen; omega) (by omega) hbase w.heap.size rfl ?_
  · intro j u hj
    exact World.news_of_block (cs := #[.int .u8 p.raw, .int .i64 p.val]) (t := T) (fr := fr) hg j u hj
  · intro g' cap w' h1 h2 _ _
    refine h _ _ ?_ (Mods.of_from ((Below.refl B w).grown h2 hbase fun k hk => (World.ownsRow.lt hown k hk).1))
    unfold OwnPts
    rw [ptsCells_snoc, List.length_append]
    exact h1
/-- A table under way: its points are in order, and the next number is x. -/
structure TabIn (sgn : Bool) (P : List Pt) (x : Int) : Prop where
  x0 : leastI sgn ≤ x
  x1 : x ≤ leastI sgn + 39 + 18 * P.length
  raw : ∀ i, (P.getD i default).raw < 256
  val : ∀ i, -1000000000000 ≤ (P.getD i default).val ∧ (P.getD i default).val ≤ 1000000000000
  pt : ∀ i, i < P.length → ptB sgn P i = true
  last : 0 < P.length → numI sgn (P.getD (P.length - 1) default).raw < x
theorem TabIn.start {sgn : Bool} {x : Int} (h0 : leastI sgn ≤ x) (h1 : x ≤ leastI sgn + 39) : TabIn sgn [] x :=
  ⟨h0, by simp; omega, fun i => by simp [default], fun i => by simp [default], fun i hi => by simp at hi, fun h => by simp at h⟩
theorem getD_snoc (P : List Pt) (p : Pt) (i : Nat) : (P ++ [p]).getD i default = if i < P.length then P.getD i default else if i = P.length then p else default := by
  rcases Nat.lt_trichotomy i P.length with h | h | h
  · rw [if_pos h]; simp [List.getD_eq_getElem?_getD, List.getElem?_append_left h]
  · subst h; simp [List.getD_eq_getElem?_getD]
  · rw [if_neg (by omega), if_neg (by omega)]; simp [List.getD_eq_getElem?_getD]; rw [List.getElem?_eq_none (by simp; omega)]; rfl
theorem TabIn.push {sgn : Bool} {P : List Pt} {x d val : Int} (h : TabIn sgn P x) (hl : P.length ≤ 11) (hv : -1000000000000 ≤ val ∧ val ≤ 1000000000000) (d0 : 1 ≤ d) (d1 : d ≤ 18) : TabIn sgn (P ++ [⟨rawI x, val⟩]) (x + d) := by
  have hx0 := h.x0
  have hx1 := h.x1
  have hnum : numI sgn (rawI x) = x := num_raw hx0 (by omega)
  have hlt := rawI_lt x
  refine ⟨by omega, by simp; omega, fun i => ?_, fun i => ?_, fun i hi => ?_, fun _ => ?_⟩
  · rw [getD_snoc]; split
    · exact h.raw i
    · split
      · exact hlt
      · simp [default]
  · rw [getD_snoc]; split
    · exact h.val i
    · split
      · exact hv
      · simp [default]
  · simp at hi
    unfold ptB
    rw [getD_snoc, getD_snoc]
    rcases Nat.lt_or_ge i P.length with hi2 | hi2
    · rw [if_pos hi2, if_pos (show i - 1 < P.length by omega)]
      exact h.pt i hi2
    · obtain rfl : i = P.length := by omega
      rw [if_neg (by omega), if_pos rfl, decide_eq_true hv, Bool.true_and, Bool.or_eq_true]
      by_cases h0 : P.length = 0
      · exact .inl (by simpa using h0)
      · refine .inr ?_
        rw [if_pos (by omega), decide_eq_true_eq]
        have := h.last (by omega)
        simp only [hnum]
        exact this
  · rw [List.length_append, show P.length + [(⟨rawI x, val⟩ : Pt)].length - 1 = P.length from rfl, getD_snoc, if_neg (by omega), if_pos rfl]
    show numI sgn (rawI x) < _
    omega
theorem TabIn.tab {sgn : Bool} {P : List Pt} {x : Int} (h : TabIn sgn P x) (h2 : 2 ≤ P.length) (h12 : P.length ≤ 12) : tableB sgn P = true := by
  unfold tableB
  rw [decide_eq_true ⟨h2, h12⟩, Bool.true_and, List.all_eq_true]
  exact fun i hi => h.pt i (List.mem_range.1 hi)
theorem TabIn.ok {sgn : Bool} {P : List Pt} {x : Int} (h : TabIn sgn P x) (h12 : P.length ≤ 1000) : PtsOk P :=
  ⟨h12, h.raw, fun i => by have := h.val i; constructor <;> omega⟩
theorem PtsOk.nil : PtsOk [] := ⟨by simp, fun i => by simp [default], fun i => by simp [default, I64]⟩
/-- A conversion of the dice. -/
def MadeConv (w : World) (b : Nat) (v : Value) (L : List Int) (e : Ending) (w' : World) : Prop :=
  ∃ (C : Conv) (P : List Pt) (n : Nat), e = .returned (.agg C.cells) ∧ IsConv w' C P ∧ convB C P = true ∧ OwnPts w' w.heap.size C.pts P ∧ P.length ≤ 12 ∧ IsDice w' b v L n ∧ Mods [b] w w'
end Go.Proofs.Ytijjkonephjodaa
