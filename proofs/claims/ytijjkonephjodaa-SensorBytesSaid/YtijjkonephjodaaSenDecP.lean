/- What sensor.Decode gives, in a world; small laws for its contracts. -/
import Derived.Test.YtijjkonephjodaaSenBack
import Derived.Test.YtijjkonephjodaaRefSeal
import Derived.Test.YtijjkonephjodaaHeldRow
import Derived.Test.YtijjkonephjodaaEnA
import Derived.Test.YtijjkonephjodaaBkx
import Derived.Test.YtijjkonephjodaaMadeSenP
namespace Go.Proofs.Ytijjkonephjodaa
open Go.RowKit

/-- What Decode of a record's bytes gives. -/
def SDecRes (w : World) (A : List Int) (e : Ending) (w' : World) : Prop :=
  if errS A = 0 then ∃ pv, e = .returned (.tuple #[.agg (senX A.dropLast pv).cells, .int .i64 0]) ∧ OwnPts w' w.heap.size pv (ptsX A.dropLast) ∧ Mods [] w w'
  else e = .returned (.tuple #[.agg zS.cells, .int .i64 (errS A)]) ∧ Mods [] w w'
theorem zS_one : zS.cells.all (·.oneCell') = true := Sen.one _ rfl
theorem strOf_nums (l : List Int) : strOf l = strOfNums l := by
  unfold strOf strOfNums
  rw [foldl_push_bytes]
  simp [ByteArray.empty, ByteArray.emptyWithCapacity]
  rfl
theorem and1_u8 (x : Nat) (h : x < 256) : (bits .and .u8 (x : Int) 1 != 0) = decide ((x : Int) % 2 = 1) := by
  have e := u8_and_nat x 1 h (by omega)
  rw [show ((1 : Nat) : Int) = 1 from rfl] at e
  rw [e, Nat.and_one_is_mod, Bool.eq_iff_iff]
  simp
  omega
theorem and2_tab : ∀ a, a < 256 → a &&& 2 = 2 * (a / 2 % 2) := by decide +kernel
theorem and2_u8 (x : Nat) (h : x < 256) : (bits .and .u8 (x : Int) 2 != 0) = decide ((x : Int) / 2 % 2 = 1) := by
  have e := u8_and_nat x 2 h (by omega)
  rw [show ((2 : Nat) : Int) = 2 from rfl] at e
  rw [e, and2_tab x h, Bool.eq_iff_iff]
  simp
  omega
/-- An operation whose value is known. -/
theorem wpList_valueD {P : Program} {ops : Array Oper} {rest : List Oper} {o : Oper} {a : Act} {w : World} {Q : Exit → Act → World → Prop} (hgd : o.guard = none) (d : Nat) (hd : o.dst = some d) (u : Value)
    (hr : (execOp a.eval o).run P w = .ok (.value u) w) (h : wpList P ops Q rest { a with tmps := a.tmps.setIfInBounds d u } w) : wpList P ops Q (o :: rest) a w :=
  wpList_plain hgd fun K hK => by
    unfold Oper.wp
    rw [hr, Oper.upon_value]
    unfold Act.put
    rw [hd]
    exact hK _ _ h
theorem exec_load_row {P : Program} {ops : Array Oper} {o : Oper} {a : Act} {w : World} {K : Act → World → Prop} {Q : Exit → Act → World → Prop} {F : Prop} (hw : Region.wanted o (yielded ops a.tmps) = true) {d : Nat} (hd : o.dst = some d) {ty : TypeId} {x : Operand} (ho : o.op = .load ty x)
    {g : Nat} (hx : a.eval x = .pointer (some ⟨g, 0, none⟩)) {t : TypeId} {cs : Array Value} {fr : Nat × Nat} {dd : TypeDesc} (hg : w.heap[g]? = some (.cells cs t fr))
    (hu : P.underlying ty = some dd) (hdd : (match dd with | .struct _ | .array _ _ => true | _ => false) = true) (hi : (P.info? ty).map (·.size) = some cs.size)
    (h : K { a with tmps := a.tmps.setIfInBounds d (.agg cs) } w) : if Region.wanted o (yielded ops a.tmps) = true then Oper.wp P o a w K Q else F := by
  rw [if_pos hw]
  exact wp_load_row ty x ho g hx t cs fr dd hg hu hdd hi (by unfold Act.put; rw [hd]; exact h)
theorem sliced8 (g c n : Nat) (ad8 : Option Addr) (h : ad8 = if c = 8 then some ⟨g, 0, none⟩ else some ⟨g, 8, none⟩) : Value.slice (if c = 8 then some ⟨g, 0, none⟩ else some ⟨g, 8, none⟩) n (c - 8) = .slice ad8 n (c - 8) := by rw [h]
theorem restErr_zero {disc : Bool} {B : List Int} (h : restErr disc B = 0) : (disc = true → B.length = 6) ∧ (disc = false → errC B = 0 ∧ (B.drop (lenC B).1.toNat).length = 13) := by
  unfold restErr at h
  cases disc with
  | true =>
    rw [if_pos rfl] at h
    refine ⟨fun _ => ?_, fun h => by cases h⟩
    split at h
    · simp at h
    · split at h
      · simp at h
      · omega
  | false =>
    rw [if_neg (by decide)] at h
    refine ⟨(fun h => by cases h), fun _ => ?_⟩
    split at h
    · exact absurd h (by assumption)
    · split at h
      · simp at h
      · split at h
        · simp at h
        · refine ⟨Decidable.of_not_not (by assumption), by omega⟩
theorem nmX_size (X : List Int) (hb : Bytes X) : (nmX X).size ≤ 255 := by
  have := hb 7
  unfold nmX
  rw [strOf_size, List.length_take]
  have : b8 X 7 ≤ 255 := by unfold b8; omega
  omega
theorem senX_is {w : World} {X : List Int} {pv : Value} (hb : Bytes X) (hre : restErr (dsX X) (rsX X) = 0) (rd : RdPts w pv (ptsX X)) : IsSen w (senX X pv) (ptsX X) := by
  have hn := nmX_size X hb
  have h6 := hb 6
  obtain ⟨hT, hF⟩ := restErr_zero hre
  have hrb : Bytes (rsX X) := hb.drop _
  have l := fun i => b8_lt hb i
  have lr := fun i => b8_lt (hrb.drop (lenC (rsX X)).1.toNat) i
  have wr := fun i => w16_lt hrb i
  have wd := fun i => w16_lt (hrb.drop (lenC (rsX X)).1.toNat) i
  have e : (hdrS X (nmX X)).disc = dsX X := rfl
  unfold senX
  unfold ptsX at rd ⊢
  cases hd : dsX X with
  | true =>
    rw [hd] at e
    unfold restS restP
    rw [if_pos e, if_pos rfl]
    refine IsSen.made ⟨RdPts.nil _, PtsOk.nil, ?_, ?_, ?_, ?_, ?_⟩ ⟨l 1, l 2, l 3, show (nmX X).size ≤ 1000 by omega, l 4, l 5, ?_, ?_, ?_, wr 0, wr 2, wr 4⟩ ⟨?_, ?_, ?_, ?_, ?_, ?_⟩ ⟨?_, ?_⟩
    all_goals first
      | (show I64 0; exact ⟨by decide, by decide⟩)
      | (show (0 : Nat) < 256; decide)
      | (show _ ≤ X.getD 6 0 / 4; omega)
      | (show X.getD 6 0 / 4 ≤ _; omega)
  | false =>
    rw [hd] at e rd
    obtain ⟨he, _⟩ := hF hd
    unfold restP at rd
    rw [if_neg (by decide)] at rd
    have hc := dec_is hrb he rd
    unfold restS restP
    rw [if_neg (by rw [e]; decide), if_neg (by decide)]
    refine IsSen.made hc ⟨l 1, l 2, l 3, show (nmX X).size ≤ 1000 by omega, l 4, l 5, lr 0, lr 7, lr 8, show (0 : Nat) < 65536 by decide, wd 9, wd 11⟩ ⟨lr 1, lr 2, lr 3, lr 4, lr 5, lr 6⟩ ⟨?_, ?_⟩
    · show _ ≤ X.getD 6 0 / 4; omega
    · show X.getD 6 0 / 4 ≤ _; omega
theorem senX_valid (X : List Int) (pv pw : Value) : validB (senX X pv) (ptsX X) = validB (senX X pw) (ptsX X) := by
  have h : ∀ p, senX X p = (senX X pw).with (senX X p).conv.pts := fun p => by
    unfold senX restS Sen.with
    split
    · rfl
    · unfold ana13 decC Conv.with
      split <;> rfl
  rw [h pv]
  exact validB_with _ _ _
theorem errS_parts {A : List Int} (h : errS A = 0) : 9 ≤ A.length ∧ sum8 A = 0 ∧ errX A.dropLast = 0 := by
  unfold errS at h
  split at h
  · simp at h
  · split at h
    · simp at h
    · rename_i h1 h2
      exact ⟨by omega, Decidable.of_not_not h2, h⟩
theorem errX_parts {X : List Int} (h : errX X = 0) : X.getD 0 0 = 1 ∧ X.getD 6 0 < 32 ∧ 8 + b8 X 7 ≤ X.length ∧ restErr (dsX X) (rsX X) = 0 ∧ validB (senX X (.slice none 0 0)) (ptsX X) = true := by
  unfold errX at h
  split at h
  · simp at h
  split at h
  · simp at h
  split at h
  · exact absurd h (by assumption)
  split at h
  · rename_i h1 h2 h3 h4
    exact ⟨by omega, by omega, by omega, Decidable.of_not_not h3, h4⟩
  · simp at h
theorem SDecRes.bad {w w' : World} {A : List Int} {e : Ending} (h : SDecRes w A e w') (h0 : errS A ≠ 0) : e = .returned (.tuple #[.agg zS.cells, .int .i64 (errS A)]) ∧ Mods [] w w' := by
  unfold SDecRes at h
  rwa [if_neg h0] at h
theorem SDecRes.good {w w' : World} {A : List Int} {e : Ending} (hb : Bytes A) (h : SDecRes w A e w') (h0 : errS A = 0) : ∃ pv, e = .returned (.tuple #[.agg (senX A.dropLast pv).cells, .int .i64 0]) ∧ IsSen w' (senX A.dropLast pv) (ptsX A.dropLast) ∧ Mods [] w w' := by
  unfold SDecRes at h
  rw [if_pos h0] at h
  obtain ⟨pv, he, O, M⟩ := h
  exact ⟨pv, he, senX_is (by rw [List.dropLast_eq_take]; exact hb.take _) (errX_parts (errS_parts h0).2.2).2.2.2.1 O.rd, M⟩
end Go.Proofs.Ytijjkonephjodaa
