/- What Encode and Decode of a conversion give, whatever comes in; a byte of the call's own, set. -/
import Derived.Test.YtgjjmiaiclhidaaValC
import Derived.Test.YtgjjmiaiclhidaaDecB
import Derived.Test.YtgjjmiaiclhidaaDecD
import Derived.Test.YtgjjmiaiclhidaaRefEnc
import Derived.Test.YtgjjmiaiclhidaaDecE
namespace Go.Proofs.Ytgjjmiaiclhidaa
open Go.RowKit

def encA (ok : Bool) (A : List Int) : List Int := if ok then A else []
def encE (ok : Bool) : Int := if ok then 0 else 1
def EncAny (w : World) (ok : Bool) (A : List Int) (e : Ending) (w' : World) : Prop := ∃ v', e = .returned (.tuple #[v', .int .i64 (encE ok)]) ∧ OwnB w' w.heap.size v' (encA ok A) ∧ Mods [] w w'
theorem encAny {w w' : World} {ok : Bool} {A : List Int} {e : Ending} (h : EncRes w ok A e w') : EncAny w ok A e w' := by
  unfold EncRes at h
  cases ok with
  | true => rw [if_pos rfl] at h; exact h
  | false => rw [if_neg (by decide)] at h; obtain ⟨rfl, M⟩ := h; exact ⟨_, rfl, OwnB.nil _ _, M⟩
/-- What Decode gives. -/
def resC (A : List Int) (pv : Value) : Conv := if errC A = 0 then decC A pv else zK
def resP (A : List Int) : List Pt := if errC A = 0 then decP A else []
def resN (A : List Int) : Int := if errC A = 0 then (lenC A).1 else 0
theorem dec_is {w : World} {A : List Int} {pv : Value} (hb : Bytes A) (h : errC A = 0) (rd : RdPts w pv (decP A)) : IsConv w (decC A pv) (decP A) := by
  obtain ⟨h1, h2, h3⟩ := errC_zero h
  rw [decC_pts A _ pv] at h3
  have hn := convB_nums h3
  have hf := convB_f15 h3
  have hp : PtsOk (decP A) := by
    unfold decP
    split
    · rename_i h5
      obtain ⟨_, _, hc⟩ := lenC_facts h1
      rcases hc with ⟨h6, _⟩ | ⟨_, a, b, c⟩
      · exact absurd h5 h6
      · exact ptsOf_ok hb (by omega) (by omega)
    · exact PtsOk.nil
  have hpts : (decC A pv).pts = pv := by unfold decC; split <;> rfl
  exact ⟨by rw [hpts]; exact rd, hp, i64_small (by omega), i64_small (by omega), i64_small (by omega), i64_small (by omega), i64_small (by omega)⟩
def DecAny (w : World) (A : List Int) (e : Ending) (w' : World) : Prop :=
  ∃ pv, e = .returned (.tuple #[.agg (resC A pv).cells, .int .i64 (resN A), .int .i64 (errC A)]) ∧ IsConv w' (resC A pv) (resP A) ∧ Mods [] w w'
theorem decAny {w w' : World} {A : List Int} {e : Ending} (hb : Bytes A) (h : DecRes w A e w') : DecAny w A e w' := by
  unfold DecRes at h
  unfold DecAny resC resP resN
  by_cases h0 : errC A = 0
  · rw [if_pos h0] at h
    obtain ⟨pv, rfl, O, M⟩ := h
    refine ⟨pv, ?_, ?_, M⟩
    · rw [if_pos h0, if_pos h0, h0]
    · rw [if_pos h0, if_pos h0]
      exact dec_is hb h0 O.rd
  · rw [if_neg h0] at h
    obtain ⟨rfl, M⟩ := h
    refine ⟨.slice none 0 0, ?_, ?_, M⟩
    · rw [if_neg h0, if_neg h0]
    · rw [if_neg h0, if_neg h0]
      exact ⟨RdPts.nil _, PtsOk.nil, i64_small (x := 0) (by decide), i64_small (x := 0) (by decide), i64_small (x := 0) (by decide), i64_small (x := 0) (by decide), i64_small (x := 0) (by decide)⟩
theorem res_same (A : List Int) (pv pv' : Value) : sameC (resC A pv) (resP A) (resC A pv') (resP A) = true := by
  refine sameC_refl ?_
  unfold resC
  split
  · unfold decC
    split <;> exact ⟨rfl, rfl, rfl, rfl, rfl, rfl⟩
  · exact ⟨rfl, rfl, rfl, rfl, rfl, rfl⟩
theorem u8s_set (A : List Int) (k : Nat) (x : Int) : u8s (A.set k x) = (u8s A).set k (.int .u8 x) := by unfold u8s; rw [List.map_set]
/-- A byte of the call's own, set. -/
theorem OwnB.set {w : World} {B g cap : Nat} {A : List Int} (h : OwnB w B (.slice (some ⟨g, 0, none⟩) A.length cap) A) {k : Nat} (hk : k < A.length) (x : Int) :
    OwnB (w.setCell ⟨g, k, none⟩ (.int .u8 x)) B (.slice (some ⟨g, 0, none⟩) A.length cap) (A.set k x) ∧ ∃ c, w.heap[g]? = some (.cells c 5 (0, 0)) ∧ k < c.size := by
  obtain ⟨hl, h⟩ := h
  rcases h with ⟨h0, _⟩ | ⟨g', cap', cur, hv, hb, hg, h1, h2, h3, h4⟩
  · cases h0
  · injection hv with e1 e2 e3
    injection e1 with e1
    injection e1 with e1 _ _
    subst e1 e3
    rw [u8s_length] at h1 h4
    refine ⟨⟨by rw [u8s_set, List.length_set]; omega, .inr ⟨g, cap, cur.setIfInBounds k (.int .u8 x), by rw [u8s_set, List.length_set, u8s_length], hb, heap_setCell hg, by rw [u8s_set, List.length_set, u8s_length]; exact h1, h2, by rw [Array.size_setIfInBounds]; exact h3, ?_⟩⟩, cur, hg, by omega⟩
    rw [u8s_set, List.length_set, u8s_length, Array.toList_setIfInBounds, ← h4, Nat.mul_one]
    rw [List.take_set]
end Go.Proofs.Ytgjjmiaiclhidaa
