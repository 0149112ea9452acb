/- Health: plain laws. -/
import Derived.Test.YtijjkonephjodaaEntT
import Derived.Test.YtijjkonephjodaaEntU
namespace Go.Proofs.Ytijjkonephjodaa
open Go.RowKit

theorem hlthF_nil (l : List Asc) (ab : List Ent) (e : Ent) : hlthF l ab e [] = 0 := rfl
theorem hlthF_more (l : List Asc) (ab : List Ent) (e : Ent) (own : List Cnd) (c : Cnd) : hlthF l ab e (own ++ [c]) = if (presB l ab c.ent && decide (c.ent ∈ wthL l e)) = true then max (hlthF l ab e own) c.sev else hlthF l ab e own := by
  unfold hlthF
  rw [List.foldl_append, Bool.and_comm]
  rfl
theorem hlth_mono {l : List Asc} {ab : List Ent} {z x : Ent} (h : ∀ y, y ∈ wthL l z → y ∈ wthL l x) : ∀ (own : List Cnd) (o p : Int), o ≤ p → own.foldl (hlthI l ab z) o ≤ own.foldl (hlthI l ab x) p
  | [], _, _, hop => hop
  | c :: own, o, p, hop => by
    rw [List.foldl_cons, List.foldl_cons]
    refine hlth_mono h own _ _ ?_
    unfold hlthI
    by_cases hz : c.ent ∈ wthL l z
    · rw [decide_eq_true hz, decide_eq_true (h _ hz)]
      split <;> omega
    · rw [decide_eq_false hz]
      simp only [Bool.false_and, Bool.false_eq_true, if_false]
      split <;> omega
theorem all_more (own : List Cnd) (c : Cnd) (h : own.all sevOk = true) : (own ++ [c]).all sevOk = sevOk c := by
  rw [List.all_append, h]
  simp
theorem hlthR_ok {l : List Asc} (hl : chkE l = 0) {own : List Cnd} (ho : own.all sevOk = true) (ab : List Ent) (e : Ent) : hlthR l ab own e = (hlthF l ab e own, 0) := by
  unfold hlthR
  rw [if_pos hl, if_pos ho]
theorem hlthR_bad {l : List Asc} (hl : chkE l = 0) {own : List Cnd} (ho : own.all sevOk = false) (ab : List Ent) (e : Ent) : hlthR l ab own e = (0, 2) := by
  unfold hlthR
  rw [if_pos hl, if_neg (by rw [ho]; simp)]
theorem wth_trans {l : List Asc} {x y z : Ent} (h1 : z ∈ wthL l x) (h2 : y ∈ wthL l z) : y ∈ wthL l x := by
  rcases mem_wth.1 h2 with rfl | h3
  · exact h1
  · rcases mem_wth.1 h1 with rfl | h4
    · exact h2
    · obtain ⟨k, hk⟩ := abv_iff.1 h3
      obtain ⟨m, hm⟩ := abv_iff.1 h4
      refine mem_wth.2 (.inr (abv_iff.2 ⟨k + 1 + m, ?_⟩))
      rw [show k + 1 + m + 1 = (k + 1) + (m + 1) by omega, up_add, hk]
      exact hm
/-- The conditions of the dice under way. -/
def HcRel (w : World) (b : Nat) (v : Value) (L : List Int) (u : Value) (k : Nat) (wx : World) : Prop :=
  ∃ A j, OwnE cndE wx w.heap.size u A ∧ A.length + k ≤ 8 ∧ A.all sevOk = true ∧ IsDice wx b v L j ∧ Mods [b] w wx
end Go.Proofs.Ytijjkonephjodaa
