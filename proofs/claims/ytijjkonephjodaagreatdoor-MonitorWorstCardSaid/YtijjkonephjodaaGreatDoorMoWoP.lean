/- The worst state of a monitor's sensors, plain. -/
import Derived.Test.YtijjkonephjodaaGreatDoorMoHe
import Derived.Test.YtijjkonephjodaaGreatDoorMoNewP
import Derived.Test.YtijjkonephjodaaGreatDoorMoNum
namespace Go.Proofs.YtijjkonephjodaaGreatDoor
open Go.RowKit
set_option linter.unusedVariables false
set_option linter.unusedSimpArgs false
/-- The worst state of the first sensors of an entity. -/
noncomputable def worstK (l : List SenX) (F : List FltX) (st : List Nat) (e : Ent) : Nat → Int
  | 0 => 0
  | k + 1 => if ((readM l F (l.getD k default).S.number).2 && decide (entS (l.getD k default).S = e)) = true then max (worstK l F st e k) (sevI (st.getD k 0 % 256)) else worstK l F st e k
theorem worstK_succ (l : List SenX) (F : List FltX) (st : List Nat) (e : Ent) (k : Nat) : worstK l F st e (k + 1) = if ((readM l F (l.getD k default).S.number).2 && decide (entS (l.getD k default).S = e)) = true then max (worstK l F st e k) (sevI (st.getD k 0 % 256)) else worstK l F st e k := rfl
theorem sevI_rng (s : Nat) : 0 ≤ sevI s ∧ sevI s ≤ 3 := by unfold sevI; split <;> (try split) <;> (try split) <;> omega
theorem ownH_ok {l : List SenX} {F : List FltX} {st : List Nat} : ∀ k, (ownH l F st k).all sevOk = true
  | 0 => rfl
  | k + 1 => by
    rw [ownH, List.all_append, ownH_ok k, Bool.true_and]
    unfold cndAt
    split
    · have h := sevI_rng (st.getD k 0 % 256)
      rw [List.all_cons, List.all_nil, Bool.and_true]
      unfold sevOk
      rw [decide_eq_true h.1, decide_eq_true h.2]
      rfl
    · rfl
theorem presB_nil (e : Ent) : presB [] [] e = true := by simp [presB]
theorem wth_nil {x e : Ent} : x ∈ wthL [] e ↔ x = e := by
  rw [mem_wth]
  simp [abv]
theorem worst_fold {l : List SenX} {F : List FltX} {st : List Nat} {e : Ent} : ∀ k, hlthF [] [] e (ownH l F st k) = worstK l F st e k
  | 0 => rfl
  | k + 1 => by
    have ih := worst_fold (l := l) (F := F) (st := st) (e := e) k
    unfold hlthF at ih ⊢
    rw [ownH, List.foldl_append, ih, worstK_succ]
    unfold cndAt
    cases hr : (readM l F (l.getD k default).S.number).2 with
    | false => simp
    | true =>
      rw [if_pos rfl, List.foldl_cons, List.foldl_nil]
      unfold hlthI
      rw [presB_nil, Bool.and_true, Bool.true_and]
      have : decide (entS (l.getD k default).S ∈ wthL [] e) = decide (entS (l.getD k default).S = e) := decide_eq_decide.2 wth_nil
      simp only [this]
theorem none_fold {l : List SenX} {F : List FltX} {st : List Nat} {e : Ent} : ∀ k, hlthF [] [e] e (ownH l F st k) = 0
  | 0 => rfl
  | k + 1 => by
    have ih := none_fold (l := l) (F := F) (st := st) (e := e) k
    unfold hlthF at ih ⊢
    rw [ownH, List.foldl_append, ih]
    unfold cndAt
    split
    · rw [List.foldl_cons, List.foldl_nil]
      unfold hlthI
      rw [if_neg]
      intro h
      rw [Bool.and_eq_true, decide_eq_true_eq, wth_nil] at h
      have h2 := (presB_iff.1 h.2).1
      exact h2 (by rw [h.1]; simp)
    · rfl
theorem chkE_nil : chkE [] = 0 := by decide
theorem health_worst (l : List SenX) (F : List FltX) (st : List Nat) (e : Ent) (k : Nat) : hlthR [] [] (ownH l F st k) e = (worstK l F st e k, 0) := by
  unfold hlthR
  rw [chkE_nil, if_pos rfl, ownH_ok, if_pos rfl, worst_fold]
theorem health_none (l : List SenX) (F : List FltX) (st : List Nat) (e : Ent) (k : Nat) : hlthR [] [e] (ownH l F st k) e = (0, 0) := by
  unfold hlthR
  rw [chkE_nil, if_pos rfl, ownH_ok, if_pos rfl, none_fold]
theorem worstK_rng {l : List SenX} {F : List FltX} {st : List Nat} {e : Ent} : ∀ k, 0 ≤ worstK l F st e k ∧ worstK l F st e k ≤ 3
  | 0 => ⟨Int.le_refl _, by show (0 : Int) ≤ 3; decide⟩
  | k + 1 => by
    have ih := worstK_rng (l := l) (F := F) (st := st) (e := e) k
    have h := sevI_rng (st.getD k 0 % 256)
    rw [worstK_succ]
    split <;> omega
/-- A sensor is found by its number. -/
theorem num_self {l : List SenX} (hg : ∀ i, i < l.length → goodS l i = true) {i : Nat} (hi : i < l.length) : numIdx l (l.getD i default).S.number = i := ((num_only hg hi).1 rfl).symm
theorem state_self {l : List SenX} {st : List Nat} (hg : ∀ i, i < l.length → goodS l i = true) {i : Nat} (hi : i < l.length) : stateV l st (l.getD i default).S.number = (st.getD i 0, true) := by
  unfold stateV
  rw [num_self hg hi, if_pos hi]
theorem read_disc {l : List SenX} {F : List FltX} (hg : ∀ i, i < l.length → goodS l i = true) {i : Nat} (hi : i < l.length) (h : (readM l F (l.getD i default).S.number).2 = true) : (l.getD i default).S.disc = false := by
  unfold readM at h
  rw [num_self hg hi, if_pos hi] at h
  cases hd : (l.getD i default).S.disc with
  | false => rfl
  | true => rw [hd, if_pos rfl] at h; cases h
end Go.Proofs.YtijjkonephjodaaGreatDoor
