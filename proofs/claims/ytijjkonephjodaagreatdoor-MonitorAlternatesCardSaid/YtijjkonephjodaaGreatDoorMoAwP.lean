/- The example of the chapter of monitors, plain. -/
import Derived.Test.YtijjkonephjodaaGreatDoorMoScP
import Derived.Test.YtijjkonephjodaaGreatDoorMoNewP
namespace Go.Proofs.YtijjkonephjodaaGreatDoor
open Go.RowKit
set_option linter.unusedVariables false
set_option linter.unusedSimpArgs false
set_option maxRecDepth 100000
/-- The sensor of the example. -/
def exMs : Sen := ⟨4, 1, 0, ⟨#[116]⟩, 0, 0, false, ⟨1, false, 1, 0, 0, 0, .slice none 0 0⟩, 8, 0, 0, 0, 80, 0, 0, 0, 0, 0, 8, 8, false, 1⟩
theorem exMs_is (w : World) : IsSen w exMs [] where
  conv := ⟨RdPts.nil w, ⟨by simp, fun i => by simp [default], fun i => by simp [default, I64]⟩, by constructor <;> decide, by constructor <;> decide, by constructor <;> decide, by constructor <;> decide, by constructor <;> decide⟩
  number := by decide
  type := by decide
  unit := by decide
  name := by decide
  eid := by decide
  einst := by decide
  mask := by decide
  raw := fun i => by
    rcases Nat.lt_or_ge i 6 with h | h
    · match i, h with
      | 0, _ | 1, _ | 2, _ | 3, _ | 4, _ | 5, _ => decide
    · unfold Sen.raw; rw [List.getD_eq_getElem?_getD, List.getElem?_eq_none (by simpa using h)]; decide
  hl := by decide
  hu := by decide
  states := by decide
  asrt := by decide
  deas := by decide
  samples := by constructor <;> decide
theorem exMs_one : exMs.cells.all (·.oneCell') = true := by simp [exMs, Sen.cells, Value.oneCell']
def exMx : SenX := ⟨exMs, [], rfl⟩
theorem exMx_chk : chkS [exMx] = 0 := by decide +kernel
def rawW : List Nat := [85, 86, 70]
def wantW : List Nat := [1, 0, 1]
def wasW : List Nat := [0, 8, 8, 0]
def winW (k : Nat) : List Int := if k = 0 then [] else [((rawW.getD (k - 1) 0 : Nat) : Int)]
def smpW (k : Nat) : Smp := ⟨f8 4, true, f8 (rawW.getD k 0), f16 0⟩
/-- The events of a scan of the example. -/
def evW (k : Nat) : List Evt := evsM exMs (stepN exMs [] (wasW.getD k 0) (rawW.getD k 0)).2.1 (rawW.getD k 0)
theorem evW_ok {k : Nat} (hk : k < 3) : (evW k).length = wantW.getD k 0 ∧ (k = 2 → (evW k).map (·.de) = [true]) := by
  match k, hk with
  | 0, _ | 1, _ | 2, _ => exact ⟨by decide +kernel, by decide +kernel⟩
theorem chkW {l : List SenX} (h : Twin [exMx] l) {k : Nat} (hk : k < 3) : chkM l [smpW k] = 0 := by
  obtain ⟨h1, h2⟩ := h
  obtain ⟨hp, v, hv⟩ := h2 0 (by decide)
  match l, h1 with
  | [x], _ =>
    obtain ⟨S, P, ho⟩ := x
    obtain rfl : S = withPts exMs v := hv
    obtain rfl : P = [] := hp
    match k, hk with
    | 0, _ | 1, _ | 2, _ => (change chkM _ _ = 0; kernel_rfl)
theorem medW {k : Nat} (hk : k < 3) : readV exMs [] (winW (k + 1)) 0 = (((rawW.getD k 0 : Nat) : Int), true) := by
  have h1 : rdB exMs [] (winW (k + 1)) 0 = true := by
    match k, hk with
    | 0, _ | 1, _ | 2, _ => decide +kernel
  have h2 : IsMed false (winW (k + 1)) ((rawW.getD k 0 : Nat) : Int) := by
    match k, hk with
    | 0, _ | 1, _ | 2, _ => exact ⟨by decide +kernel, by decide +kernel⟩
  have h3 : ∀ x ∈ winW (k + 1), 0 ≤ x ∧ x ≤ 255 := by
    match k, hk with
    | 0, _ | 1, _ | 2, _ => decide
  unfold readV
  rw [h1, if_pos rfl]
  exact Prod.ext (medV_is h3 h2) rfl
theorem scanW {l : List SenX} (h : Twin [exMx] l) {F : List FltX} {st : List Nat} {k : Nat} (hk : k < 3) (h1 : (F.getD 0 default).W = winW k) (h2 : (F.getD 0 default).n = 0) (h3 : st.getD 0 0 = wasW.getD k 0) :
    scanAt [] [] false [smpW k] l F st 0 = (evW k, (winW (k + 1), 0), wasW.getD (k + 1) 0) := by
  obtain ⟨h4, h5⟩ := h
  obtain ⟨hp, v, hv⟩ := h5 0 (by decide)
  match l, h4 with
  | [x], _ =>
    obtain ⟨S, P, ho⟩ := x
    obtain rfl : S = withPts exMs v := hv
    obtain rfl : P = [] := hp
    unfold scanAt scan1
    rw [h1, h2, h3]
    have hon : onB [] [] false (withPts exMs v) = true := by
      show onB [] [] false exMs = true
      decide +kernel
    have hpk : pickX [smpW k] 4 = smpW k := by
      match k, hk with
      | 0, _ | 1, _ | 2, _ => rfl
    have hpk2 : pickX [smpW k] (withPts exMs v).number = smpW k := hpk
    have hst : stepF 1 (winW k) 0 ((rawW.getD k 0 : Nat) : Int) true = (winW (k + 1), 0) := by
      match k, hk with
      | 0, _ | 1, _ | 2, _ => decide +kernel
    have hr : stepR (withPts exMs v) [] (winW k) 0 (wasW.getD k 0) (smpW k) = ((stepN exMs [] (wasW.getD k 0) (rawW.getD k 0)).2.1, ((rawW.getD k 0 : Nat) : Int), (winW (k + 1), 0), wasW.getD (k + 1) 0) := by
      have e1 : ((smpW k).raw.val : Int) = ((rawW.getD k 0 : Nat) : Int) := by
        match k, hk with
        | 0, _ | 1, _ | 2, _ => rfl
      have e2 : (stepN exMs [] (wasW.getD k 0) (rawW.getD k 0)).1 = wasW.getD (k + 1) 0 := by
        match k, hk with
        | 0, _ | 1, _ | 2, _ => decide +kernel
      show (if (readV exMs [] (stepF 1 (winW k) 0 ((smpW k).raw.val : Int) true).1 (stepF 1 (winW k) 0 ((smpW k).raw.val : Int) true).2).2 then
        ((stepN exMs [] (wasW.getD k 0) (readV exMs [] (stepF 1 (winW k) 0 ((smpW k).raw.val : Int) true).1 (stepF 1 (winW k) 0 ((smpW k).raw.val : Int) true).2).1.toNat).2.1, (readV exMs [] (stepF 1 (winW k) 0 ((smpW k).raw.val : Int) true).1 (stepF 1 (winW k) 0 ((smpW k).raw.val : Int) true).2).1, stepF 1 (winW k) 0 ((smpW k).raw.val : Int) true,
          (stepN exMs [] (wasW.getD k 0) (readV exMs [] (stepF 1 (winW k) 0 ((smpW k).raw.val : Int) true).1 (stepF 1 (winW k) 0 ((smpW k).raw.val : Int) true).2).1.toNat).1)
        else ([], 0, stepF 1 (winW k) 0 ((smpW k).raw.val : Int) true, wasW.getD k 0)) = _
      rw [e1, hst, medW hk, if_pos rfl, Int.toNat_natCast, e2]
    show (if onB [] [] false (withPts exMs v) then (evsM (withPts exMs v) (stepR (withPts exMs v) [] (winW k) 0 (wasW.getD k 0) (pickX [smpW k] (withPts exMs v).number)).1 (stepR (withPts exMs v) [] (winW k) 0 (wasW.getD k 0) (pickX [smpW k] (withPts exMs v).number)).2.1.toNat, (stepR (withPts exMs v) [] (winW k) 0 (wasW.getD k 0) (pickX [smpW k] (withPts exMs v).number)).2.2.1, (stepR (withPts exMs v) [] (winW k) 0 (wasW.getD k 0) (pickX [smpW k] (withPts exMs v).number)).2.2.2) else _) = _
    rw [hon, if_pos rfl, hpk2, hr, Int.toNat_natCast]
    rfl
end Go.Proofs.YtijjkonephjodaaGreatDoor
