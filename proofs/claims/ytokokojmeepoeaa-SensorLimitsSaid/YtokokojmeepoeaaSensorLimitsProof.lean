/- SensorLimits is proved: for every input it returns true, and each argument reads afterwards as it read before; no condition. The frame of this text is that of the kit's proof-skeleton. -/
import Derived.Test.YtokokojmeepoeaaRows
import Derived.Test.YtokokojmeepoeaaLawBase
import Derived.Test.YtokokojmeepoeaaClosed
import Derived.Test.YtokokojmeepoeaaSixIn
import Derived.Test.YtokokojmeepoeaaSensorLimits
import Derived.WalkKit
import Derived.ProofKit
import Derived.OpenShut
import Derived.ShutString
import Derived.ChangeOld
import Derived.Below
namespace Go.Proofs.Ytokokojmeepoeaa.sensorLimits
open Go.ChangeShapes Go.WideShapes Go.ChangeAt Go.RowKit
open Go.ChangeMaps (open_string shut_string)
set_option linter.unusedVariables false

theorem own : ownKnob Try.prog.godebug = none := by kernel_rfl
theorem laidOut : laidOutB Try.prog = true := by kernel_rfl

set_option maxRecDepth 100000 in
theorem lifted (os : Os) (started : os.Started) (H : Type) (enc : TypeId × Value → H) :
    ReturnsInHanded {} Try.checked os 15 .any (Rows.sensorLimitsSpec.pre6 enc Try.prog Try.f15 Rows.sensorLimitsRow.domain false) (Rows.sensorLimitsSpec.post enc Try.prog Try.f15 false true false false) := by
  refine returnsInHanded_of_change (C := Try.checked) own started (by kernel_rfl) Try.func15
    (ChangeSpec.witness6 (enc := enc) (C := Try.checked) false ⟨#[], #[.agg #[.int .u8 0, .int .u8 0, .int .u8 0, .int .u8 0, .int .u8 0, .int .u8 0], .bool false], []⟩ 8 (by kernel_rfl) (by kernel_rfl) (by kernel_rfl) (by kernel_rfl)) ?_
  intro W base args ds gs before hval0 hW hcnd _
  have hval : ∀ (j : Nat) t v, Try.f15.params[j]? = some t → args[j]? = some v → Value.okWide Try.prog W .any base t v := hval0
  have hW' := hW
  obtain ⟨p, q, hA0, hV, rfl, hfz, hnd⟩ := hW
  have hA : DataW.TrodAll enc Try.prog W 0 (fun _ => true) true Try.f15.params.toList args.toList ds p := hA0
  rw [Try.params15] at hA hval
  obtain ⟨v0, vs0, d0, ds0, p0, q0, hargs, rfl, rfl, h0, r0⟩ := trodAll_cons hA
  obtain ⟨v1, vs1, d1, ds1, p1, q1, rfl, rfl, rfl, h1, r1⟩ := trodAll_cons r0
  obtain ⟨rfl, rfl, rfl⟩ := trodAll_nil r1
  obtain rfl : args = #[v0, v1] := by cases args; simp_all
  obtain ⟨rfl, rfl⟩ := trodVars_none hV
  have k0 := h0
  have lt0 : ∀ x ∈ p0, x.block < W.heap.size := by obtain ⟨m, hm⟩ := k0; exact DataW.trod_lt m _ _ _ hm
  obtain ⟨c0, rfl⟩ := six_agg (hval 0 27 v0 rfl rfl)
  obtain ⟨i0a, i0b, i0c, i0d, i0e, i0f, rfl, w0⟩ := (by obtain ⟨fuel, hf⟩ := h0; exact six_in hf : ∃ r0 r1 r2 r3 r4 r5 : Nat, c0 = #[.int .u8 r0, .int .u8 r1, .int .u8 r2, .int .u8 r3, .int .u8 r4, .int .u8 r5] ∧ (r0 < 256 ∧ r1 < 256 ∧ r2 < 256 ∧ r3 < 256 ∧ r4 < 256 ∧ r5 < 256))
  obtain ⟨a1, rfl, rfl, rfl⟩ := open_bool Try.underlying4 (hval 1 4 v1 rfl rfl) h1
  clear hA0 hval0
  refine (sensorLimits_walk W _ _ _ _ _ _ w0 a1).mono fun e W' ⟨he, hm⟩ => ?_
  have bel := hm.below (Nat.le_refl _) (by simp)
  subst he
  exact ⟨_, rfl, _, _, _, [], _, [], hW', trodAll_mk1 (shut_bool Try.underlying4 _), (trodAll_cons_mk (Below.trod laidOut (by kernel_rfl) (of_decide_eq_true (by kernel_rfl)) k0 bel lt0) (trodAll_cons_mk (shut_bool Try.underlying4 _) trodAll_mk0)), rfl, bel.frame _, fun h => by cases h⟩

set_option maxHeartbeats 4000000 in
theorem closed : joinedFacts Try.pinned.checked.prog 15 Try.f15 Rows.sensorLimitsSpec Rows.sensorLimitsRow = true := by
  unfold joinedFacts
  repeat' with_reducible refine (Bool.and_eq_true _ _).mpr ⟨?_, ?_⟩
  all_goals first | (with_reducible exact mayEnters) | (rw [liftsIs]; kernel_rfl) | (rw [makeIs]; kernel_rfl) | as_aux_lemma => kernel_rfl
theorem inst : Try.f15.isInstance Try.pinned.checked.prog Rows.sensorLimitsRow.origin Rows.sensorLimitsRow.targs := of_decide_eq_true (by kernel_rfl)
theorem over : Rows.sensorLimitsRow.holds Try.pinned (OpenSpec.ofChange Rows.sensorLimitsSpec) :=
  OpenClaim.holds_of_wide 15 Try.f15 rfl rfl rfl rfl rfl rfl rfl ⟨rfl, rfl, rfl, rfl, rfl⟩ rfl rfl rfl rfl rfl (by kernel_rfl) Try.func15 closed
    inst (by unfold Func.isWrapper; first | (rw [if_pos (by decide +kernel)]; kernel_rfl) | (rw [if_neg (by decide +kernel)]; exact ⟨rfl, rfl⟩))
    (fun os started H enc _ => lifted os started H enc)

/-- The statement. -/
theorem proved : Rows.SensorLimitsSaid := over
#print axioms proved
end Go.Proofs.Ytokokojmeepoeaa.sensorLimits
