/- Joined texts. convert.Decode: what it gives, as plain data; laws beside. | convert.Decode of a conversion without points: contract. | convert.Decode of a table: contract. | convert.Decode: contract. -/
import Derived.Test.YtijjkonephjodaaRdx
import Derived.Test.YtijjkonephjodaaRrg
import Derived.Test.YtijjkonephjodaaConvValid
import Derived.BigQuiet
import Derived.Shelf.Abstract
namespace Go.Proofs.Ytijjkonephjodaa
open Go.RowKit

def signA (A : List Int) (i n : Nat) : Int := sgnL ((A.drop i).take n)
def ptsOf (A : List Int) (k : Nat) : List Pt := (List.range k).map fun i => ⟨(A.getD (2 + 7 * i) 0).toNat, signA A (3 + 7 * i) 6⟩
/-- What a conversion's bytes say. -/
def decC (A : List Int) (pv : Value) : Conv :=
  if A.getD 0 0 % 128 = 5 then ⟨5, decide (128 ≤ A.getD 0 0), 0, 0, 0, 0, pv⟩ else ⟨A.getD 0 0 % 128, decide (128 ≤ A.getD 0 0), signA A 1 2, signA A 3 2, signA A 5 1, signA A 6 1, pv⟩
def decP (A : List Int) : List Pt := if A.getD 0 0 % 128 = 5 then ptsOf A (A.getD 1 0).toNat else []
/-- What is wrong with them. -/
def errC (A : List Int) : Int := if (lenC A).2 ≠ 0 then (lenC A).2 else if (A.length : Int) < (lenC A).1 then 4 else if convB (decC A (.slice none 0 0)) (decP A) then 0 else 1
def zK : Conv := ⟨0, false, 0, 0, 0, 0, .slice none 0 0⟩
/-- What Decode gives. -/
def DecRes (w : World) (A : List Int) (e : Ending) (w' : World) : Prop :=
  if errC A = 0 then ∃ pv, e = .returned (.tuple #[.agg (decC A pv).cells, .int .i64 (lenC A).1, .int .i64 0]) ∧ OwnPts w' w.heap.size pv (decP A) ∧ Mods [] w w'
  else e = .returned (.tuple #[.agg zK.cells, .int .i64 0, .int .i64 (errC A)]) ∧ Mods [] w w'
theorem zK_one : zK.cells.all (·.oneCell') = true := by simp [zK, Conv.cells, Value.oneCell']
theorem results_cell_row3 {P : Program} {fn : Func} {p u v : Tmp} {ty : TypeId} (h : fn.results = #[.cell p ty, .tmp u, .tmp v]) (tmps : Array Value) (w : World) (g : Nat) (t : TypeId) (cs : Array Value) (fr : Nat × Nat) (d : TypeDesc)
    (hp : tmps.getD p undef = .pointer (some ⟨g, 0, none⟩)) (hg : w.heap[g]? = some (.cells cs t fr))
    (hu : P.underlying ty = some d) (hd : (match d with | .struct _ | .array _ _ => true | _ => false) = true) (hi : (P.info? ty).map (·.size) = some cs.size) :
    (results fn tmps).run P w = .ok (.tuple #[.agg cs, tmps.getD u undef, tmps.getD v undef]) w := by
  have hp' : tmps[p]?.getD undef = .pointer (some ⟨g, 0, none⟩) := by simpa using hp
  simp [results, h, hp', asAddr, run_loadVar_row w g t ty cs fr d hg hu hd hi]
theorem rdOfCells {w : World} {g o : Nat} {A : List Int} {cap : Nat} (hc : A.length ≤ cap) (hm : cap ≤ maxLen) (h : ∀ i, i < A.length → w.cell? ⟨g, o + i, none⟩ = some (.int .u8 (A.getD i 0))) : Rd w (.slice (some ⟨g, o, none⟩) A.length cap) (u8s A) :=
  ⟨some ⟨g, o, none⟩, cap, by rw [u8s_length], by rw [u8s_length]; exact hc, hm, fun i hi => ⟨g, o, rfl, by rw [u8s_length] at hi; rw [h i hi, u8s_getD _ _ hi]⟩⟩
theorem Rd.sub {w : World} {bb off n cap : Nat} {A : List Int} (h : Rd w (.slice (some ⟨bb, off, none⟩) n cap) (u8s A)) (i j : Nat) (hij : i ≤ j) (hj : j ≤ A.length) : Rd w (.slice (some ⟨bb, off + i, none⟩) (j - i) (cap - i)) (u8s ((A.drop i).take (j - i))) := by
  obtain ⟨ad', cap', he, h1, h2, hc⟩ := h.u8
  injection he with he1 he2 he3
  subst he1 he2 he3
  have hl : ((A.drop i).take (j - i)).length = j - i := by simp; omega
  have := rdOfCells (w := w) (g := bb) (o := off + i) (A := (A.drop i).take (j - i)) (cap := cap - i) (by rw [hl]; omega) (by omega) (fun k hk => by
    rw [hl] at hk
    obtain ⟨b, o, hb, hx⟩ := hc (i + k) (by omega)
    cases hb
    rw [Nat.add_assoc, hx]
    simp [List.getD_eq_getElem?_getD, hk])
  rw [hl] at this
  exact this
theorem signA_bd {A : List Int} (h : Bytes A) (i n : Nat) (hn : 1 ≤ n) (hi : i + n ≤ A.length) (hn6 : n ≤ 6) : I64 (signA A i n) := by
  have hb : Bytes ((A.drop i).take n) := (h.drop i).take n
  have hl : ((A.drop i).take n).length = n := by simp; omega
  have := sgnL_bd hb (by intro h0; rw [h0] at hl; simp at hl; omega)
  have hp := (show ∀ m : Nat, m < 6 → (256 : Int) ^ m ≤ 1099511627776 by decide) (n - 1) (by omega)
  rw [hl] at this
  unfold I64 signA
  omega
theorem convB_pts {C C' : Conv} {P : List Pt} (h : C.form = C'.form ∧ C.sgn = C'.sgn ∧ C.m = C'.m ∧ C.b = C'.b ∧ C.k1 = C'.k1 ∧ C.k2 = C'.k2) : convB C P = convB C' P := by
  obtain ⟨h1, h2, h3, h4, h5, h6⟩ := h
  unfold convB
  rw [h1, h2, h3, h4, h5, h6]
theorem lenC_facts {A : List Int} (hl : (lenC A).2 = 0) : A ≠ [] ∧ (1 ≤ A.getD 0 0 % 128 ∧ A.getD 0 0 % 128 ≤ 5) ∧ ((A.getD 0 0 % 128 ≠ 5 ∧ (lenC A).1 = 7) ∨ (A.getD 0 0 % 128 = 5 ∧ 2 ≤ A.getD 1 0 ∧ A.getD 1 0 ≤ 12 ∧ (lenC A).1 = 2 + 7 * A.getD 1 0)) := by
  unfold lenC at hl ⊢
  split at hl
  · simp at hl
  · rename_i h0
    rw [if_neg h0]
    split at hl
    · simp at hl
    · rename_i h1
      rw [if_neg h1]
      split at hl
      · rename_i h5; rw [if_pos h5]; exact ⟨h0, by omega, .inl ⟨h5, rfl⟩⟩
      · rename_i h5
        rw [if_neg h5]
        split at hl
        · simp at hl
        · rename_i h6
          rw [if_neg h6]
          split at hl
          · simp at hl
          · rename_i h7; rw [if_neg h7]; exact ⟨h0, by omega, .inr ⟨by omega, by omega, by omega, rfl⟩⟩
set_option maxRecDepth 100000 in
set_option maxHeartbeats 4000000 in
theorem convDec_err (w : World) (v : Value) (A : List Int) (hv : Rd w v (u8s A)) (hb : Bytes A) (hl : (lenC A).2 ≠ 0) :
    Calls Try.prog 90 #[v] w fun e w' => DecRes w A e w' := by
  have HV := Lib.hid hv
  have HB := Lib.hid hb
  have HL := Lib.hid (fun W (M : Mods [] w W) => length_ok W v A (hv.mods0 M) hb)
  obtain ⟨ad, cap, rfl, h1, h2, -⟩ := hv.u8
  have h3 : cap ≤ 9223372036854775807 := h2
  clear hv hb h2
  have HE : Hid (∀ W, errC A ≠ 0 → Mods [] w W → DecRes w A (.returned (.tuple #[.agg zK.cells, .int .i64 0, .int .i64 (errC A)])) W) := Lib.hid fun W h M => by unfold DecRes; rw [if_neg h]; exact ⟨rfl, M⟩
  have HU := Lib.hid (show errC A = if (lenC A).2 ≠ 0 then (lenC A).2 else if (A.length : Int) < (lenC A).1 then 4 else if convB (decC A (.slice none 0 0)) (decP A) then 0 else 1 from rfl)
  have R0 := Lib.hid (heap_alloc_new w (.cells zK.cells 26))
  have M0 := Lib.hid ((Mods.refl (S := []) (w := w)).alloc (.cells zK.cells 26))
  have hlb : ((lenC A).2 != 0) = true := by simpa using hl
  have HR := Lib.hid (HU.out.trans (if_pos hl))
  have HN := Lib.hid (show errC A ≠ 0 by rw [HR.out]; exact hl)
  clear hl
  refine (callsIn_wide (n := 4)).1 (callsIn_of_wp_marks Try.func90 rfl trivial (wpIn_wide.2 ?_))
  simp only [Try.ntmps90, List.size_toArray, List.length_cons, List.length_nil, Nat.reduceAdd, Nat.reduceSub, Array.replicate_succ, Array.replicate_zero, List.push_toArray, List.append_toArray, List.nil_append, List.cons_append]
  go_wp2_with fail
  refine (HL.out _ M0.out).mono ?_
  rintro e w1 ⟨rfl, hw1⟩
  have HR1 : Hid (w1.heap[w.heap.size]? = some (.cells zK.cells 26 (0, 0))) := Lib.hid (by rw [← hw1]; exact R0.out)
  have HM1 : Hid (Mods [] w w1) := Lib.hid (by rw [← hw1]; exact M0.out)
  clear hw1
  go_wp2_with (refine wpList_store_row (cs := zK.cells) rfl 26 (.tmp 2) (.tmp 17) rfl HR1.out (by rfl) (by rfl) rfl Try.infoC zK_one ?_; intro w2 R2 M2)
  have HM2 := HM1.out.comp M2 (fun k hk => by simp at hk; exact .inr (by omega))
  refine ⟨_, results_cell_row3 rfl _ _ w.heap.size _ _ _ _ rfl R2 Try.underlying26 rfl Try.infoC, ?_⟩
  have := HE.out w2 HN.out HM2
  rw [HR.out] at this
  exact this
set_option maxRecDepth 100000 in
set_option maxHeartbeats 4000000 in
theorem convDec_cut (w : World) (v : Value) (A : List Int) (hv : Rd w v (u8s A)) (hb : Bytes A) (hl : (lenC A).2 = 0) (hlt : (A.length : Int) < (lenC A).1) :
    Calls Try.prog 90 #[v] w fun e w' => DecRes w A e w' := by
  have HV := Lib.hid hv
  have HB := Lib.hid hb
  have HL := Lib.hid (fun W (M : Mods [] w W) => length_ok W v A (hv.mods0 M) hb)
  obtain ⟨ad, cap, rfl, h1, h2, -⟩ := hv.u8
  have h3 : cap ≤ 9223372036854775807 := h2
  clear hv hb h2
  have HE : Hid (∀ W, errC A ≠ 0 → Mods [] w W → DecRes w A (.returned (.tuple #[.agg zK.cells, .int .i64 0, .int .i64 (errC A)])) W) := Lib.hid fun W h M => by unfold DecRes; rw [if_neg h]; exact ⟨rfl, M⟩
  have HU := Lib.hid (show errC A = if (lenC A).2 ≠ 0 then (lenC A).2 else if (A.length : Int) < (lenC A).1 then 4 else if convB (decC A (.slice none 0 0)) (decP A) then 0 else 1 from rfl)
  have R0 := Lib.hid (heap_alloc_new w (.cells zK.cells 26))
  have M0 := Lib.hid ((Mods.refl (S := []) (w := w)).alloc (.cells zK.cells 26))
  have hlb : ((lenC A).2 != 0) = false := by simpa using hl
  have HU := Lib.hid (HU.out.trans (if_neg (fun h => h hl)))
  have dlt : decide ((A.length : Int) < (lenC A).1) = true := decide_eq_true hlt
  have HR := Lib.hid (HU.out.trans (if_pos hlt))
  have HN := Lib.hid (show errC A ≠ 0 by rw [HR.out]; decide)
  clear hl hlt
  refine (callsIn_wide (n := 4)).1 (callsIn_of_wp_marks Try.func90 rfl trivial (wpIn_wide.2 ?_))
  simp only [Try.ntmps90, List.size_toArray, List.length_cons, List.length_nil, Nat.reduceAdd, Nat.reduceSub, Array.replicate_succ, Array.replicate_zero, List.push_toArray, List.append_toArray, List.nil_append, List.cons_append]
  go_wp2_with fail
  refine (HL.out _ M0.out).mono ?_
  rintro e w1 ⟨rfl, hw1⟩
  have HR1 : Hid (w1.heap[w.heap.size]? = some (.cells zK.cells 26 (0, 0))) := Lib.hid (by rw [← hw1]; exact R0.out)
  have HM1 : Hid (Mods [] w w1) := Lib.hid (by rw [← hw1]; exact M0.out)
  clear hw1
  go_wp2_with (refine wpList_store_row (cs := zK.cells) rfl 26 (.tmp 2) (.tmp 24) rfl HR1.out (by rfl) (by rfl) rfl Try.infoC zK_one ?_; intro w2 R2 M2)
  have HM2 := HM1.out.comp M2 (fun k hk => by simp at hk; exact .inr (by omega))
  refine ⟨_, results_cell_row3 rfl _ _ w.heap.size _ _ _ _ rfl R2 Try.underlying26 rfl Try.infoC, ?_⟩
  have := HE.out w2 HN.out HM2
  rw [HR.out] at this
  exact this
end Go.Proofs.Ytijjkonephjodaa

namespace Go.Proofs.Ytijjkonephjodaa
open Go.RowKit

set_option maxRecDepth 100000 in
set_option maxHeartbeats 4000000 in
theorem convDec_lin (w : World) (v : Value) (A : List Int) (hv : Rd w v (u8s A)) (hb : Bytes A) (hl : (lenC A).2 = 0) (hlt : ¬ (A.length : Int) < (lenC A).1) (h5 : A.getD 0 0 % 128 ≠ 5) :
    Calls Try.prog 90 #[v] w fun e w' => DecRes w A e w' := by
  have HV := Lib.hid hv
  have HB := Lib.hid hb
  have HL := Lib.hid (fun W (M : Mods [] w W) => length_ok W v A (hv.mods0 M) hb)
  obtain ⟨ad, cap, rfl, h1, h2, -⟩ := hv.u8
  have h3 : cap ≤ 9223372036854775807 := h2
  clear hv hb h2
  have HE : Hid (∀ W, errC A ≠ 0 → Mods [] w W → DecRes w A (.returned (.tuple #[.agg zK.cells, .int .i64 0, .int .i64 (errC A)])) W) := Lib.hid fun W h M => by unfold DecRes; rw [if_neg h]; exact ⟨rfl, M⟩
  have HU := Lib.hid (show errC A = if (lenC A).2 ≠ 0 then (lenC A).2 else if (A.length : Int) < (lenC A).1 then 4 else if convB (decC A (.slice none 0 0)) (decP A) then 0 else 1 from rfl)
  have R0 := Lib.hid (heap_alloc_new w (.cells zK.cells 26))
  have M0 := Lib.hid ((Mods.refl (S := []) (w := w)).alloc (.cells zK.cells 26))
  have hlb : ((lenC A).2 != 0) = false := by simpa using hl
  have HU := Lib.hid (HU.out.trans (if_neg (fun h => h hl)))
  have dlt : decide ((A.length : Int) < (lenC A).1) = false := decide_eq_false hlt
  have HU := Lib.hid (HU.out.trans (if_neg hlt))
  obtain ⟨h0, hf15, hcase⟩ := lenC_facts hl
  have hp : 0 < A.length := List.length_pos_iff.2 h0
  obtain ⟨_, _, he, _, _, hc⟩ := HV.out.u8
  obtain ⟨bb, off, rfl, x0⟩ := hc 0 hp
  injection he with he1 he2 he3
  subst he1 he3
  clear hc he2 h0
  rw [Nat.add_zero] at x0
  have hbb : bb < w.heap.size := World.block_lt_of_cell? w _ x0
  have HX0 := Lib.hid x0
  have hb0 := HB.out 0
  have ea := andNot128 _ hb0
  have eb := and128 _ hb0
  have es : ((if 128 ≤ A.getD 0 0 then (128 : Int) else 0) != 0) = decide (128 ≤ A.getD 0 0) := by
    by_cases h : 128 ≤ A.getD 0 0
    · rw [if_pos h, decide_eq_true h]; rfl
    · rw [if_neg h, decide_eq_false h]; rfl
  have HDC := Lib.hid (show ∀ pv, decC A pv = if A.getD 0 0 % 128 = 5 then ⟨5, decide (128 ≤ A.getD 0 0), 0, 0, 0, 0, pv⟩ else ⟨A.getD 0 0 % 128, decide (128 ≤ A.getD 0 0), signA A 1 2, signA A 3 2, signA A 5 1, signA A 6 1, pv⟩ from fun _ => rfl)
  have HDP := Lib.hid (show decP A = if A.getD 0 0 % 128 = 5 then ptsOf A (A.getD 1 0).toNat else [] from rfl)
  clear x0
  generalize A.getD 0 0 = x at hb0 ea eb es hf15 hcase h5 HX0 HDC HDP
  generalize (if 128 ≤ x then (128 : Int) else 0) = s128 at eb es
  generalize decide (128 ≤ x) = sg at es HDC
  generalize x % 128 = f at ea hf15 hcase h5 HDC HDP
  obtain ⟨hf1, hf5⟩ := hf15
  obtain ⟨hb00, hb01⟩ := hb0
  have i0 : (0 : Int) < (A.length : Int) := by omega
  have ew : IntKind.i64.wrap f = f := IntWalk.i64_in _ (by omega)
  obtain ⟨-, hn7⟩ : f ≠ 5 ∧ (lenC A).1 = 7 := by rcases hcase with h | h; exact h; exact absurd h.1 h5
  clear hcase
  have d5 : (f == 5) = false := by simpa using h5
  have h7 : 7 ≤ A.length := by omega
  have HN := Lib.hid hn7
  clear hn7 hl hlt
  have HF5 := Lib.hid h5
  clear h5
  refine (callsIn_wide (n := 4)).1 (callsIn_of_wp_marks Try.func90 rfl trivial (wpIn_wide.2 ?_))
  simp only [Try.ntmps90, List.size_toArray, List.length_cons, List.length_nil, Nat.reduceAdd, Nat.reduceSub, Array.replicate_succ, Array.replicate_zero, List.push_toArray, List.append_toArray, List.nil_append, List.cons_append]
  go_wp2_with fail
  refine (HL.out _ M0.out).mono ?_
  rintro e w1 ⟨rfl, hw1⟩
  have HR1 : Hid (w1.heap[w.heap.size]? = some (.cells zK.cells 26 (0, 0))) := Lib.hid (by rw [← hw1]; exact R0.out)
  have HM1 : Hid (Mods [] w w1) := Lib.hid (by rw [← hw1]; exact M0.out)
  clear hw1
  go_wp2_with fail
  try dsimp only [Act.put]
  refine wp_noPanic ?_
  refine heldStart (S := fun W => W.cell? ⟨bb, off, none⟩ = some (.int .u8 x)) 13 rfl (by kernel_rfl) (HM1.out.drew.cell HX0.out (by simp)) (fun hHeld => ?_)
  refine takeD (i := 0) (d := 25) (v := ?_) rfl rfl (by kernel_rfl) (by kernel_rfl) (by kernel_rfl) (fun _ _ _ h => h) (Or.inl ⟨by rfl, ?_⟩) hHeld ?_
  rotate_left 1
  · (intro w hSw; (try dsimp only at hSw); go_simp; (try with_reducible rfl))
  simp only [List.setIfInBounds_toArray, List.set_cons_zero, List.set_cons_succ]
  refine takeD (i := 1) (d := 26) (v := ?_) rfl rfl (by kernel_rfl) (by kernel_rfl) (by kernel_rfl) (fun _ _ _ h => h) (Or.inl ⟨by rfl, ?_⟩) hHeld ?_
  rotate_left 1
  · (intro w hSw; (try dsimp only at hSw); go_simp; (try with_reducible rfl))
  simp only [List.setIfInBounds_toArray, List.set_cons_zero, List.set_cons_succ]
  refine takeD (i := 2) (d := 27) (v := ?_) rfl rfl (by kernel_rfl) (by kernel_rfl) (by kernel_rfl) (fun _ _ _ h => h) (Or.inl ⟨by rfl, ?_⟩) hHeld ?_
  rotate_left 1
  · (intro w hSw; (try dsimp only at hSw); go_simp; (try with_reducible rfl))
  simp only [List.setIfInBounds_toArray, List.set_cons_zero, List.set_cons_succ]
  refine takeD (i := 3) (d := 28) (v := ?_) rfl rfl (by kernel_rfl) (by kernel_rfl) (by kernel_rfl) (fun _ _ _ h => h) (Or.inl ⟨by rfl, ?_⟩) hHeld ?_
  rotate_left 1
  · (intro w hSw; (try dsimp only at hSw); go_simp; (try with_reducible rfl))
  simp only [List.setIfInBounds_toArray, List.set_cons_zero, List.set_cons_succ]
  refine takeD (i := 4) (d := 29) (v := ?_) rfl rfl (by kernel_rfl) (by kernel_rfl) (by kernel_rfl) (fun _ _ _ h => h) (Or.inl ⟨by rfl, ?_⟩) hHeld ?_
  rotate_left 1
  · (intro w hSw; (try dsimp only at hSw); go_simp; (try with_reducible rfl))
  simp only [List.setIfInBounds_toArray, List.set_cons_zero, List.set_cons_succ]
  refine takeD (i := 5) (d := 30) (v := ?_) rfl rfl (by kernel_rfl) (by kernel_rfl) (by kernel_rfl) (fun _ _ _ h => h) (Or.inl ⟨by rfl, ?_⟩) hHeld ?_
  rotate_left 1
  · (intro w hSw; (try dsimp only at hSw); go_simp; (try with_reducible rfl))
  simp only [List.setIfInBounds_toArray, List.set_cons_zero, List.set_cons_succ]
  refine takeD (i := 6) (d := 31) (v := ?_) rfl rfl (by kernel_rfl) (by kernel_rfl) (by kernel_rfl) (fun _ _ _ h => h) (Or.inl ⟨by rfl, ?_⟩) hHeld ?_
  rotate_left 1
  · (intro w hSw; (try dsimp only at hSw); go_simp; (try with_reducible rfl))
  simp only [List.setIfInBounds_toArray, List.set_cons_zero, List.set_cons_succ]
  refine takeD (i := 7) (d := 32) (v := ?_) rfl rfl (by kernel_rfl) (by kernel_rfl) (by kernel_rfl) (fun _ _ _ h => h) (Or.inl ⟨by rfl, ?_⟩) hHeld ?_
  rotate_left 1
  · (intro w hSw; (try dsimp only at hSw); go_simp; (try with_reducible rfl))
  simp only [List.setIfInBounds_toArray, List.set_cons_zero, List.set_cons_succ]
  refine takeD (i := 8) (d := 33) (v := ?_) rfl rfl (by kernel_rfl) (by kernel_rfl) (by kernel_rfl) (fun _ _ _ h => h) (Or.inl ⟨by rfl, ?_⟩) hHeld ?_
  rotate_left 1
  · (intro w hSw; (try dsimp only at hSw); go_simp; (try with_reducible rfl))
  simp only [List.setIfInBounds_toArray, List.set_cons_zero, List.set_cons_succ]
  refine takeD (i := 9) (d := 34) (v := ?_) rfl rfl (by kernel_rfl) (by kernel_rfl) (by kernel_rfl) (fun _ _ _ h => h) (Or.inl ⟨by rfl, ?_⟩) hHeld ?_
  rotate_left 1
  · (intro w hSw; (try dsimp only at hSw); go_simp; (try with_reducible rfl))
  simp only [List.setIfInBounds_toArray, List.set_cons_zero, List.set_cons_succ]
  refine takeD (i := 10) (d := 35) (v := ?_) rfl rfl (by kernel_rfl) (by kernel_rfl) (by kernel_rfl) (fun _ _ _ h => h) (Or.inl ⟨by rfl, ?_⟩) hHeld ?_
  rotate_left 1
  · (intro w hSw; (try dsimp only at hSw); go_simp; (try with_reducible rfl))
  simp only [List.setIfInBounds_toArray, List.set_cons_zero, List.set_cons_succ]
  refine wpAnyH_ready (rs := [11]) (by kernel_rfl) (by simp) ?_
  refine AllReadyH.cons rfl (fun K hK => ?_) AllReadyH.nil
  go_simp
  refine hK.out _ _ ?_ (fun hHeld => ?_)
  · exact ((Mods.refl (S := [])).alloc _).cell hHeld (by simp)
  clear hK K
  have hlt1 : w.heap.size < w1.heap.size := lt_of_block HR1.out
  have HM2 := Lib.hid (HM1.out.drew.alloc (.cells zK.cells 26))
  have HR2 := Lib.hid (heap_alloc (o' := .cells zK.cells 26) (heap_drew HR1.out))
  have RG2 : (w1.drew.alloc (.cells zK.cells 26)).heap[w1.heap.size]? = some (.cells zK.cells 26 (0, 0)) := heap_alloc_new w1.drew _
  refine wpAnyH_ready (rs := [12]) (by kernel_rfl) (by simp) ?_
  refine AllReadyH.cons rfl (fun K hK => ?_) AllReadyH.nil
  refine exec_store rfl rfl rfl RG2 rfl rfl (by rfl) Try.infoC (cvC_one f sg 0 0 0 0 none 0 0) (fun w3 R3 M3 => ?_)
  refine hK.out _ _ ?_ (fun hHeld => ?_)
  · exact M3.cell hHeld (by simp; omega)
  clear hK K
  refine wpAnyH_done (by kernel_rfl) ?_ _
  dsimp only [noP]
  have HM3 := Lib.hid (HM2.out.comp M3 (fun k hk => by simp at hk; exact .inr (by omega)))
  have HR3 := Lib.hid (M3.heap HR2.out (by simp; omega))
  have HG3 : Hid (w3.heap[w1.heap.size]? = some (.cells (cvC f sg 0 0 0 0 (.slice none 0 0)) 26 (0, 0))) := Lib.hid R3
  have cg0 : w3.cell? ⟨w1.heap.size, 0, none⟩ = some (.int .i64 f) := (cell_blk R3 0).trans rfl
  clear hHeld HM2 HR2 RG2 R3 M3 HM1 HR1
  generalize w1.heap.size = g7 at HG3 cg0 hlt1 ⊢
  clear ew ea eb es
  go_wp2_with fail
  try dsimp only [Act.put]
  refine wp_noPanic ?_
  have i7 : (7 : Int) ≤ (A.length : Int) := by omega
  have j3 : (3 : Int) ≤ (cap : Int) := by omega
  have j5 : (5 : Int) ≤ (cap : Int) := by omega
  have j6 : (6 : Int) ≤ (cap : Int) := by omega
  have j7 : (7 : Int) ≤ (cap : Int) := by omega
  have k1 : ¬ cap = 1 := by omega
  have k3 : ¬ cap = 3 := by omega
  have k5 : ¬ cap = 5 := by omega
  have k6 : ¬ cap = 6 := by omega
  clear cg0
  refine heldStart (S := fun W => Mods [] w W) 20 rfl (by kernel_rfl) HM3.out.drew (fun hHeld => ?_)
  refine takeD (i := 0) (d := 56) (v := ?_) rfl rfl (by kernel_rfl) (by kernel_rfl) (by kernel_rfl) (fun _ _ _ h => h) (Or.inl ⟨by rfl, ?_⟩) hHeld ?_
  rotate_left 1
  · (intro w hSw; (try dsimp only at hSw); go_simp; (try with_reducible rfl))
  simp only [List.setIfInBounds_toArray, List.set_cons_zero, List.set_cons_succ]
  refine takeD (i := 1) (d := 57) (v := ?_) rfl rfl (by kernel_rfl) (by kernel_rfl) (by kernel_rfl) (fun _ _ _ h => h) (Or.inl ⟨by rfl, ?_⟩) hHeld ?_
  rotate_left 1
  · (intro w hSw; clear hSw; go_simp; (try simp only [if_pos, if_neg, j3, j5, j6, j7, k1, k3, k5, k6, if_true, if_false]); (try with_reducible rfl))
  simp only [List.setIfInBounds_toArray, List.set_cons_zero, List.set_cons_succ]
  refine takeD (i := 3) (d := 59) (v := ?_) rfl rfl (by kernel_rfl) (by kernel_rfl) (by kernel_rfl) (fun _ _ _ h => h) (Or.inl ⟨by rfl, ?_⟩) hHeld ?_
  rotate_left 1
  · (intro w hSw; (try dsimp only at hSw); go_simp; (try with_reducible rfl))
  simp only [List.setIfInBounds_toArray, List.set_cons_zero, List.set_cons_succ]
  refine takeD (i := 4) (d := 60) (v := ?_) rfl rfl (by kernel_rfl) (by kernel_rfl) (by kernel_rfl) (fun _ _ _ h => h) (Or.inl ⟨by rfl, ?_⟩) hHeld ?_
  rotate_left 1
  · (intro w hSw; clear hSw; go_simp; (try simp only [if_pos, if_neg, j3, j5, j6, j7, k1, k3, k5, k6, if_true, if_false]); (try with_reducible rfl))
  simp only [List.setIfInBounds_toArray, List.set_cons_zero, List.set_cons_succ]
  refine takeD (i := 6) (d := 62) (v := ?_) rfl rfl (by kernel_rfl) (by kernel_rfl) (by kernel_rfl) (fun _ _ _ h => h) (Or.inl ⟨by rfl, ?_⟩) hHeld ?_
  rotate_left 1
  · (intro w hSw; (try dsimp only at hSw); go_simp; (try with_reducible rfl))
  simp only [List.setIfInBounds_toArray, List.set_cons_zero, List.set_cons_succ]
  refine takeD (i := 7) (d := 63) (v := ?_) rfl rfl (by kernel_rfl) (by kernel_rfl) (by kernel_rfl) (fun _ _ _ h => h) (Or.inl ⟨by rfl, ?_⟩) hHeld ?_
  rotate_left 1
  · (intro w hSw; clear hSw; go_simp; (try simp only [if_pos, if_neg, j3, j5, j6, j7, k1, k3, k5, k6, if_true, if_false]); (try with_reducible rfl))
  simp only [List.setIfInBounds_toArray, List.set_cons_zero, List.set_cons_succ]
  refine takeD (i := 9) (d := 65) (v := ?_) rfl rfl (by kernel_rfl) (by kernel_rfl) (by kernel_rfl) (fun _ _ _ h => h) (Or.inl ⟨by rfl, ?_⟩) hHeld ?_
  rotate_left 1
  · (intro w hSw; (try dsimp only at hSw); go_simp; (try with_reducible rfl))
  simp only [List.setIfInBounds_toArray, List.set_cons_zero, List.set_cons_succ]
  refine takeD (i := 10) (d := 66) (v := ?_) rfl rfl (by kernel_rfl) (by kernel_rfl) (by kernel_rfl) (fun _ _ _ h => h) (Or.inl ⟨by rfl, ?_⟩) hHeld ?_
  rotate_left 1
  · (intro w hSw; clear hSw; go_simp; (try simp only [if_pos, if_neg, j3, j5, j6, j7, k1, k3, k5, k6, if_true, if_false]); (try with_reducible rfl))
  simp only [List.setIfInBounds_toArray, List.set_cons_zero, List.set_cons_succ]
  refine wpAnyH_ready (rs := [2]) (by kernel_rfl) (by simp) ?_
  refine AllReadyH.cons rfl (fun K hK => ?_) AllReadyH.nil
  go_simp
  go_wp2_with (go_at_call 109; refine (read_ok _ _ ((A.drop 1).take 2) ((HV.out.mods0 hHeld).sub 1 3 (by omega) (by omega)) ((HB.out.drop _).take _) (by simp; omega) (by simp; omega)).mono ?_; rintro e w' ⟨rfl, rfl⟩)
  refine hK.out _ _ ?_ (fun hHeld => ?_)
  · exact hHeld
  clear hK K
  refine takeD (i := 12) (d := 68) (v := ?_) rfl rfl (by kernel_rfl) (by kernel_rfl) (by kernel_rfl) (fun _ _ _ h => h) (Or.inl ⟨by rfl, ?_⟩) hHeld ?_
  rotate_left 1
  · (intro w hSw; (try dsimp only at hSw); go_simp; (try with_reducible rfl))
  simp only [List.setIfInBounds_toArray, List.set_cons_zero, List.set_cons_succ]
  refine wpAnyH_ready (rs := [5]) (by kernel_rfl) (by simp) ?_
  refine AllReadyH.cons rfl (fun K hK => ?_) AllReadyH.nil
  go_simp
  go_wp2_with (go_at_call 109; refine (read_ok _ _ ((A.drop 3).take 2) ((HV.out.mods0 hHeld).sub 3 5 (by omega) (by omega)) ((HB.out.drop _).take _) (by simp; omega) (by simp; omega)).mono ?_; rintro e w' ⟨rfl, rfl⟩)
  refine hK.out _ _ ?_ (fun hHeld => ?_)
  · exact hHeld
  clear hK K
  refine wpAnyH_ready (rs := [8]) (by kernel_rfl) (by simp) ?_
  refine AllReadyH.cons rfl (fun K hK => ?_) AllReadyH.nil
  go_simp
  go_wp2_with (go_at_call 109; refine (read_ok _ _ ((A.drop 5).take 1) ((HV.out.mods0 hHeld).sub 5 6 (by omega) (by omega)) ((HB.out.drop _).take _) (by simp; omega) (by simp; omega)).mono ?_; rintro e w' ⟨rfl, rfl⟩)
  refine hK.out _ _ ?_ (fun hHeld => ?_)
  · exact hHeld
  clear hK K
  refine wpAnyH_ready (rs := [11]) (by kernel_rfl) (by simp) ?_
  refine AllReadyH.cons rfl (fun K hK => ?_) AllReadyH.nil
  go_simp
  go_wp2_with (go_at_call 109; refine (read_ok _ _ ((A.drop 6).take 1) ((HV.out.mods0 hHeld).sub 6 7 (by omega) (by omega)) ((HB.out.drop _).take _) (by simp; omega) (by simp; omega)).mono ?_; rintro e w' ⟨rfl, rfl⟩)
  refine hK.out _ _ ?_ (fun hHeld => ?_)
  · exact hHeld
  clear hK K
  have sm := signA_bd HB.out 1 2 (by omega) (by omega) (by omega)
  have sb := signA_bd HB.out 3 2 (by omega) (by omega) (by omega)
  have s1 := signA_bd HB.out 5 1 (by omega) (by omega) (by omega)
  have s2 := signA_bd HB.out 6 1 (by omega) (by omega) (by omega)
  have HDK := Lib.hid (fun pv => (HDC.out pv).trans (if_neg HF5.out))
  have HDQ := Lib.hid (HDP.out.trans (if_neg HF5.out))
  clear HDC HDP HF5
  unfold signA at sm sb s1 s2 HDK
  simp only [List.drop_one] at sm HDK
  generalize sgnL (List.take 2 A.tail) = nm at sm HDK ⊢
  generalize sgnL (List.take 2 (List.drop 3 A)) = nb at sb HDK ⊢
  generalize sgnL (List.take 1 (List.drop 5 A)) = n1 at s1 HDK ⊢
  generalize sgnL (List.take 1 (List.drop 6 A)) = n2 at s2 HDK ⊢
  have RR := heap_drew HG3.out
  have QQ := heap_drew HR3.out
  clear HG3 HR3 HM3
  generalize w3.drew = w3d at RR QQ hHeld ⊢
  have cx : w3d.cell? ⟨g7, 2, none⟩ = some (.int .i64 0) := (cell_blk RR 2).trans rfl
  have fx : w3d.frozen? ⟨g7, 2, none⟩ = false := froz_blk RR 2
  refine wpAnyH_ready (rs := [13]) (by kernel_rfl) (by simp) ?_
  refine AllReadyH.cons rfl (fun K hK => ?_) AllReadyH.nil
  go_simp
  refine hK.out _ _ ?_ (fun hHeld => ?_)
  · exact hHeld.setCell (.inr (by show w.heap.size ≤ g7; omega)) _
  clear hK K
  have R4 := heap_setCell (i := 2) (v := .int .i64 nm) RR
  have Q4 := heap_setCell_ne (a := ⟨g7, 2, none⟩) (v := .int .i64 nm) QQ (by show w.heap.size ≠ g7; omega)
  clear cx fx RR QQ
  generalize w3d.setCell ⟨g7, 2, none⟩ (.int .i64 nm) = w4 at R4 Q4 hHeld ⊢
  have cx : w4.cell? ⟨g7, 3, none⟩ = some (.int .i64 0) := (cell_blk R4 3).trans rfl
  have fx : w4.frozen? ⟨g7, 3, none⟩ = false := froz_blk R4 3
  refine takeD (i := 14) (d := 69) (v := ?_) rfl rfl (by kernel_rfl) (by kernel_rfl) (by kernel_rfl) (fun _ _ _ h => h) (Or.inl ⟨by rfl, ?_⟩) hHeld ?_
  rotate_left 1
  · (intro w hSw; (try dsimp only at hSw); go_simp; (try with_reducible rfl))
  simp only [List.setIfInBounds_toArray, List.set_cons_zero, List.set_cons_succ]
  refine wpAnyH_ready (rs := [15]) (by kernel_rfl) (by simp) ?_
  refine AllReadyH.cons rfl (fun K hK => ?_) AllReadyH.nil
  go_simp
  refine hK.out _ _ ?_ (fun hHeld => ?_)
  · exact hHeld.setCell (.inr (by show w.heap.size ≤ g7; omega)) _
  clear hK K
  have R5 := heap_setCell (i := 3) (v := .int .i64 nb) R4
  have Q5 := heap_setCell_ne (a := ⟨g7, 3, none⟩) (v := .int .i64 nb) Q4 (by show w.heap.size ≠ g7; omega)
  clear cx fx R4 Q4
  generalize w4.setCell ⟨g7, 3, none⟩ (.int .i64 nb) = w5 at R5 Q5 hHeld ⊢
  have cx : w5.cell? ⟨g7, 4, none⟩ = some (.int .i64 0) := (cell_blk R5 4).trans rfl
  have fx : w5.frozen? ⟨g7, 4, none⟩ = false := froz_blk R5 4
  refine takeD (i := 16) (d := 70) (v := ?_) rfl rfl (by kernel_rfl) (by kernel_rfl) (by kernel_rfl) (fun _ _ _ h => h) (Or.inl ⟨by rfl, ?_⟩) hHeld ?_
  rotate_left 1
  · (intro w hSw; (try dsimp only at hSw); go_simp; (try with_reducible rfl))
  simp only [List.setIfInBounds_toArray, List.set_cons_zero, List.set_cons_succ]
  refine wpAnyH_ready (rs := [17]) (by kernel_rfl) (by simp) ?_
  refine AllReadyH.cons rfl (fun K hK => ?_) AllReadyH.nil
  go_simp
  refine hK.out _ _ ?_ (fun hHeld => ?_)
  · exact hHeld.setCell (.inr (by show w.heap.size ≤ g7; omega)) _
  clear hK K
  have R6 := heap_setCell (i := 4) (v := .int .i64 n1) R5
  have Q6 := heap_setCell_ne (a := ⟨g7, 4, none⟩) (v := .int .i64 n1) Q5 (by show w.heap.size ≠ g7; omega)
  clear cx fx R5 Q5
  generalize w5.setCell ⟨g7, 4, none⟩ (.int .i64 n1) = w6 at R6 Q6 hHeld ⊢
  have cx : w6.cell? ⟨g7, 5, none⟩ = some (.int .i64 0) := (cell_blk R6 5).trans rfl
  have fx : w6.frozen? ⟨g7, 5, none⟩ = false := froz_blk R6 5
  refine takeD (i := 18) (d := 71) (v := ?_) rfl rfl (by kernel_rfl) (by kernel_rfl) (by kernel_rfl) (fun _ _ _ h => h) (Or.inl ⟨by rfl, ?_⟩) hHeld ?_
  rotate_left 1
  · (intro w hSw; (try dsimp only at hSw); go_simp; (try with_reducible rfl))
  simp only [List.setIfInBounds_toArray, List.set_cons_zero, List.set_cons_succ]
  refine wpAnyH_ready (rs := [19]) (by kernel_rfl) (by simp) ?_
  refine AllReadyH.cons rfl (fun K hK => ?_) AllReadyH.nil
  go_simp
  refine hK.out _ _ ?_ (fun hHeld => ?_)
  · exact hHeld.setCell (.inr (by show w.heap.size ≤ g7; omega)) _
  clear hK K
  have R7 := heap_setCell (i := 5) (v := .int .i64 n2) R6
  have Q7 := heap_setCell_ne (a := ⟨g7, 5, none⟩) (v := .int .i64 n2) Q6 (by show w.heap.size ≠ g7; omega)
  clear cx fx R6 Q6
  generalize w6.setCell ⟨g7, 5, none⟩ (.int .i64 n2) = w7 at R7 Q7 hHeld ⊢
  refine wpAnyH_done (by kernel_rfl) ?_ _
  dsimp only [noP]
  have HM7 := Lib.hid hHeld
  have HR7 : Hid (w7.heap[g7]? = some (.cells (cvC f sg nm nb n1 n2 (.slice none 0 0)) 26 (0, 0))) := Lib.hid R7
  have HQ7 := Lib.hid Q7
  clear hHeld R7 Q7
  have HC : Hid (IsConv w7 ⟨f, sg, nm, nb, n1, n2, .slice none 0 0⟩ []) := Lib.hid ⟨RdPts.nil _, PtsOk.nil, show I64 f from i64_small ⟨by omega, by omega⟩, sm, sb, s1, s2⟩
  have HE0 : Hid (errC A = if convB ⟨f, sg, nm, nb, n1, n2, .slice none 0 0⟩ [] then 0 else 1) := Lib.hid (by rw [HU.out, HDK.out, HDQ.out])
  clear HU
  go_wp2_with (refine wpList_load_row rfl 26 (.tmp 7) rfl g7 (by rfl) _ _ _ _ HR7.out Try.underlying26 rfl Try.infoC ?_)
  refine (convValid_ok w7 ⟨f, sg, nm, nb, n1, n2, .slice none 0 0⟩ [] HC.out).mono ?_
  rintro e w8 ⟨rfl, M8⟩
  have HM8 := Lib.hid (HM7.out.trans M8)
  have HR8 := Lib.hid (M8.heap HR7.out (by simp))
  have HQ8 := Lib.hid (M8.heap HQ7.out (by simp))
  have HM78 := Lib.hid M8
  clear M8 HR7 HQ7
  cases hv : convB ⟨f, sg, nm, nb, n1, n2, .slice none 0 0⟩ [] with
  | false =>
    have HN := Lib.hid (show errC A ≠ 0 by rw [HE0.out, hv]; decide)
    have HR := Lib.hid (show errC A = 1 by rw [HE0.out, hv]; rfl)
    clear hv
    go_wp2_with (refine wpList_store_row (cs := zK.cells) rfl 26 (.tmp 2) (.tmp 75) rfl HQ8.out (by rfl) (by rfl) rfl Try.infoC zK_one ?_; intro w9 R9 M9)
    have HM9 := HM8.out.comp M9 (fun k hk => by simp at hk; exact .inr (by omega))
    refine ⟨_, results_cell_row3 rfl _ _ w.heap.size _ _ _ _ rfl R9 Try.underlying26 rfl Try.infoC, ?_⟩
    have := HE.out w9 HN.out HM9
    rw [HR.out] at this
    exact this
  | true =>
    have HR := Lib.hid (show errC A = 0 by rw [HE0.out, hv]; rfl)
    clear hv
    go_wp2_with (first
      | (refine wpList_load_row rfl 26 (.tmp 7) rfl g7 (by rfl) _ _ _ _ HR8.out Try.underlying26 rfl Try.infoC ?_)
      | (refine wpList_store_row (cs := cvC f sg nm nb n1 n2 (.slice none 0 0)) rfl 26 (.tmp 2) (.tmp 76) rfl HQ8.out (by rfl) (by rfl) rfl Try.infoC (cvC_one _ _ _ _ _ _ _ _ _) ?_; intro w9 R9 M9))
    have HM9 := HM8.out.comp M9 (fun k hk => by simp at hk; exact .inr (by omega))
    refine ⟨_, results_cell_row3 rfl _ _ w.heap.size _ _ _ _ rfl R9 Try.underlying26 rfl Try.infoC, ?_⟩
    show DecRes w A _ w9
    unfold DecRes
    rw [if_pos HR.out, HDQ.out]
    exact ⟨.slice none 0 0, by rw [HDK.out]; rfl, OwnPts.nil _ _, HM9⟩
end Go.Proofs.Ytijjkonephjodaa

namespace Go.Proofs.Ytijjkonephjodaa
open Go.RowKit Go.Shelf

attribute [local go_sem] Oper.semAt_some

/-- append of one point within a region that draws its order; only the slice's own block may have turned. -/
theorem step_pushD2 {ops : Array Oper} {o : Oper} {a : Act} {w : World} {K : Act → World → Prop} {Q : Exit → Act → World → Prop} {E : Prop} (hgd : o.guard = none) (d : Nat) (hd : o.dst = some d) (s x : Operand)
    (ho : o.op = .call { callee := .builtin .append, args := #[s, x], argTypes := #[24, 24] })
    (B : Nat) (v : Value) (P : List Pt) (hs : a.eval s = v) (hown : OwnPts w B v P) (g : Nat) (p : Pt) (T : TypeId) (fr : Nat × Nat) (hg : w.heap[g]? = some (.cells #[.int .u8 p.raw, .int .i64 p.val] T fr)) (hx : a.eval x = .slice (some ⟨g, 0, none⟩) 1 1)
    (hn : P.length ≤ 1000000) (hbase : B ≤ w.heap.size)
    (h : ∀ g' cap w', OwnPts w' B (.slice (some ⟨g', 0, none⟩) (P.length + 1) cap) (P ++ [p]) → Mods v.ownBlock.toList w w' → K { a with tmps := a.tmps.setIfInBounds d (.slice (some ⟨g', 0, none⟩) (P.length + 1) cap) } w') :
    if Region.wanted o (yielded ops a.tmps) = true then Oper.wp Try.prog o a w K Q else E := by
  obtain ⟨i0, hi, hz0, hz1, hz2⟩ := info_parts Try.infoP
  refine step_append_lies _ hgd s x _ ho B 115 i0 _ 2 16 Try.underlying24 hi hz0 hz1 hz2 rfl (by decide) v P.length (ptsCells P) hs hown ⟨g, 0, none⟩ 1 1 [.int .u8 p.raw, .int .i64 p.val] hx rfl ?_ (by intro u hu; simp at hu; rcases hu with rfl | rfl <;> rfl) (by decide) (by unfold maxLen; omega) (by omega) hbase w.heap.size rfl ?_
  · intro j u hj
    exact World.news_of_block (cs := #[.int .u8 p.raw, .int .i64 p.val]) (t := T) (fr := fr) hg j u hj
  · intro g' cap w' h1 h2 _ _
    have h := h g' cap w' ?_ (Mods.of_grown h2)
    · unfold Act.put; rw [hd]; exact h
    unfold OwnPts
    rw [ptsCells_snoc, List.length_append]
    exact h1
theorem heap_grown {W W' : World} {row : Option Nat} {g : Nat} {o : Obj} (hg : W.grownBy W' row) (h : W.heap[g]? = some o) (hr : ∀ r, row = some r → ∃ o' : Obj, W.heap[r]? = some o' ∧ o'.isCells = false) (hc : o.isCells = true) : W'.heap[g]? = some o :=
  (grownBy_keeps_cells hg hr h hc).trans h
theorem keepsFrom_mods {B : Nat} {S : List Nat} {W W' : World} (M : Mods S W W') (hS : ∀ k ∈ S, ∃ o : Obj, W.heap[k]? = some o ∧ o.isCells = true) : KeepsFrom B W W' :=
  ⟨M.size, fun k o _ hk ho => M.heap hk (fun hm => by obtain ⟨o', h1, h2⟩ := hS k hm; rw [hk] at h1; cases h1; rw [ho] at h2; cases h2)⟩
theorem own_cells {w : World} {B : Nat} {v : Value} {P : List Pt} (h : OwnPts w B v P) : ∀ k ∈ v.ownBlock.toList, B ≤ k ∧ ∃ o : Obj, w.heap[k]? = some o ∧ o.isCells = true := by
  intro k hk
  obtain ⟨hl, h⟩ := h
  rcases h with ⟨rfl, h0⟩ | ⟨g, cap, cur, rfl, hB, hg, rest⟩
  · simp [Value.ownBlock] at hk
  · simp [Value.ownBlock] at hk
    subst hk
    exact ⟨hB, _, hg, rfl⟩
/-- Within a round: c's block gc, the result's block gr; W0: the world when the round began. -/
structure Lp (w W0 : World) (B gc gr Bs Bn : Nat) (sg : Bool) (pv : Value) (W : World) : Prop where
  G : W.heap[gc]? = some (.cells (cvC 5 sg 0 0 0 0 pv) 26 (0, 0))
  R : W.heap[gr]? = some (.cells zK.cells 26 (0, 0))
  M : Mods [] w W
  K : KeepsFrom B W0 W
  T : KeepB Bs Bn W0 W
  z : B ≤ W.heap.size
/-- Where the blocks lie. -/
structure Lo (w : World) (B gc gr Bs Bn : Nat) : Prop where
  c : gc < B
  r : gr < B
  s : Bs < B
  n : Bn < B
  ww : w.heap.size ≤ B
  wc : w.heap.size ≤ gc
  cr : gc ≠ gr
  cs : gc ≠ Bs
  cn : gc ≠ Bn
section
variable {w W0 W W' : World} {B gc gr Bs Bn : Nat} {sg : Bool} {pv : Value} {P : List Pt}
theorem Lp.mods (h : Lp w W0 B gc gr Bs Bn sg pv W) (o : Lo w B gc gr Bs Bn) {S : List Nat} (M : Mods S W W') (hS : ∀ k ∈ S, B ≤ k ∧ ∃ o : Obj, W.heap[k]? = some o ∧ o.isCells = true) : Lp w W0 B gc gr Bs Bn sg pv W' :=
  have hz := h.z
  have ⟨_, _, _, _, _, _, _, _, _⟩ := o
  ⟨M.heap h.G (fun hm => by have := (hS _ hm).1; omega), M.heap h.R (fun hm => by have := (hS _ hm).1; omega), h.M.comp M (fun k hk => .inr (by have := (hS _ hk).1; omega)), h.K.trans (keepsFrom_mods M (fun k hk => (hS k hk).2)),
    h.T.trans (KeepB.mods M (by omega) (by omega) (fun hm => by have := (hS _ hm).1; omega) (fun hm => by have := (hS _ hm).1; omega)), Nat.le_trans h.z M.size⟩
theorem Lp.mods0 (h : Lp w W0 B gc gr Bs Bn sg pv W) (o : Lo w B gc gr Bs Bn) (M : Mods [] W W') : Lp w W0 B gc gr Bs Bn sg pv W' := h.mods o M (fun k hk => by cases hk)
theorem Lp.drew (h : Lp w W0 B gc gr Bs Bn sg pv W) : Lp w W0 B gc gr Bs Bn sg pv W.drew := ⟨h.G, h.R, h.M.drew, ⟨h.K.size, h.K.same⟩, h.T, h.z⟩
theorem Lp.set (h : Lp w W0 B gc gr Bs Bn sg pv W) (o : Lo w B gc gr Bs Bn) (pv' : Value) : Lp w W0 B gc gr Bs Bn sg pv' (W.setCell ⟨gc, 6, none⟩ pv') := by
  have hz := h.z
  obtain ⟨_, _, _, _, _, _, _, _, _⟩ := o
  have MS := (Mods.refl (S := [gc]) (w := W)).setCell (p := ⟨gc, 6, none⟩) (.inl (by simp)) pv'
  exact ⟨heap_setCell (i := 6) (v := pv') h.G, heap_setCell_ne h.R (by show gr ≠ gc; omega), h.M.comp MS (fun k hk => by simp at hk; exact .inr (by omega)), h.K.trans (keepsFrom_mods MS (fun k hk => by simp at hk; subst hk; exact ⟨_, h.G, rfl⟩)),
    h.T.trans (KeepB.mods MS (by omega) (by omega) (by simp; omega) (by simp; omega)), Nat.le_trans hz MS.size⟩
def Lpi (w : World) (B gc gr Bs Bn : Nat) (sg : Bool) {k : Nat} (pt : Fin k → Pt) (pre : List (Fin k)) (W : World) : Prop := ∃ pv, Lp w W B gc gr Bs Bn sg pv W ∧ OwnPts W B pv (pre.map pt)
theorem Lpi.own {k : Nat} {pt : Fin k → Pt} (o : Lo w B gc gr Bs Bn) : OwnFrom B (Lpi w B gc gr Bs Bn sg pt) := by
  intro s W W' row hs hg hr
  obtain ⟨pv, h, hO⟩ := hs
  have hr' := fun r e => (hr r e).2
  refine ⟨pv, ⟨heap_grown hg h.G hr' rfl, heap_grown hg h.R hr' rfl, h.M.grown hg (fun k e => .inr (Nat.le_trans o.ww (hr k e).1)), KeepsFrom.refl _ _, KeepB.refl, Nat.le_trans h.z hg.size⟩, ?_⟩
  refine (Mods.of_grown hg).owns hO (fun k hk hm => ?_)
  obtain ⟨_, h1, h2⟩ := hr' k (by simpa using hm)
  obtain ⟨_, _, h3, h4⟩ := own_cells hO k (by rw [hk]; simp)
  rw [h1] at h3
  cases h3
  rw [h2] at h4
  cases h4
end
theorem ptsOf_snoc (A : List Int) {k : Nat} (ys : List (Fin k)) (x : Fin k) : (ys ++ [x]).map (fun i => (⟨(A.getD (2 + 7 * i.val) 0).toNat, signA A (3 + 7 * i.val) 6⟩ : Pt)) = ys.map (fun i => (⟨(A.getD (2 + 7 * i.val) 0).toNat, signA A (3 + 7 * i.val) 6⟩ : Pt)) ++ [⟨(A.getD (2 + 7 * x.val) 0).toNat, signA A (3 + 7 * x.val) 6⟩] := by
  rw [List.map_append]; rfl
theorem ptsOf_get {A : List Int} {k i : Nat} : (ptsOf A k).getD i default = if i < k then ⟨(A.getD (2 + 7 * i) 0).toNat, signA A (3 + 7 * i) 6⟩ else default := by
  unfold ptsOf
  by_cases h : i < k
  · rw [if_pos h]; simp [List.getD_eq_getElem?_getD, h]
  · rw [if_neg h]; simp [List.getD_eq_getElem?_getD, h]
theorem ptsOf_ok {A : List Int} (hb : Bytes A) {k : Nat} (hk : 2 + 7 * k ≤ A.length) (h12 : k ≤ 1000) : PtsOk (ptsOf A k) := by
  refine ⟨by simp [ptsOf]; omega, fun i => ?_, fun i => ?_⟩
  · rw [ptsOf_get]
    split
    · have := hb (2 + 7 * i); simp only; omega
    · simp [default]
  · rw [ptsOf_get]
    split
    · exact signA_bd hb _ 6 (by decide) (by omega) (by decide)
    · simp [default, I64]
set_option maxRecDepth 100000 in
set_option maxHeartbeats 4000000 in
theorem convDec_tab (w : World) (v : Value) (A : List Int) (hv : Rd w v (u8s A)) (hb : Bytes A) (hl : (lenC A).2 = 0) (hlt : ¬ (A.length : Int) < (lenC A).1) (h5 : A.getD 0 0 % 128 = 5) :
    Calls Try.prog 90 #[v] w fun e w' => DecRes w A e w' := by
  have HV := Lib.hid hv
  have HB := Lib.hid hb
  have HL := Lib.hid (fun W (M : Mods [] w W) => length_ok W v A (hv.mods0 M) hb)
  obtain ⟨ad, cap, rfl, h1, h2, -⟩ := hv.u8
  have h3 : cap ≤ 9223372036854775807 := h2
  clear hv hb h2
  have HE : Hid (∀ W, errC A ≠ 0 → Mods [] w W → DecRes w A (.returned (.tuple #[.agg zK.cells, .int .i64 0, .int .i64 (errC A)])) W) := Lib.hid fun W h M => by unfold DecRes; rw [if_neg h]; exact ⟨rfl, M⟩
  have HU := Lib.hid (show errC A = if (lenC A).2 ≠ 0 then (lenC A).2 else if (A.length : Int) < (lenC A).1 then 4 else if convB (decC A (.slice none 0 0)) (decP A) then 0 else 1 from rfl)
  have R0 := Lib.hid (heap_alloc_new w (.cells zK.cells 26))
  have M0 := Lib.hid ((Mods.refl (S := []) (w := w)).alloc (.cells zK.cells 26))
  have hlb : ((lenC A).2 != 0) = false := by simpa using hl
  have HU := Lib.hid (HU.out.trans (if_neg (fun h => h hl)))
  have dlt : decide ((A.length : Int) < (lenC A).1) = false := decide_eq_false hlt
  have HU := Lib.hid (HU.out.trans (if_neg hlt))
  obtain ⟨h0, hf15, hcase⟩ := lenC_facts hl
  have hp : 0 < A.length := List.length_pos_iff.2 h0
  obtain ⟨_, _, he, _, _, hc⟩ := HV.out.u8
  obtain ⟨bb, off, rfl, x0⟩ := hc 0 hp
  injection he with he1 he2 he3
  subst he1 he3
  clear hc he2 h0
  rw [Nat.add_zero] at x0
  have hbb : bb < w.heap.size := World.block_lt_of_cell? w _ x0
  have HX0 := Lib.hid x0
  have hb0 := HB.out 0
  have ea := andNot128 _ hb0
  have eb := and128 _ hb0
  have es : ((if 128 ≤ A.getD 0 0 then (128 : Int) else 0) != 0) = decide (128 ≤ A.getD 0 0) := by
    by_cases h : 128 ≤ A.getD 0 0
    · rw [if_pos h, decide_eq_true h]; rfl
    · rw [if_neg h, decide_eq_false h]; rfl
  have HDC := Lib.hid (show ∀ pv, decC A pv = if A.getD 0 0 % 128 = 5 then ⟨5, decide (128 ≤ A.getD 0 0), 0, 0, 0, 0, pv⟩ else ⟨A.getD 0 0 % 128, decide (128 ≤ A.getD 0 0), signA A 1 2, signA A 3 2, signA A 5 1, signA A 6 1, pv⟩ from fun _ => rfl)
  have HDP := Lib.hid (show decP A = if A.getD 0 0 % 128 = 5 then ptsOf A (A.getD 1 0).toNat else [] from rfl)
  clear x0
  generalize A.getD 0 0 = x at hb0 ea eb es hf15 hcase h5 HX0 HDC HDP
  generalize (if 128 ≤ x then (128 : Int) else 0) = s128 at eb es
  generalize decide (128 ≤ x) = sg at es HDC
  generalize x % 128 = f at ea hf15 hcase h5 HDC HDP
  obtain ⟨hf1, hf5⟩ := hf15
  obtain ⟨hb00, hb01⟩ := hb0
  have i0 : (0 : Int) < (A.length : Int) := by omega
  have ew : IntKind.i64.wrap f = f := IntWalk.i64_in _ (by omega)
  obtain ⟨-, hy2, hy12, hn7⟩ : f = 5 ∧ 2 ≤ A.getD 1 0 ∧ A.getD 1 0 ≤ 12 ∧ (lenC A).1 = 2 + 7 * A.getD 1 0 := by rcases hcase with h | h; exact absurd h5 h.1; exact h
  subst h5
  clear hcase hf1 hf5
  have HDK := Lib.hid (fun pv => (HDC.out pv).trans (if_pos rfl))
  have HDQ := Lib.hid (HDP.out.trans (if_pos rfl))
  clear HDC HDP
  obtain ⟨k, hk⟩ : ∃ k : Nat, A.getD 1 0 = (k : Int) := ⟨(A.getD 1 0).toNat, by omega⟩
  rw [hk] at hy2 hy12 hn7 HDQ
  rw [Int.toNat_natCast] at HDQ
  have HN := Lib.hid hn7
  generalize hnn : (lenC A).1 = nn at hn7 HN dlt hlt HL HU
  have HNN := Lib.hid hnn
  clear hnn
  have n2 : (2 : Int) ≤ nn := by omega
  have n3 : nn ≤ (cap : Int) := by omega
  have n4 : nn.toNat = 2 + 7 * k := by omega
  have n5 : (0 : Int) ≤ nn := by omega
  have k2 : ¬ cap = 2 := by omega
  have hkA : 2 + 7 * k ≤ A.length := by omega
  have hk12 : k ≤ 12 := by omega
  clear hn7 hl hlt hk
  refine (callsIn_wide (n := 4)).1 (callsIn_of_wp_marks Try.func90 rfl trivial (wpIn_wide.2 ?_))
  simp only [Try.ntmps90, List.size_toArray, List.length_cons, List.length_nil, Nat.reduceAdd, Nat.reduceSub, Array.replicate_succ, Array.replicate_zero, List.push_toArray, List.append_toArray, List.nil_append, List.cons_append]
  go_wp2_with fail
  refine (HL.out _ M0.out).mono ?_
  rintro e w1 ⟨rfl, hw1⟩
  have HR1 : Hid (w1.heap[w.heap.size]? = some (.cells zK.cells 26 (0, 0))) := Lib.hid (by rw [← hw1]; exact R0.out)
  have HM1 : Hid (Mods [] w w1) := Lib.hid (by rw [← hw1]; exact M0.out)
  clear hw1
  go_wp2_with fail
  try dsimp only [Act.put]
  refine wp_noPanic ?_
  refine heldStart (S := fun W => W.cell? ⟨bb, off, none⟩ = some (.int .u8 x)) 13 rfl (by kernel_rfl) (HM1.out.drew.cell HX0.out (by simp)) (fun hHeld => ?_)
  refine takeD (i := 0) (d := 25) (v := ?_) rfl rfl (by kernel_rfl) (by kernel_rfl) (by kernel_rfl) (fun _ _ _ h => h) (Or.inl ⟨by rfl, ?_⟩) hHeld ?_
  rotate_left 1
  · (intro w hSw; (try dsimp only at hSw); go_simp; (try with_reducible rfl))
  simp only [List.setIfInBounds_toArray, List.set_cons_zero, List.set_cons_succ]
  refine takeD (i := 1) (d := 26) (v := ?_) rfl rfl (by kernel_rfl) (by kernel_rfl) (by kernel_rfl) (fun _ _ _ h => h) (Or.inl ⟨by rfl, ?_⟩) hHeld ?_
  rotate_left 1
  · (intro w hSw; (try dsimp only at hSw); go_simp; (try with_reducible rfl))
  simp only [List.setIfInBounds_toArray, List.set_cons_zero, List.set_cons_succ]
  refine takeD (i := 2) (d := 27) (v := ?_) rfl rfl (by kernel_rfl) (by kernel_rfl) (by kernel_rfl) (fun _ _ _ h => h) (Or.inl ⟨by rfl, ?_⟩) hHeld ?_
  rotate_left 1
  · (intro w hSw; (try dsimp only at hSw); go_simp; (try with_reducible rfl))
  simp only [List.setIfInBounds_toArray, List.set_cons_zero, List.set_cons_succ]
  refine takeD (i := 3) (d := 28) (v := ?_) rfl rfl (by kernel_rfl) (by kernel_rfl) (by kernel_rfl) (fun _ _ _ h => h) (Or.inl ⟨by rfl, ?_⟩) hHeld ?_
  rotate_left 1
  · (intro w hSw; (try dsimp only at hSw); go_simp; (try with_reducible rfl))
  simp only [List.setIfInBounds_toArray, List.set_cons_zero, List.set_cons_succ]
  refine takeD (i := 4) (d := 29) (v := ?_) rfl rfl (by kernel_rfl) (by kernel_rfl) (by kernel_rfl) (fun _ _ _ h => h) (Or.inl ⟨by rfl, ?_⟩) hHeld ?_
  rotate_left 1
  · (intro w hSw; (try dsimp only at hSw); go_simp; (try with_reducible rfl))
  simp only [List.setIfInBounds_toArray, List.set_cons_zero, List.set_cons_succ]
  refine takeD (i := 5) (d := 30) (v := ?_) rfl rfl (by kernel_rfl) (by kernel_rfl) (by kernel_rfl) (fun _ _ _ h => h) (Or.inl ⟨by rfl, ?_⟩) hHeld ?_
  rotate_left 1
  · (intro w hSw; (try dsimp only at hSw); go_simp; (try with_reducible rfl))
  simp only [List.setIfInBounds_toArray, List.set_cons_zero, List.set_cons_succ]
  refine takeD (i := 6) (d := 31) (v := ?_) rfl rfl (by kernel_rfl) (by kernel_rfl) (by kernel_rfl) (fun _ _ _ h => h) (Or.inl ⟨by rfl, ?_⟩) hHeld ?_
  rotate_left 1
  · (intro w hSw; (try dsimp only at hSw); go_simp; (try with_reducible rfl))
  simp only [List.setIfInBounds_toArray, List.set_cons_zero, List.set_cons_succ]
  refine takeD (i := 7) (d := 32) (v := ?_) rfl rfl (by kernel_rfl) (by kernel_rfl) (by kernel_rfl) (fun _ _ _ h => h) (Or.inl ⟨by rfl, ?_⟩) hHeld ?_
  rotate_left 1
  · (intro w hSw; (try dsimp only at hSw); go_simp; (try with_reducible rfl))
  simp only [List.setIfInBounds_toArray, List.set_cons_zero, List.set_cons_succ]
  refine takeD (i := 8) (d := 33) (v := ?_) rfl rfl (by kernel_rfl) (by kernel_rfl) (by kernel_rfl) (fun _ _ _ h => h) (Or.inl ⟨by rfl, ?_⟩) hHeld ?_
  rotate_left 1
  · (intro w hSw; (try dsimp only at hSw); go_simp; (try with_reducible rfl))
  simp only [List.setIfInBounds_toArray, List.set_cons_zero, List.set_cons_succ]
  refine takeD (i := 9) (d := 34) (v := ?_) rfl rfl (by kernel_rfl) (by kernel_rfl) (by kernel_rfl) (fun _ _ _ h => h) (Or.inl ⟨by rfl, ?_⟩) hHeld ?_
  rotate_left 1
  · (intro w hSw; (try dsimp only at hSw); go_simp; (try with_reducible rfl))
  simp only [List.setIfInBounds_toArray, List.set_cons_zero, List.set_cons_succ]
  refine takeD (i := 10) (d := 35) (v := ?_) rfl rfl (by kernel_rfl) (by kernel_rfl) (by kernel_rfl) (fun _ _ _ h => h) (Or.inl ⟨by rfl, ?_⟩) hHeld ?_
  rotate_left 1
  · (intro w hSw; (try dsimp only at hSw); go_simp; (try with_reducible rfl))
  simp only [List.setIfInBounds_toArray, List.set_cons_zero, List.set_cons_succ]
  refine wpAnyH_ready (rs := [11]) (by kernel_rfl) (by simp) ?_
  refine AllReadyH.cons rfl (fun K hK => ?_) AllReadyH.nil
  go_simp
  refine hK.out _ _ ?_ (fun hHeld => ?_)
  · exact ((Mods.refl (S := [])).alloc _).cell hHeld (by simp)
  clear hK K
  have hlt1 : w.heap.size < w1.heap.size := lt_of_block HR1.out
  have HM2 := Lib.hid (HM1.out.drew.alloc (.cells zK.cells 26))
  have HR2 := Lib.hid (heap_alloc (o' := .cells zK.cells 26) (heap_drew HR1.out))
  have RG2 : (w1.drew.alloc (.cells zK.cells 26)).heap[w1.heap.size]? = some (.cells zK.cells 26 (0, 0)) := heap_alloc_new w1.drew _
  refine wpAnyH_ready (rs := [12]) (by kernel_rfl) (by simp) ?_
  refine AllReadyH.cons rfl (fun K hK => ?_) AllReadyH.nil
  refine exec_store rfl rfl rfl RG2 rfl rfl (by rfl) Try.infoC (cvC_one 5 sg 0 0 0 0 none 0 0) (fun w3 R3 M3 => ?_)
  refine hK.out _ _ ?_ (fun hHeld => ?_)
  · exact M3.cell hHeld (by simp; omega)
  clear hK K
  refine wpAnyH_done (by kernel_rfl) ?_ _
  dsimp only [noP]
  have HM3 := Lib.hid (HM2.out.comp M3 (fun k hk => by simp at hk; exact .inr (by omega)))
  have HR3 := Lib.hid (M3.heap HR2.out (by simp; omega))
  have HG3 : Hid (w3.heap[w1.heap.size]? = some (.cells (cvC 5 sg 0 0 0 0 (.slice none 0 0)) 26 (0, 0))) := Lib.hid R3
  have cg0 : w3.cell? ⟨w1.heap.size, 0, none⟩ = some (.int .i64 5) := (cell_blk R3 0).trans rfl
  clear hHeld HM2 HR2 RG2 R3 M3 HM1 HR1
  generalize w1.heap.size = g7 at HG3 cg0 hlt1 ⊢
  clear ew ea eb es
  clear cg0
  have cg0 : w3.cell? ⟨g7, 0, none⟩ = some (.int .i64 5) := (cell_blk HG3.out 0).trans rfl
  go_wp2_with fail
  refine (chunk_ok _ _ _ _).mono ?_
  rintro e w4 ⟨rfl, hw4⟩
  have hw4s : w4.heap.size = w3.heap.size + 2 := by rw [hw4]; simp
  have M34 : Mods [] w3 w4 := by rw [hw4]; exact (Mods.refl.alloc _).alloc _
  have bS : w4.cell? ⟨w3.heap.size, 0, none⟩ = some (.slice (some ⟨bb, off + 2, none⟩) (7 * k) (cap - 2)) := by rw [hw4]; exact (cell_blk (heap_alloc (heap_alloc_new w3 _)) 0).trans rfl
  have bN : w4.cell? ⟨w3.heap.size + 1, 0, none⟩ = some (.int .i64 7) := by
    rw [hw4]
    have := heap_alloc_new (w3.alloc (.cells #[.slice (some ⟨bb, off + 2, none⟩) (7 * k) (cap - 2)] 33)) (.cells #[.int .i64 7] 3)
    rw [World.size_alloc] at this
    exact (cell_blk this 0).trans rfl
  have hg73 := lt_of_block HG3.out
  have hgr3 := lt_of_block HR3.out
  have LO : Lo w w4.heap.size g7 w.heap.size w3.heap.size (w3.heap.size + 1) := ⟨by omega, by omega, by omega, by omega, by omega, by omega, by omega, by omega, by omega⟩
  have HI0 : Hid (Lpi w w4.heap.size g7 w.heap.size w3.heap.size (w3.heap.size + 1) sg (fun i : Fin k => (⟨(A.getD (2 + 7 * i.val) 0).toNat, signA A (3 + 7 * i.val) 6⟩ : Pt)) [] w4) :=
    Lib.hid ⟨_, ⟨M34.heap HG3.out (by simp), M34.heap HR3.out (by simp), HM3.out.trans M34, KeepsFrom.refl _ _, KeepB.refl, Nat.le_refl _⟩, OwnPts.nil _ _⟩
  have hL1 : w3.heap.size < w4.heap.size := by omega
  have hL2 : w3.heap.size + 1 < w4.heap.size := by omega
  have HLO := Lib.hid LO
  have HC := Lib.hid (fun i (hi : i < A.length) => show w.cell? ⟨bb, off + i, none⟩ = some (.int .u8 (A.getD i 0)) from by
    obtain ⟨_, _, he, _, _, hc⟩ := HV.out.u8
    injection he with he1 _ _
    subst he1
    obtain ⟨b', o', he, hx⟩ := hc i hi
    cases he
    exact hx)
  clear hw4 M34 LO HM3 HG3 HR3 cg0 hg73 hgr3 hw4s
  generalize hBs : w3.heap.size = Bs at bS bN HI0 hL1 hL2 HLO ⊢
  clear hBs
  go_wp2_with fail
  refine (wpIn_wide (n := 4)).1 ?_
  refine wpIn_rangeFunc_ownG (n := 4) rfl (by decide) (gf := 118) (lb := #[.pointer (some ⟨Bs, 0, none⟩), .pointer (some ⟨Bs + 1, 0, none⟩)]) rfl trivial (enters_of Try.func118 (by kernel_rfl) rfl)
    (chunk_stops 3 (by decide) Bs (Bs + 1) bb (off + 2) k (cap - 2) (by omega) (by omega) w4 hL1 hL2 bS bN) KeepB.trans (KeepB.book hL1 hL2) (Below.refl _ _) (fun _ => rfl)
    (Lpi w w4.heap.size g7 w.heap.size Bs (Bs + 1) sg (fun i : Fin k => (⟨(A.getD (2 + 7 * i.val) 0).toNat, signA A (3 + 7 * i.val) 6⟩ : Pt))) (fun _ _ _ => False) (Lpi.own HLO.out) (fun _ _ _ _ _ hs _ _ => hs) HI0.out ?a1 ?assign ?body ?done ?stop
  case assign =>
    intro l x W K hK
    unfold chunkV
    gi_wp2
    exact hK
  case stop =>
    intro D c pre W _ _ h
    exact h.elim
  case body =>
    rintro l pre x W ⟨pv, HLp, HOw⟩ hlen
    have hx := x.isLt
    have HBY := Lib.hid (fun i (hi : i < 7) => show w.cell? ⟨bb, off + 2 + 7 * x.val + i, none⟩ = some (.int .u8 (A.getD (2 + 7 * x.val + i) 0)) from by
      have := HC.out (2 + 7 * x.val + i) (by omega)
      rwa [show off + (2 + 7 * x.val + i) = off + 2 + 7 * x.val + i by omega] at this)
    have c0 := HBY.out 0 (by omega)
    simp only [Nat.add_zero] at c0
    have hbx := HB.out (2 + 7 * x.val)
    obtain ⟨rr, hrr⟩ : ∃ rr : Nat, A.getD (2 + 7 * x.val) 0 = (rr : Int) := ⟨(A.getD (2 + 7 * x.val) 0).toNat, by omega⟩
    have HRR := Lib.hid hrr
    rw [hrr] at c0
    have HLQ := Lib.hid HLp
    have HOQ := Lib.hid HOw
    have hP : (pre.map (fun i : Fin k => (⟨(A.getD (2 + 7 * i.val) 0).toNat, signA A (3 + 7 * i.val) 6⟩ : Pt))).length ≤ 12 := by rw [List.length_map]; omega
    have HPS := Lib.hid (ptsOf_snoc A pre x)
    rw [hrr, Int.toNat_natCast] at HPS
    generalize pre.map (fun i : Fin k => (⟨(A.getD (2 + 7 * i.val) 0).toNat, signA A (3 + 7 * i.val) 6⟩ : Pt)) = P at HOQ hP HPS
    have HRD : Hid (∀ W' : World, Mods [] w W' → Rd W' (.slice (some ⟨bb, off + 2 + 7 * x.val + 1, none⟩) 6 6) (u8s ((A.drop (3 + 7 * x.val)).take 6))) := Lib.hid (fun W' M => by
      have hl : ((A.drop (3 + 7 * x.val)).take 6).length = 6 := by simp; omega
      have := rdOfCells (w := W') (g := bb) (o := off + 2 + 7 * x.val + 1) (A := (A.drop (3 + 7 * x.val)).take 6) (cap := 6) (by omega) (by decide) (fun i hi => by
        rw [hl] at hi
        have := M.cell (HBY.out (1 + i) (by omega)) (by simp)
        rw [show off + 2 + 7 * x.val + (1 + i) = off + 2 + 7 * x.val + 1 + i by omega] at this
        rw [this]
        simp [List.getD_eq_getElem?_getD, hi, show 2 + 7 * x.val + (1 + i) = 3 + 7 * x.val + i by omega])
      rwa [hl] at this)
    clear HLp HOw hrr hlen
    gi_wp2_with fail
    refine heldStartRL (S := Lp w W w4.heap.size g7 w.heap.size Bs (Bs + 1) sg pv) 12 13 rfl (by kernel_rfl) (by kernel_rfl) (by rintro ⟨_, _, h⟩; exact h) HLQ.out.drew (fun hHeld => ?_)
    refine takeL (i := 0) (d := 44) (v := ?_) rfl rfl (by kernel_rfl) (by kernel_rfl) (by kernel_rfl) (fun _ _ _ h => h) (Or.inl ⟨by rfl, ?_⟩) hHeld ?_
    rotate_left 1
    · (intro w hSw; skip; go_simp; (try with_reducible rfl))
    simp only [List.setIfInBounds_toArray, List.set_cons_zero, List.set_cons_succ]
    refine takeL (i := 1) (d := 45) (v := pv) rfl rfl (by kernel_rfl) (by kernel_rfl) (by kernel_rfl) (fun _ _ _ h => h) (Or.inl ⟨by rfl, fun w hSw => ?_⟩) hHeld ?_
    · have cst : w.cell? ⟨g7, 6, none⟩ = some pv := ((cell_blk hSw.G 6).trans rfl)
      go_simp
    simp only [List.setIfInBounds_toArray, List.set_cons_zero, List.set_cons_succ]
    refine takeL (i := 2) (d := 46) (v := ?_) rfl rfl (by kernel_rfl) (by kernel_rfl) (by kernel_rfl) (fun _ _ _ h => h) (Or.inl ⟨by rfl, ?_⟩) hHeld ?_
    rotate_left 1
    · (intro w hSw; skip; go_simp; (try with_reducible rfl))
    simp only [List.setIfInBounds_toArray, List.set_cons_zero, List.set_cons_succ]
    refine takeL (i := 3) (d := 47) (v := ?_) rfl rfl (by kernel_rfl) (by kernel_rfl) (by kernel_rfl) (fun _ _ _ h => h) (Or.inl ⟨by rfl, ?_⟩) hHeld ?_
    rotate_left 1
    · (intro w hSw; skip; go_simp; (try with_reducible rfl))
    simp only [List.setIfInBounds_toArray, List.set_cons_zero, List.set_cons_succ]
    refine takeL (i := 4) (d := 48) (v := (.int .u8 (rr : Int))) rfl rfl (by kernel_rfl) (by kernel_rfl) (by kernel_rfl) (fun _ _ _ h => h) (Or.inl ⟨by rfl, fun w hSw => ?_⟩) hHeld ?_
    · have cst : w.cell? ⟨bb, off + 2 + 7 * x.val, none⟩ = some (.int .u8 (rr : Int)) := hSw.M.cell c0 (by simp)
      go_simp
    simp only [List.setIfInBounds_toArray, List.set_cons_zero, List.set_cons_succ]
    refine takeL (i := 5) (d := 49) (v := ?_) rfl rfl (by kernel_rfl) (by kernel_rfl) (by kernel_rfl) (fun _ _ _ h => h) (Or.inl ⟨by rfl, ?_⟩) hHeld ?_
    rotate_left 1
    · (intro w hSw; skip; go_simp; (try with_reducible rfl))
    simp only [List.setIfInBounds_toArray, List.set_cons_zero, List.set_cons_succ]
    refine takeL (i := 6) (d := 50) (v := ?_) rfl rfl (by kernel_rfl) (by kernel_rfl) (by kernel_rfl) (fun _ _ _ h => h) (Or.inl ⟨by rfl, ?_⟩) hHeld ?_
    rotate_left 1
    · (intro w hSw; skip; go_simp; (try with_reducible rfl))
    simp only [List.setIfInBounds_toArray, List.set_cons_zero, List.set_cons_succ]
    refine wpAnyHL_ready (rs := [7]) (by kernel_rfl) (by simp) ?_
    refine AllReadyHL.cons rfl (fun K hK => ?_) AllReadyHL.nil
    go_simp
    go_wp2_with (go_at_call 109; refine (read_ok _ _ ((A.drop (3 + 7 * x.val)).take 6) (HRD.out _ hHeld.M) ((HB.out.drop _).take _) (by simp; omega) (by simp; omega)).mono ?_; rintro e w' ⟨rfl, rfl⟩)
    refine hK.out _ _ ?_ (fun hHeld => ?_)
    · exact hHeld
    clear hK K
    refine takeL (i := 8) (d := 52) (v := ?_) rfl rfl (by kernel_rfl) (by kernel_rfl) (by kernel_rfl) (fun _ _ _ h => h) (Or.inl ⟨by rfl, ?_⟩) hHeld ?_
    rotate_left 1
    · (intro w hSw; skip; go_simp; (try with_reducible rfl))
    simp only [List.setIfInBounds_toArray, List.set_cons_zero, List.set_cons_succ]
    refine wpAnyHL_ready (rs := [9]) (by kernel_rfl) (by simp) ?_
    refine AllReadyHL.cons rfl (fun K hK => ?_) AllReadyHL.nil
    go_simp
    refine hK.out _ _ ?_ (fun hHeld => ?_)
    · exact hHeld.mods0 HLO.out (Mods.refl.alloc _)
    clear hK K
    have HO2 := Lib.hid ((HOQ.out.mods (S := []) (Mods.refl.drew) (by simp)).mods (S := []) (Mods.refl.alloc (.cells #[.int .u8 (rr : Int), .int .i64 (sgnL ((A.drop (3 + 7 * x.val)).take 6))] 115)) (by simp))
    refine wpAnyHL_ready (rs := [10]) (by kernel_rfl) (by simp) ?_
    refine AllReadyHL.cons rfl (fun K hK => ?_) AllReadyHL.nil
    refine step_pushD2 (by rfl) 54 rfl (.tmp 45) (.tmp 53) (by rfl) w4.heap.size pv P (by rfl) HO2.out W.heap.size ⟨rr, sgnL ((A.drop (3 + 7 * x.val)).take 6)⟩ _ _ (heap_alloc_new W.drew _) (by rfl) (by omega) hHeld.z (fun g' cap' W5 O5 M5 => ?_)
    refine hK.out _ _ (hHeld.mods HLO.out M5 (own_cells HO2.out)) (fun hHeld => ?_)
    clear hK K
    simp only [List.setIfInBounds_toArray, List.set_cons_zero, List.set_cons_succ]
    have c6 : W5.cell? ⟨g7, 6, none⟩ = some pv := (cell_blk hHeld.G 6).trans rfl
    have f6 : W5.frozen? ⟨g7, 6, none⟩ = false := froz_blk hHeld.G 6
    refine takeL (i := 11) (d := 55) (v := ?_) rfl rfl (by kernel_rfl) (by kernel_rfl) (by kernel_rfl) (fun _ _ _ h => h) (Or.inl ⟨by rfl, ?_⟩) hHeld ?_
    rotate_left 1
    · (intro w hSw; skip; go_simp; (try with_reducible rfl))
    simp only [List.setIfInBounds_toArray, List.set_cons_zero, List.set_cons_succ]
    refine wpAnyHL_ready (rs := [12]) (by kernel_rfl) (by simp) ?_
    refine AllReadyHL.fin rfl (fun K hK => ?_) AllReadyHL.nil
    go_simp
    refine hK.out _ _ ?_
    clear hK K
    refine wpAnyHL_done (by kernel_rfl) ?_ _
    have HS := hHeld.set HLO.out (.slice (some ⟨g', 0, none⟩) (P.length + 1) cap')
    have O6 := O5.mods (S := [g7]) ((Mods.refl).setCell (p := ⟨g7, 6, none⟩) (.inl (by simp)) (.slice (some ⟨g', 0, none⟩) (P.length + 1) cap')) (by simp; exact HLO.out.c)
    gi_wp2
    refine ⟨HS.K, HS.T, _, ⟨HS.G, HS.R, HS.M, KeepsFrom.refl _ _, KeepB.refl, HS.z⟩, ?_⟩
    rw [HPS.out]
    exact O6
  case done =>
    rintro D xs W hD hxs ⟨pv, HLp, HOw⟩ hK
    have hP : xs.map (fun i : Fin k => (⟨(A.getD (2 + 7 * i.val) 0).toNat, signA A (3 + 7 * i.val) 6⟩ : Pt)) = ptsOf A k := by
      unfold ptsOf; rw [← hxs, List.map_map]; rfl
    rw [hP] at HOw
    have hpl : (ptsOf A k).length ≤ 12 := by simp [ptsOf]; omega
    have HPK : Hid (PtsOk (ptsOf A k)) := Lib.hid (ptsOf_ok HB.out hkA (by omega))
    clear hP hxs
    generalize ptsOf A k = P at HOw HDQ HPK hpl
    obtain ⟨ad, pcap, rfl⟩ := HOw.rd.len
    have HC : Hid (IsConv W ⟨5, sg, 0, 0, 0, 0, .slice ad P.length pcap⟩ P) := Lib.hid ⟨HOw.rd, HPK.out, show I64 5 from ⟨by decide, by decide⟩, show I64 0 from ⟨by decide, by decide⟩, show I64 0 from ⟨by decide, by decide⟩, show I64 0 from ⟨by decide, by decide⟩, show I64 0 from ⟨by decide, by decide⟩⟩
    have HE0 : Hid (errC A = if convB ⟨5, sg, 0, 0, 0, 0, .slice ad P.length pcap⟩ P then 0 else 1) := Lib.hid (by rw [HU.out, HDK.out, HDQ.out]; rfl)
    clear HU
    have HL7 := Lib.hid HLp
    have HO7 := Lib.hid HOw
    have HD7 := Lib.hid hK
    clear HLp HOw hK HI0 bS bN
    go_wp2_with (refine wpList_load_row rfl 26 (.tmp 7) rfl g7 (by rfl) _ _ _ _ HL7.out.G Try.underlying26 rfl Try.infoC ?_)
    refine (convValid_ok W ⟨5, sg, 0, 0, 0, 0, .slice ad P.length pcap⟩ P HC.out).mono ?_
    rintro e w8 ⟨rfl, M8⟩
    have HL8 := Lib.hid (HL7.out.mods0 HLO.out M8)
    have HO8 := Lib.hid (HO7.out.mods M8 (by simp))
    have HD8 := Lib.hid (M8.heap HD7.out (by simp))
    clear M8 HL7 HO7 HD7
    cases hv : convB ⟨5, sg, 0, 0, 0, 0, .slice ad P.length pcap⟩ P with
    | false =>
      have HN := Lib.hid (show errC A ≠ 0 by rw [HE0.out, hv]; decide)
      have HR := Lib.hid (show errC A = 1 by rw [HE0.out, hv]; rfl)
      clear hv
      go_wp2_with (refine wpList_store_row (cs := zK.cells) rfl 26 (.tmp 2) (.tmp 75) rfl HL8.out.R (by rfl) (by rfl) rfl Try.infoC zK_one ?_; intro w9 R9 M9)
      have HM9 := (HL8.out.M).comp M9 (fun k hk => by simp at hk; exact .inr (by omega))
      have hD9 := M9.heap HD8.out (fun hm => by simp at hm; have := HLO.out.r; omega)
      have MF : Mods [D] w9 (w9.putObj D (.deferred none)) := Mods.of_grown (grownBy_putObj' w9 D _)
      have hDw : w.heap.size ≤ D := by have := HLO.out.ww; omega
      have HMF := HM9.comp MF (fun k hk => by simp at hk; exact .inr (by omega))
      have R9F := MF.heap R9 (fun hm => by simp at hm; have := HLO.out.r; omega)
      refine ⟨by simp, .inl ⟨_, _, rfl, run_takeDeferred hD9, ?_⟩⟩
      refine ⟨_, results_cell_row3 rfl _ _ w.heap.size _ _ _ _ rfl R9F Try.underlying26 rfl Try.infoC, ?_⟩
      have := HE.out _ HN.out HMF
      rw [HR.out] at this
      exact this
    | true =>
      have HR := Lib.hid (show errC A = 0 by rw [HE0.out, hv]; rfl)
      clear hv
      go_wp2_with (first
        | (refine wpList_load_row rfl 26 (.tmp 7) rfl g7 (by rfl) _ _ _ _ HL8.out.G Try.underlying26 rfl Try.infoC ?_)
        | (refine wpList_store_row (cs := cvC 5 sg 0 0 0 0 (.slice ad P.length pcap)) rfl 26 (.tmp 2) (.tmp 76) rfl HL8.out.R (by rfl) (by rfl) rfl Try.infoC (cvC_one _ _ _ _ _ _ _ _ _) ?_; intro w9 R9 M9))
      have HM9 := (HL8.out.M).comp M9 (fun k hk => by simp at hk; exact .inr (by omega))
      have hD9 := M9.heap HD8.out (fun hm => by simp at hm; have := HLO.out.r; omega)
      have MF : Mods [D] w9 (w9.putObj D (.deferred none)) := Mods.of_grown (grownBy_putObj' w9 D _)
      have hDw : w.heap.size ≤ D := by have := HLO.out.ww; omega
      have HMF := HM9.comp MF (fun k hk => by simp at hk; exact .inr (by omega))
      have R9F := MF.heap R9 (fun hm => by simp at hm; have := HLO.out.r; omega)
      refine ⟨by simp, .inl ⟨_, _, rfl, run_takeDeferred hD9, ?_⟩⟩
      refine ⟨_, results_cell_row3 rfl _ _ w.heap.size _ _ _ _ rfl R9F Try.underlying26 rfl Try.infoC, ?_⟩
      show DecRes w A _ _
      unfold DecRes
      rw [if_pos HR.out, HDQ.out]
      have O9 := HO8.out.mods M9 (by simp; exact HLO.out.r)
      have OF : OwnPts (w9.putObj D (.deferred none)) w4.heap.size (.slice ad P.length pcap) P := MF.owns O9 (fun k hk hm => by
        obtain ⟨_, _, h3, h4⟩ := own_cells O9 k (by rw [hk]; simp)
        simp at hm
        subst hm
        rw [hD9] at h3
        cases h3
        cases h4)
      exact ⟨_, by rw [HDK.out, HNN.out]; rfl, OF.down HLO.out.ww, HMF⟩
end Go.Proofs.Ytijjkonephjodaa

namespace Go.Proofs.Ytijjkonephjodaa
open Go.RowKit

theorem convDec_ok (w : World) (v : Value) (A : List Int) (hv : Rd w v (u8s A)) (hb : Bytes A) :
    Calls Try.prog 90 #[v] w fun e w' => DecRes w A e w' := by
  by_cases hl : (lenC A).2 = 0
  · by_cases hlt : (A.length : Int) < (lenC A).1
    · exact convDec_cut w v A hv hb hl hlt
    · by_cases h5 : A.getD 0 0 % 128 = 5
      · exact convDec_tab w v A hv hb hl hlt h5
      · exact convDec_lin w v A hv hb hl hlt h5
  · exact convDec_err w v A hv hb hl
end Go.Proofs.Ytijjkonephjodaa
