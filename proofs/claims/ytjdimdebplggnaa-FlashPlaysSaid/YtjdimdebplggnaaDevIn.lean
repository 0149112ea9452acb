/- A device of a known form, whose numbers stay below a bound: what each call leaves. -/
import Derived.Test.YtjdimdebplggnaaFlashLaw
namespace Go.Proofs.Ytjdimdebplggnaa
open Go.RowKit
structure Dev.In (D : Dev) (n m : Nat) (B : Int) : Prop where
  ok : D.Ok
  dl : D.data.length = n * m
  sz : D.size = m
  wl : D.wear.length = n
  st : D.steps ≤ B
  we : ∀ i, D.wear.getD i 0 ≤ B
theorem Dev.In.mono {D : Dev} {n m : Nat} {B B' : Int} (h : D.In n m B) (hB : B ≤ B') : D.In n m B' :=
  ⟨h.ok, h.dl, h.sz, h.wl, Int.le_trans h.st hB, fun i => Int.le_trans (h.we i) hB⟩
theorem Dev.In.fresh {n m : Nat} (h1 : n ≤ 16) (h2 : 1 ≤ m) (h3 : m ≤ 1024) : (Dev.fresh n m).In n m 0 :=
  ⟨Dev.fresh_ok h1 h2 h3, by simp only [Dev.fresh, List.length_replicate], rfl, by simp only [Dev.fresh, List.length_replicate], Int.le_refl _, fun i => by simp only [Dev.fresh, getD_replicate]; split <;> omega⟩
theorem run_keeps (l : List Int) : ∀ (D : Dev) (n : Nat), (D.run n l).2.data.length = D.data.length ∧ (D.run n l).2.size = D.size ∧ (D.run n l).2.wear = D.wear ∧ (D.run n l).2.torn = D.torn ∧ D.steps ≤ (D.run n l).2.steps ∧ (D.run n l).2.steps ≤ D.steps + l.length := by
  induction l with
  | nil => intro D n; simp [Dev.run]
  | cons x r ih =>
    intro D n
    have hs := D.step_steps
    rw [Dev.run]
    split
    · refine ⟨by simp [Dev.put, D.step_data], by simp [Dev.put, D.step_size], by simp [Dev.put, D.step_wear], by simp [Dev.put, D.step_torn], ?_, ?_⟩
      · simp only [Dev.put, hs]; omega
      · simp only [Dev.put, hs, List.length_cons]; omega
    · obtain ⟨h1, h2, h3, h4, h5, h6⟩ := ih (D.step.put n (bits .and .u8 (D.data.getD n 0) x)) (n + 1)
      refine ⟨h1.trans (by simp [Dev.put, D.step_data]), h2.trans (by simp [Dev.put, D.step_size]), h3.trans (by simp [Dev.put, D.step_wear]), h4.trans (by simp [Dev.put, D.step_torn]), ?_, ?_⟩
      · simp only [Dev.put, hs] at h5 h6 ⊢; omega
      · simp only [Dev.put, hs, List.length_cons] at h5 h6 ⊢; omega
theorem Dev.In.program {D : Dev} {n m : Nat} {B : Int} (h : D.In n m B) (a : Int) (l : List Int) : (D.program a l).2.In n m (B + l.length) := by
  have ok := program_Ok h.ok a l
  rw [Dev.program] at ok ⊢
  split
  · exact h.mono (by omega)
  · split
    · rename_i h1 h2
      rw [if_neg h1, if_pos h2] at ok
      obtain ⟨h1, h2, h3, _, _, h6⟩ := run_keeps l D a.toNat
      exact ⟨ok, h1.trans h.dl, h2.trans h.sz, by rw [h3]; exact h.wl, by have := h.st; omega, fun i => by rw [h3]; have := h.we i; omega⟩
    · exact h.mono (by omega)
theorem Dev.In.erase {D : Dev} {n m : Nat} {B : Int} (h : D.In n m B) (s : Int) : (D.erase s).2.In n m (B + 1) := by
  have ok := erase_Ok h.ok s
  rw [Dev.erase] at ok ⊢
  split
  · exact h.mono (by omega)
  · split
    · rename_i h1 h2
      rw [if_neg h1, if_pos h2] at ok
      simp only [Dev.erased] at ok ⊢
      have hs := (D.worn s.toNat).step_steps
      have := h.st
      refine ⟨ok, ?_, ?_, ?_, ?_, fun i => ?_⟩
      · simp only [Dev.over, orRange_len, Dev.step_data]; exact h.dl
      · simp only [Dev.over, Dev.step_size]; exact h.sz
      · simp only [Dev.over, Dev.step_wear, Dev.worn, List.length_set]; exact h.wl
      · simp only [Dev.over, hs]; simp only [Dev.worn]; omega
      · simp only [Dev.over, Dev.step_wear, Dev.worn, getD_set]
        split
        · have := h.we s.toNat; omega
        · have := h.we i; omega
    · exact h.mono (by omega)
theorem Dev.In.arm {D : Dev} {n m : Nat} {B : Int} (h : D.In n m B) {s t : Int} (hs : s ≤ 1000000000) (h0 : 0 ≤ t) (h1 : t ≤ 255) : (D.arm s t).In n m B := by
  have ok := arm_Ok h.ok s t hs h0 h1
  rw [Dev.arm] at ok ⊢
  split
  · exact h
  · rename_i hd
    rw [if_neg hd] at ok
    exact ⟨ok, h.dl, h.sz, h.wl, h.st, h.we⟩
theorem Dev.In.restore {D : Dev} {n m : Nat} {B : Int} (h : D.In n m B) : D.restore.In n m B := ⟨restore_Ok h.ok, h.dl, h.sz, h.wl, h.st, h.we⟩
theorem Dev.In.read {D : Dev} {n m : Nat} {B : Int} (h : D.In n m B) (hd : D.down = false) : D.read 0 ((n * m : Nat) : Int) = (D.data, 0) := by
  have hf : fits D 0 ((n * m : Nat) : Int) = true := by simp only [fits, decide_eq_true_eq, h.dl]; omega
  rw [Dev.read, if_neg (by rw [hd]; simp), if_pos hf]
  refine congrArg (·, 0) ?_
  exact List.take_of_length_le (by simp only [List.drop_zero, Int.toNat_natCast, Int.toNat_zero]; rw [h.dl]; exact Nat.le_refl _)
/-- A device is not among the blocks of a slice that was there before. -/
theorem DevAt.far {w : World} {p : DevAt} {v : Value} {l : List Value} (hv : Rd w v l) (hp : ∀ k ∈ p.foot, w.heap.size ≤ k) : l ≠ [] → ∀ k, v.ownBlock = some k → k ∉ [p.b, p.g] := fun hl k hk hk2 => by
  have h1 := hv.block_lt hl k hk
  have h2 : k ∈ p.foot := by simp at hk2; rcases hk2 with rfl | rfl <;> simp [DevAt.foot]
  have := hp k h2
  omega
theorem DevAt.bg {p : DevAt} {B : Nat} (h : ∀ k ∈ p.foot, B ≤ k) : ∀ k ∈ [p.b, p.g], B ≤ k := fun k hk => h k (by simp at hk; rcases hk with rfl | rfl <;> simp [DevAt.foot])
theorem DevAt.b1 {p : DevAt} {B : Nat} (h : ∀ k ∈ p.foot, B ≤ k) : ∀ k ∈ [p.b], B ≤ k := fun k hk => h k (by simp at hk; subst hk; simp [DevAt.foot])
theorem DevAt.b1f {p : DevAt} {k : Nat} (h : k ∈ [p.b]) : k ∈ p.foot := by simp at h; subst h; simp [DevAt.foot]
theorem DevAt.bgf {p : DevAt} {k : Nat} (h : k ∈ [p.b, p.g]) : k ∈ p.foot := by simp at h; rcases h with rfl | rfl <;> simp [DevAt.foot]
theorem DevAt.farB {w : World} {p : DevAt} {v : Value} {l : List Int} (hv : Rd w v (u8s l)) (hp : ∀ k ∈ p.foot, w.heap.size ≤ k) : l ≠ [] → ∀ k, v.ownBlock = some k → k ∉ [p.b, p.g] := fun hl => DevAt.far hv hp (by simpa [u8s] using hl)
/-- A byte that has lost bits only. -/
def Less (x y : Int) : Prop := ∃ z, 0 ≤ z ∧ z ≤ 255 ∧ x = bits .and .u8 y z
theorem Less.refl {y : Int} (h0 : 0 ≤ y) (h1 : y ≤ 255) : Less y y := ⟨255, by omega, by omega, by
  have h : ∀ n : Fin 256, bits .and .u8 (n.val : Int) 255 = (n.val : Int) := by decide +kernel
  have := h ⟨y.toNat, by omega⟩
  simpa [Int.toNat_of_nonneg h0] using this.symm⟩
theorem u8_nat (r : BitVec 8) : IntKind.u8.wrap (r.toNat : Int) = (r.toNat : Int) := by
  rw [IntKind.wrap_u8]
  have := r.isLt
  omega
theorem and_bv (x y : Int) : bits .and .u8 x y = ((BitVec.ofInt 8 x &&& BitVec.ofInt 8 y).toNat : Int) := u8_nat _
theorem or_bv (x y : Int) : bits .or .u8 x y = ((BitVec.ofInt 8 x ||| BitVec.ofInt 8 y).toNat : Int) := u8_nat _
theorem andNot_bv (x y : Int) : bits .andNot .u8 x y = ((BitVec.ofInt 8 x &&& ~~~ BitVec.ofInt 8 y).toNat : Int) := u8_nat _
theorem ofInt_bv (r : BitVec 8) : BitVec.ofInt 8 (r.toNat : Int) = r := by simp
theorem Less.trans {x y z : Int} (h : Less x y) (h' : Less y z) : Less x z := by
  obtain ⟨a, _, _, rfl⟩ := h
  obtain ⟨b, _, _, rfl⟩ := h'
  refine ⟨bits .and .u8 b a, (bits_byte _ _ _).1, (bits_byte _ _ _).2, ?_⟩
  simp only [and_bv, ofInt_bv, BitVec.and_assoc]
/-- The bits that a byte has lost of itself and has not. -/
theorem Less.none {x y : Int} (h : Less x y) : bits .andNot .u8 x y = 0 := by
  obtain ⟨z, _, _, rfl⟩ := h
  rw [andNot_bv, and_bv, ofInt_bv]
  have e : BitVec.ofInt 8 y &&& BitVec.ofInt 8 z &&& ~~~ BitVec.ofInt 8 y = 0#8 := by
    ext i hi
    simp
    intro h1 _
    exact h1
  rw [e]
  rfl
theorem Less.and {y x : Int} (h0 : 0 ≤ x) (h1 : x ≤ 255) : Less (bits .and .u8 y x) y := ⟨x, h0, h1, rfl⟩
theorem run_less (l : List Int) (hb : Bytes l) : ∀ (D : Dev) (n : Nat), (∀ j, 0 ≤ D.data.getD j 0 ∧ D.data.getD j 0 ≤ 255) → ∀ j, Less ((D.run n l).2.data.getD j 0) (D.data.getD j 0) := by
  induction l with
  | nil => intro D n h j; exact Less.refl (h j).1 (h j).2
  | cons x r ih =>
    intro D n h j
    have hx : 0 ≤ x ∧ x ≤ 255 := by simpa using hb 0
    have hr : Bytes r := fun i => by simpa using hb (i + 1)
    have one : ∀ y, 0 ≤ y ∧ y ≤ 255 → Less ((D.step.put n (bits .and .u8 (D.data.getD n 0) y)).data.getD j 0) (D.data.getD j 0) := by
      intro y hy
      simp only [Dev.put, getD_set, Dev.step_data]
      split
      · rename_i h1; rw [h1.1]; exact Less.and hy.1 hy.2
      · exact Less.refl (h j).1 (h j).2
    rw [Dev.run]
    split
    · exact one _ (bits_byte _ _ _)
    · refine (ih hr _ _ (fun k => ?_) j).trans (one x hx)
      simp only [Dev.put, getD_set, Dev.step_data]
      split
      · exact bits_byte _ _ _
      · exact h k
theorem program_less {D : Dev} (ok : D.Ok) {l : List Int} (hb : Bytes l) (a : Int) (j : Nat) : Less ((D.program a l).2.data.getD j 0) (D.data.getD j 0) := by
  rw [Dev.program]
  split
  · exact Less.refl (ok.byt j).1 (ok.byt j).2
  · split
    · exact run_less l hb D _ ok.byt j
    · exact Less.refl (ok.byt j).1 (ok.byt j).2
end Go.Proofs.Ytjdimdebplggnaa
