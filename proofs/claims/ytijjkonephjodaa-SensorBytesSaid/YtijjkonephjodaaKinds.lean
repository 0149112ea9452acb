/- SensorKinds: what is asked of plain records; blocks of records under way. -/
import Derived.Test.YtijjkonephjodaaApb
import Derived.Test.YtijjkonephjodaaRefValid
namespace Go.Proofs.Ytijjkonephjodaa
open Go.RowKit

theorem yieldsIf_load_rowG {P : Program} {ops : Array Oper} {S : World → Prop} {o : Oper} {a : Act} (hw : Region.wanted o (yielded ops a.tmps) = true) (ty : TypeId) (x : Operand) (ho : o.op = .load ty x)
    (g : Nat) (hx : a.eval x = .pointer (some ⟨g, 0, none⟩)) (t : TypeId) (cs : Array Value) (fr : Nat × Nat) (d : TypeDesc) (hg : ∀ w, S w → w.heap[g]? = some (.cells cs t fr))
    (hu : P.underlying ty = some d) (hd : (match d with | .struct _ | .array _ _ => true | _ => false) = true) (hi : (P.info? ty).map (·.size) = some cs.size) : YieldsIf P ops S o (.agg cs) a := by
  refine .inl ⟨hw, fun w hS => ?_⟩
  unfold execOp
  simp only [ho, hx, Instr.loadAt, Instr.sureAddr, Sem.run_bind, Sem.run_pure, Result.andThen_ok, run_loadVar_row w g t ty cs fr d (hg w hS) hu hd hi]
theorem and2 {a b c d : Bool} (h : a = b) (h' : c = d) : (a && c) = (b && d) := by rw [h, h']
theorem valid_parts {S : Sen} {P : List Pt} (h : validB S P = true) : nameB S.name = true ∧ (S.samples = 1 ∨ S.samples = 3 ∨ S.samples = 5) ∧ (S.disc = true → discB S P = true) ∧ (S.disc = false → analogB S P = true) := by
  unfold validB at h
  simp only [Bool.and_eq_true, decide_eq_true_eq] at h
  exact ⟨h.1.1, h.1.2, fun hd => by have := h.2; rw [if_pos hd] at this; exact this, fun hd => by have := h.2; rw [if_neg (by rw [hd]; decide)] at this; exact this⟩
theorem convB_form {C : Conv} {P : List Pt} (h : convB C P = true) : C.form ≠ 0 := by
  unfold convB at h
  split at h
  · omega
  · simp only [Bool.and_eq_true, decide_eq_true_eq] at h; omega
/-- An analog record as a discrete one. -/
theorem kind_x {S : Sen} {P : List Pt} (h : validB S P = true) (hd : S.disc = false) : validB { S with disc := true } P = false := by
  have ha := (valid_parts h).2.2.2 hd
  have hc : S.conv.form ≠ 0 := by unfold analogB at ha; simp only [Bool.and_eq_true] at ha; exact convB_form ha.1.1.1.1.1
  cases hv : validB { S with disc := true } P with
  | false => rfl
  | true =>
    have := (valid_parts hv).2.2.1 rfl
    unfold discB at this
    simp only [Bool.and_eq_true, decide_eq_true_eq] at this
    exact absurd this.1.1.1.1 hc
/-- A discrete record as an analog one. -/
theorem kind_y {S : Sen} {P : List Pt} (h : validB S P = true) (hd : S.disc = true) : validB { S with disc := false } P = false := by
  have ha := (valid_parts h).2.2.1 hd
  cases hv : validB { S with disc := false } P with
  | false => rfl
  | true =>
    have := (valid_parts hv).2.2.2 rfl
    have hc : S.conv.form ≠ 0 := by unfold analogB at this; simp only [Bool.and_eq_true] at this; exact convB_form this.1.1.1.1.1
    unfold discB at ha
    simp only [Bool.and_eq_true, decide_eq_true_eq] at ha
    exact absurd ha.1.1.1.1 hc
theorem bit_in {x m i : Nat} (h : x &&& (65535 - m) = 0) (hm : m < 65536) (hi : i < 16) (hx : x.testBit i = true) : m.testBit i = true := by
  have e := congrArg (·.testBit i) h
  simp only [Nat.testBit_and, hx, Bool.true_and, Nat.zero_testBit] at e
  cases hb : m.testBit i with
  | true => rfl
  | false =>
    have : (65535 - m).testBit i = !m.testBit i := by
      have := Nat.testBit_two_pow_sub_succ (n := 16) (x := m) (by omega) i
      rw [show 65535 - m = 2 ^ 16 - (m + 1) by omega, this, decide_eq_true hi, Bool.true_and]
    rw [this, hb] at e
    cases e
/-- A mask with a bit too many. -/
theorem kind_p {S : Sen} {P : List Pt} (hd : S.disc = false) : validB { S with asrt := S.asrt ||| 64 } P = false := by
  cases hv : validB { S with asrt := S.asrt ||| 64 } P with
  | false => rfl
  | true =>
    have := (valid_parts hv).2.2.2 hd
    unfold analogB at this
    simp only [Bool.and_eq_true, decide_eq_true_eq] at this
    obtain ⟨⟨⟨⟨⟨_, hm⟩, _⟩, hb⟩, _⟩, _⟩ := this
    have h6 := bit_in (i := 6) hb (show S.mask < 65536 from by have : S.mask < 64 := hm; omega) (by omega) (by rw [Nat.testBit_or, Nat.testBit_or]; simp [show (64 : Nat).testBit 6 = true from rfl])
    have h64 : S.mask < 64 := hm
    rw [Nat.testBit_lt_two_pow (show S.mask < 2 ^ 6 by omega)] at h6
    cases h6
theorem kind_q {S : Sen} {P : List Pt} (hd : S.disc = true) : validB { S with deas := S.deas ||| 32768 } P = false := by
  cases hv : validB { S with deas := S.deas ||| 32768 } P with
  | false => rfl
  | true =>
    have := (valid_parts hv).2.2.1 hd
    unfold discB at this
    simp only [Bool.and_eq_true, decide_eq_true_eq] at this
    obtain ⟨⟨_, ⟨_, hm⟩⟩, hb⟩ := this
    have h32 : S.states ≤ 32767 := hm
    have h15 := bit_in (i := 15) hb (show S.states < 65536 by omega) (by omega) (by rw [Nat.testBit_or, Nat.testBit_or]; simp [show (32768 : Nat).testBit 15 = true from rfl])
    rw [Nat.testBit_lt_two_pow (show S.states < 2 ^ 15 by omega)] at h15
    cases h15
/-- One further bit of Assert. -/
theorem kind_u {S : Sen} {P : List Pt} (h : validB S P = true) (hd : S.disc = true) (k : Nat) (hk : k < 15) : validB { S with asrt := S.asrt ||| 2 ^ k } P = decide (S.states &&& 2 ^ k ≠ 0) := by
  have hD := (valid_parts h).2.2.1 hd
  have e0 : validB { S with asrt := S.asrt ||| 2 ^ k } P = decide (((S.asrt ||| 2 ^ k) ||| S.deas) &&& (65535 - S.states) = 0) := by
    unfold discB at hD
    simp only [Bool.and_eq_true] at hD
    unfold validB discB
    have h1 := (valid_parts h).1
    have h2 := (valid_parts h).2.1
    rw [show (({ S with asrt := S.asrt ||| 2 ^ k } : Sen).disc) = true from hd, if_pos rfl]
    rw [show nameB ({ S with asrt := S.asrt ||| 2 ^ k } : Sen).name = true from h1, show decide (({ S with asrt := S.asrt ||| 2 ^ k } : Sen).samples = 1 ∨ ({ S with asrt := S.asrt ||| 2 ^ k } : Sen).samples = 3 ∨ ({ S with asrt := S.asrt ||| 2 ^ k } : Sen).samples = 5) = true from decide_eq_true h2]
    rw [Bool.true_and, Bool.true_and]
    refine (and2 (and2 (and2 hD.1.1.1 hD.1.1.2) hD.1.2) rfl).trans ?_
    rw [Bool.true_and, Bool.true_and, Bool.true_and]
  unfold discB at hD
  simp only [Bool.and_eq_true, decide_eq_true_eq] at hD
  obtain ⟨⟨_, ⟨_, hm⟩⟩, hb⟩ := hD
  rw [e0, Bool.eq_iff_iff, decide_eq_true_iff, decide_eq_true_iff]
  have hA : S.states &&& 2 ^ k ≠ 0 ↔ S.states.testBit k = true := by
    constructor
    · intro hn
      cases hb : S.states.testBit k with
      | true => rfl
      | false =>
        refine absurd (Nat.eq_of_testBit_eq fun i => ?_) hn
        rw [Nat.testBit_and, Nat.zero_testBit]
        by_cases hik : i = k
        · subst hik; rw [hb, Bool.false_and]
        · rw [Nat.testBit_two_pow_of_ne (Ne.symm hik), Bool.and_false]
    · intro ht hz
      have := congrArg (·.testBit k) hz
      simp only [Nat.testBit_and, ht, Nat.testBit_two_pow_self, Nat.zero_testBit] at this
      cases this
  rw [hA]
  constructor
  · intro hz
    exact bit_in hz (by omega) (by omega) (by rw [Nat.testBit_or, Nat.testBit_or, Nat.testBit_two_pow_self]; simp)
  · intro ht
    refine Nat.eq_of_testBit_eq fun i => ?_
    rw [Nat.zero_testBit]
    have hi := congrArg (·.testBit i) hb
    simp only [Nat.testBit_and, Nat.testBit_or, Nat.zero_testBit] at hi
    rw [Nat.testBit_and, Nat.testBit_or, Nat.testBit_or]
    by_cases hik : i = k
    · subst hik
      have : (65535 - S.states).testBit i = !S.states.testBit i := by
        have := Nat.testBit_two_pow_sub_succ (n := 16) (x := S.states) (by omega) i
        rw [show 65535 - S.states = 2 ^ 16 - (S.states + 1) by omega, this, decide_eq_true (by omega), Bool.true_and]
      rw [this, ht]; simp
    · rw [Nat.testBit_two_pow_of_ne (Ne.symm hik), Bool.or_false]; exact hi
/-- Another name. -/
theorem kind_z {S : Sen} {P : List Pt} (h : validB S P = true) (s : ByteArray) : validB { S with name := s } P = nameB s := by
  unfold validB at h ⊢
  simp only [Bool.and_eq_true] at h
  have h2 := h.1.2
  have h3 := h.2
  show (nameB s && decide (S.samples = 1 ∨ S.samples = 3 ∨ S.samples = 5) && (if S.disc then discB S P else analogB S P)) = nameB s
  rw [h2, h3, Bool.and_true, Bool.and_true]
theorem nameB_iff {s : ByteArray} : nameB s = true ↔ (1 ≤ s.size ∧ s.size ≤ 16) ∧ ∀ k (hk : k < s.size), charB s[k] = true := by
  constructor
  · intro h
    refine ⟨by simp only [nameB, Bool.and_eq_true, decide_eq_true_eq] at h; exact h.1, fun k hk => ?_⟩
    cases hc : charB s[k] with
    | true => rfl
    | false => rw [nameB_bad hk hc] at h; cases h
  · rintro ⟨h1, h2⟩
    rw [nameB_good h2, decide_eq_true h1]
def Sen.kX (S : Sen) : Sen := { S with disc := true }
def Sen.kY (S : Sen) : Sen := { S with disc := false }
def Sen.kP (S : Sen) : Sen := { S with asrt := S.asrt ||| 64 }
def Sen.kQ (S : Sen) : Sen := { S with deas := S.deas ||| 32768 }
def Sen.kU (S : Sen) (k : Nat) : Sen := { S with asrt := S.asrt ||| 2 ^ k }
def Sen.kZ (S : Sen) (s : ByteArray) : Sen := { S with name := s }
theorem Sen.kX_set (S : Sen) : S.cells.setIfInBounds 6 (.bool true) = S.kX.cells := rfl
theorem Sen.kY_set (S : Sen) : S.cells.setIfInBounds 6 (.bool false) = S.kY.cells := rfl
theorem Sen.kP_set (S : Sen) : S.cells.setIfInBounds 24 (.int .u16 ((S.asrt ||| 64 : Nat) : Int)) = S.kP.cells := rfl
theorem Sen.kQ_set (S : Sen) : S.cells.setIfInBounds 25 (.int .u16 ((S.deas ||| 32768 : Nat) : Int)) = S.kQ.cells := rfl
theorem Sen.kU_set (S : Sen) (k : Nat) : S.cells.setIfInBounds 24 (.int .u16 ((S.asrt ||| 2 ^ k : Nat) : Int)) = (S.kU k).cells := rfl
theorem Sen.kZ_set (S : Sen) (s : ByteArray) : S.cells.setIfInBounds 3 (.string s) = (S.kZ s).cells := rfl
section
variable {w : World} {S : Sen} {P : List Pt}
theorem IsSen.kX (h : IsSen w S P) : IsSen w S.kX P := { h with }
theorem IsSen.kY (h : IsSen w S P) : IsSen w S.kY P := { h with }
theorem IsSen.kP (h : IsSen w S P) : IsSen w S.kP P := { h with asrt := Nat.or_lt_two_pow (n := 16) h.asrt (by decide) }
theorem IsSen.kQ (h : IsSen w S P) : IsSen w S.kQ P := { h with deas := Nat.or_lt_two_pow (n := 16) h.deas (by decide) }
theorem IsSen.kU (h : IsSen w S P) {k : Nat} (hk : k < 15) : IsSen w (S.kU k) P := { h with asrt := Nat.or_lt_two_pow (n := 16) h.asrt (Nat.pow_lt_pow_right (by decide) (by omega)) }
theorem IsSen.kZ (h : IsSen w S P) {s : ByteArray} (hs : s.size ≤ 1000) : IsSen w (S.kZ s) P := { h with name := hs }
end
/-- Blocks of one type that were made since w0. -/
structure Blks (T : TypeId) (w0 w : World) (l : List (Nat × Array Value)) : Prop where
  M : Mods [] w0 w
  all : ∀ p ∈ l, w.heap[p.1]? = some (.cells p.2 T (0, 0)) ∧ w0.heap.size ≤ p.1
  nd : (l.map (·.1)).Nodup
variable {T : TypeId} {w0 w W : World} {l : List (Nat × Array Value)}
theorem Blks.nil (w : World) : Blks T w w [] := ⟨Mods.refl, fun _ h => (by cases h), List.nodup_nil⟩
theorem Blks.mods0 (h : Blks T w0 w l) (M : Mods [] w W) : Blks T w0 W l := ⟨h.M.trans M, fun p hp => ⟨M.heap (h.all p hp).1 (by simp), (h.all p hp).2⟩, h.nd⟩
theorem Blks.fresh (h : Blks T w0 w l) {g : Nat} (hg : w.heap.size ≤ g) : g ∉ l.map (·.1) := fun hm => by
  obtain ⟨p, hp, rfl⟩ := List.mem_map.1 hm
  have := lt_of_block (h.all p hp).1
  omega
theorem Blks.push (h : Blks T w0 w l) {g : Nat} {c : Array Value} (hg : w.heap.size ≤ g) (R : W.heap[g]? = some (.cells c T (0, 0))) (M : Mods [] w W) : Blks T w0 W ((g, c) :: l) :=
  ⟨h.M.trans M, fun p hp => by
    rcases List.mem_cons.1 hp with rfl | hp
    · exact ⟨R, Nat.le_trans h.M.size hg⟩
    · exact ⟨M.heap (h.all p hp).1 (by simp), (h.all p hp).2⟩, List.nodup_cons.2 ⟨h.fresh hg, h.nd⟩⟩
theorem Blks.two (h : Blks T w0 w l) {gA gB : Nat} {cA cB : Array Value} (t : TB T w W (some (gA, cA)) (some (gB, cB))) : Blks T w0 W ((gA, cA) :: (gB, cB) :: l) := by
  have h1 := h.push (t.B _ rfl).2 (t.B _ rfl).1 t.M
  refine ⟨h1.M, fun p hp => ?_, List.nodup_cons.2 ⟨fun hm => ?_, h1.nd⟩⟩
  · rcases List.mem_cons.1 hp with rfl | hp
    · exact ⟨(t.A _ rfl).1, Nat.le_trans h.M.size (t.A _ rfl).2⟩
    · exact h1.all p hp
  · rcases List.mem_cons.1 hm with he | hm
    · exact t.ne _ _ rfl rfl he
    · exact h.fresh (t.A _ rfl).2 hm
theorem Blks.set {g : Nat} {c : Array Value} (h : Blks T w0 w ((g, c) :: l)) (i : Nat) (u : Value) : Blks T w0 (w.setCell ⟨g, i, none⟩ u) ((g, c.setIfInBounds i u) :: l) :=
  ⟨h.M.setCell (.inr (h.all _ (.head _)).2) _, fun p hp => by
    rcases List.mem_cons.1 hp with rfl | hp
    · exact ⟨heap_setCell (h.all _ (.head _)).1, (h.all (g, c) (.head _)).2⟩
    · have := (List.nodup_cons.1 h.nd).1
      exact ⟨heap_setCell_ne (h.all _ (.tail _ hp)).1 (fun e => this (List.mem_map.2 ⟨p, hp, e⟩)), (h.all _ (.tail _ hp)).2⟩, h.nd⟩
theorem Blks.exch {p q : Nat × Array Value} (h : Blks T w0 w (p :: q :: l)) : Blks T w0 w (q :: p :: l) :=
  ⟨h.M, fun x hx => h.all x (by simp only [List.mem_cons] at hx ⊢; rcases hx with h | h | h; exact .inr (.inl h); exact .inl h; exact .inr (.inr h)), by
    have := h.nd
    simp only [List.map_cons, List.nodup_cons, List.mem_cons, not_or] at this ⊢
    exact ⟨⟨fun e => this.1.1 e.symm, this.2.1⟩, this.1.2, this.2.2⟩⟩
theorem Blks.set2 {p : Nat × Array Value} {g : Nat} {c : Array Value} (h : Blks T w0 w (p :: (g, c) :: l)) (i : Nat) (u : Value) : Blks T w0 (w.setCell ⟨g, i, none⟩ u) (p :: (g, c.setIfInBounds i u) :: l) := (h.exch.set i u).exch
end Go.Proofs.Ytijjkonephjodaa
