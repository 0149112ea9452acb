/- Worlds, blocks and slices: what stays, what may turn, and how a slice reads. Nothing of the program stands here. -/
import Derived.WalkKit
import Derived.WalkSpells
import Derived.WalkLawsBesides
import Derived.Lib.Hide
import Derived.Deep.Draws
namespace Go.Proofs.Ytkdadnlleepkfaa
open Go.RowKit

/-- Below the heap's size only the blocks of S may have turned. -/
structure Mods (S : List Nat) (w w' : World) : Prop where
  os : w'.os = w.os
  tape : w'.tape = w.tape
  output : w'.output = w.output
  size : w.heap.size ≤ w'.heap.size
  block : ∀ k, k < w.heap.size → k ∉ S → w'.heap[k]? = w.heap[k]?

theorem Mods.refl {S : List Nat} {w : World} : Mods S w w := ⟨rfl, rfl, rfl, Nat.le_refl _, fun _ _ _ => rfl⟩
theorem Mods.mono {S S' : List Nat} {w w' : World} (h : Mods S w w') (hs : ∀ k, k ∈ S → k ∈ S' ∨ w.heap.size ≤ k) : Mods S' w w' :=
  ⟨h.os, h.tape, h.output, h.size, fun k hk hn => h.block k hk fun hm => by rcases hs k hm with h1 | h1; exact hn h1; omega⟩
theorem Mods.comp {S S' : List Nat} {a b c : World} (h : Mods S a b) (h' : Mods S' b c) (hs : ∀ k, k ∈ S' → k ∈ S ∨ a.heap.size ≤ k) : Mods S a c :=
  ⟨h'.os.trans h.os, h'.tape.trans h.tape, h'.output.trans h.output, Nat.le_trans h.size h'.size, fun k hk hn => by
    rw [h'.block k (Nat.lt_of_lt_of_le hk h.size) (fun hm => by rcases hs k hm with h1 | h1; exact hn h1; omega)]
    exact h.block k hk hn⟩
theorem Mods.trans {S : List Nat} {a b c : World} (h : Mods S a b) (h' : Mods S b c) : Mods S a c := h.comp h' fun _ h => .inl h
theorem Mods.nil {S : List Nat} {w w' : World} (h : Mods [] w w') : Mods S w w' := h.mono fun _ h => by cases h
theorem Mods.comp0 {S : List Nat} {a b c : World} (h : Mods S a b) (h' : Mods [] b c) : Mods S a c := h.comp h' fun _ h => by cases h
theorem Mods.drew {S : List Nat} {a w : World} (h : Mods S a w) : Mods S a w.drew := ⟨h.os, h.tape, h.output, h.size, h.block⟩
theorem Mods.drewN {S : List Nat} {a w : World} (h : Mods S a w) (n : Nat) : Mods S a (w.drewN n) := ⟨h.os, h.tape, h.output, h.size, h.block⟩
theorem Mods.alloc {S : List Nat} {a w : World} (h : Mods S a w) (o : Obj) : Mods S a (w.alloc o) :=
  h.trans ⟨rfl, rfl, rfl, by simp, fun k hk _ => Below.heap_alloc _ _ _ hk⟩
theorem Mods.setCell {S : List Nat} {a w : World} (h : Mods S a w) {p : Addr} (hp : p.block ∈ S ∨ a.heap.size ≤ p.block) (u : Value) : Mods S a (w.setCell p u) :=
  h.comp (S' := [p.block]) ⟨rfl, rfl, rfl, by simp, fun k _ hn => Below.heap_setCell _ _ _ _ (by simpa using hn)⟩ (by intro k hk; simp at hk; subst hk; exact hp)
theorem Mods.grown {S : List Nat} {a w w' : World} {row : Option Nat} (h : Mods S a w) (hg : w.grownBy w' row) (hr : ∀ k, row = some k → k ∈ S ∨ a.heap.size ≤ k) : Mods S a w' :=
  h.comp (S' := row.toList) ⟨hg.os, hg.tape, hg.output, hg.size, fun k hk hn => hg.block k hk (fun e => hn (by rw [← e]; simp))⟩ (by intro k hk; exact hr k (by simpa using hk))
theorem Mods.of_grown {w w' : World} {row : Option Nat} (hg : w.grownBy w' row) : Mods row.toList w w' := Mods.refl.grown hg fun k hk => .inl (by simp [hk])
theorem Mods.below {S : List Nat} {w w' : World} (h : Mods S w w') {B : Nat} (hB : B ≤ w.heap.size) (hs : ∀ k, k ∈ S → B ≤ k) : Below B w w' :=
  ⟨h.os, h.tape, h.output, h.size, fun k hk => h.block k (by omega) fun hm => by have := hs k hm; omega⟩
theorem Mods.of_below {w w' : World} (h : Below w.heap.size w w') : Mods [] w w' := ⟨h.os, h.tape, h.output, h.size, fun k hk _ => h.block k hk⟩
theorem Mods.heap {S : List Nat} {w w' : World} (h : Mods S w w') {k : Nat} {o : Obj} (hb : w.heap[k]? = some o) (hn : k ∉ S) : w'.heap[k]? = some o := by
  rw [h.block k (lt_of_block hb) hn]; exact hb
theorem Mods.cell {S : List Nat} {w w' : World} (h : Mods S w w') {a : Addr} {v : Value} (hc : w.cell? a = some v) (hn : a.block ∉ S) : w'.cell? a = some v := by
  rw [World.cell?_of_block (h.block a.block (World.block_lt_of_cell? w a hc) hn)]; exact hc
theorem Mods.owns {S : List Nat} {w w' : World} (h : Mods S w w') {base size n : Nat} {e : TypeId} {v : Value} {xs : List Value} (ho : w.ownsRow base e size v n xs) (hn : ∀ k, v.ownBlock = some k → k ∉ S) : w'.ownsRow base e size v n xs := by
  refine ⟨ho.1, ?_⟩
  rcases ho.2 with h1 | ⟨g, cap, cur, rfl, hb, hg, rest⟩
  · exact .inl h1
  · exact .inr ⟨g, cap, cur, rfl, hb, h.heap hg (hn g rfl), rest⟩
theorem Mods.lt {S : List Nat} {w w' : World} (h : Mods S w w') {k : Nat} (hk : k < w.heap.size) : k < w'.heap.size := Nat.lt_of_lt_of_le hk h.size

/-- A block of cells, cell by cell. -/
theorem cell_blk {w : World} {b : Nat} {c : Array Value} {T : TypeId} {fr : Nat × Nat} (h : w.heap[b]? = some (.cells c T fr)) (i : Nat) : w.cell? ⟨b, i, none⟩ = c[i]? := by simp [World.cell?, h]
theorem froz_blk {w : World} {b : Nat} {c : Array Value} {T : TypeId} (h : w.heap[b]? = some (.cells c T (0, 0))) (i : Nat) : w.frozen? ⟨b, i, none⟩ = false := by simp [World.frozen?, h]
theorem heap_setCell {w : World} {b i : Nat} {v : Value} {c : Array Value} {T : TypeId} {fr : Nat × Nat} (h : w.heap[b]? = some (.cells c T fr)) : (w.setCell ⟨b, i, none⟩ v).heap[b]? = some (.cells (c.setIfInBounds i v) T fr) := by
  simp [World.setCell, Array.getElem?_modify, h]
theorem heap_setCell_ne {w : World} {a : Addr} {b : Nat} {v : Value} {o : Obj} (h : w.heap[b]? = some o) (hne : b ≠ a.block) : (w.setCell a v).heap[b]? = some o := by
  rw [Below.heap_setCell _ _ _ _ hne]; exact h
theorem heap_alloc {w : World} {b : Nat} {o o' : Obj} (h : w.heap[b]? = some o) : (w.alloc o').heap[b]? = some o := by
  rw [Below.heap_alloc _ _ _ (lt_of_block h)]; exact h
theorem heap_drew {w : World} {b : Nat} {o : Obj} (h : w.heap[b]? = some o) : w.drew.heap[b]? = some o := h
theorem heap_drewN {w : World} {b n : Nat} {o : Obj} (h : w.heap[b]? = some o) : (w.drewN n).heap[b]? = some o := h

/-- The slice v reads as the cells l (elements of one cell). -/
def Rd (w : World) (v : Value) (l : List Value) : Prop :=
  ∃ ad cap, v = .slice ad l.length cap ∧ l.length ≤ cap ∧ cap ≤ maxLen ∧ ∀ i, i < l.length → ∃ b off, ad = some ⟨b, off, none⟩ ∧ w.cell? ⟨b, off + i, none⟩ = some (l.getD i undef)
theorem Rd.nil (w : World) : Rd w (.slice none 0 0) [] := ⟨none, 0, rfl, Nat.le_refl _, Nat.zero_le _, fun i hi => by simp at hi⟩
theorem Rd.mods {S : List Nat} {w w' : World} {v : Value} {l : List Value} (h : Rd w v l) (hm : Mods S w w') (hn : l ≠ [] → ∀ k, v.ownBlock = some k → k ∉ S) : Rd w' v l := by
  obtain ⟨ad, cap, rfl, h1, h2, hc⟩ := h
  refine ⟨ad, cap, rfl, h1, h2, fun i hi => ?_⟩
  obtain ⟨b, off, rfl, hb⟩ := hc i hi
  exact ⟨b, off, rfl, hm.cell hb (hn (by rintro rfl; simp at hi) b rfl)⟩
theorem Rd.mods0 {w w' : World} {v : Value} {l : List Value} (h : Rd w v l) (hm : Mods [] w w') : Rd w' v l := h.mods hm fun _ _ _ => by simp
theorem Rd.own {w : World} {base n : Nat} {e : TypeId} {v : Value} {xs : List Value} (ho : w.ownsRow base e 1 v n xs) : Rd w v xs := by
  obtain ⟨hl, h⟩ := ho
  rw [Nat.mul_one] at hl
  subst hl
  rcases h with ⟨rfl, h0⟩ | ⟨g, cap, cur, rfl, _, hg, h1, h2, h3, h4⟩
  · exact ⟨none, 0, by rw [h0], by omega, Nat.zero_le _, fun i hi => by omega⟩
  · refine ⟨_, cap, rfl, h1, h2, fun i hi => ⟨g, 0, rfl, ?_⟩⟩
    rw [cell_blk hg]
    have h5 : xs[i]? = some (xs.getD i undef) := by rw [List.getD_eq_getElem?_getD, List.getElem?_eq_getElem hi]; rfl
    rw [← h5, ← h4, Nat.zero_add, List.getElem?_take, if_pos (by omega)]
    simp
theorem Rd.len {w : World} {v : Value} {l : List Value} (h : Rd w v l) : ∃ ad cap, v = .slice ad l.length cap := by
  obtain ⟨ad, cap, rfl, _⟩ := h; exact ⟨ad, cap, rfl⟩
/-- A reading's block lies in the heap. -/
theorem Rd.block_lt {w : World} {v : Value} {l : List Value} (h : Rd w v l) (hl : l ≠ []) : ∀ k, v.ownBlock = some k → k < w.heap.size := by
  obtain ⟨ad, cap, rfl, _, _, hc⟩ := h
  intro k hk
  obtain ⟨b, off, rfl, hb⟩ := hc 0 (List.length_pos_iff.2 hl)
  simp [Value.ownBlock] at hk
  subst hk
  exact World.block_lt_of_cell? w _ hb
/-- What is owned is known by its block, or it is nil. -/
theorem owns_form {w : World} {base size n : Nat} {e : TypeId} {v : Value} {xs : List Value} (ho : w.ownsRow base e size v n xs) (hn : 0 < n) :
    ∃ g cap cur, v = .slice (some ⟨g, 0, none⟩) n cap ∧ w.heap[g]? = some (.cells cur e (0, 0)) ∧ n ≤ cap ∧ cap ≤ maxLen ∧ cur.size = cap * size ∧ cur.toList.take (n * size) = xs := by
  rcases ho.2 with ⟨_, h0⟩ | ⟨g, cap, cur, rfl, _, hg, h1, h2, h3, h4⟩
  · omega
  · exact ⟨g, cap, cur, rfl, hg, h1, h2, h3, h4⟩
def u8s (l : List Int) : List Value := l.map (Value.int .u8)
def i64s (l : List Int) : List Value := l.map (Value.int .i64)
theorem u8s_length (l : List Int) : (u8s l).length = l.length := by simp [u8s]
theorem i64s_length (l : List Int) : (i64s l).length = l.length := by simp [i64s]
theorem u8s_getD (l : List Int) (i : Nat) (h : i < l.length) : (u8s l).getD i undef = .int .u8 (l.getD i 0) := by
  simp [u8s, List.getD_eq_getElem?_getD, List.getElem?_eq_getElem h]
theorem i64s_getD (l : List Int) (i : Nat) (h : i < l.length) : (i64s l).getD i undef = .int .i64 (l.getD i 0) := by
  simp [i64s, List.getD_eq_getElem?_getD, List.getElem?_eq_getElem h]
theorem Rd.u8 {w : World} {v : Value} {l : List Int} (h : Rd w v (u8s l)) : ∃ ad cap, v = .slice ad l.length cap ∧ l.length ≤ cap ∧ cap ≤ maxLen ∧ ∀ i, i < l.length → ∃ b off, ad = some ⟨b, off, none⟩ ∧ w.cell? ⟨b, off + i, none⟩ = some (.int .u8 (l.getD i 0)) := by
  obtain ⟨ad, cap, rfl, h1, h2, hc⟩ := h
  rw [u8s_length] at h1 hc ⊢
  refine ⟨ad, cap, rfl, h1, h2, fun i hi => ?_⟩
  obtain ⟨b, off, e, hb⟩ := hc i hi
  rw [u8s_getD l i hi] at hb
  exact ⟨b, off, e, hb⟩
theorem Rd.i64 {w : World} {v : Value} {l : List Int} (h : Rd w v (i64s l)) : ∃ ad cap, v = .slice ad l.length cap ∧ l.length ≤ cap ∧ cap ≤ maxLen ∧ ∀ i, i < l.length → ∃ b off, ad = some ⟨b, off, none⟩ ∧ w.cell? ⟨b, off + i, none⟩ = some (.int .i64 (l.getD i 0)) := by
  obtain ⟨ad, cap, rfl, h1, h2, hc⟩ := h
  rw [i64s_length] at h1 hc ⊢
  refine ⟨ad, cap, rfl, h1, h2, fun i hi => ?_⟩
  obtain ⟨b, off, e, hb⟩ := hc i hi
  rw [i64s_getD l i hi] at hb
  exact ⟨b, off, e, hb⟩
theorem ret_bool {a b : Bool} (h : a = b) : Ending.returned (.bool a) = .returned (.bool b) := by rw [h]
theorem ret_int {k : IntKind} {a b : Int} (h : a = b) : Ending.returned (.int k a) = .returned (.int k b) := by rw [h]

/-- The blocks from B on. -/
def from_ (B : Nat) (w : World) : List Nat := List.range' B (w.heap.size - B)
theorem mem_from {B k : Nat} {w : World} (h : k ∈ from_ B w) : B ≤ k := by
  simp [from_, List.mem_range'] at h; omega
theorem Mods.of_from {B : Nat} {w w' : World} (h : Below B w w') : Mods (from_ B w) w w' :=
  ⟨h.os, h.tape, h.output, h.size, fun k hk hn => h.block k (by
    rcases Nat.lt_or_ge k B with h1 | h1
    · exact h1
    · exact absurd (by simp [from_, List.mem_range']; exact ⟨k - B, by omega, by omega⟩) hn)⟩
/-- What stays from B on goes into nothing where B lies beyond. -/
theorem Mods.then_from {S : List Nat} {B : Nat} {a w w' : World} (h : Mods S a w) (h' : Mods (from_ B w) w w') (hB : a.heap.size ≤ B) : Mods S a w' :=
  h.comp h' fun k hk => .inr (by have := mem_from hk; omega)
/-- append of one element to a slice of the call's own. -/
theorem wpList_push {P : Program} {ops : Array Oper} {rest : List Oper} {o : Oper} {a : Act} {Q : Exit → Act → World → Prop} {w0 : World} (hgd : o.guard = none) (s x : Operand) (t : TypeId)
    (ho : o.op = .call { callee := .builtin .append, args := #[s, x], argTypes := #[t, t] })
    (base : Nat) (e : TypeId) (i : TypeInfo) (z : Value) (bytes : Nat) (ht : P.underlying t = some (.slice e)) (hi : P.info? e = some i) (hz : i.zero = some z)
    (hsize : i.size = 1) (hby : i.bytes = bytes) (hzs : z.cells.size = 1)
    (v : Value) (n : Nat) (xs : List Value) (hs : a.eval s = v) (hown : w0.ownsRow base e 1 v n xs) (u : Value) (T : TypeId) (hx : a.eval x = .slice (some ⟨w0.heap.size, 0, none⟩) 1 1) (hu : u.oneCell' = true)
    (hn : n ≤ 1000000) (hb : bytes ≤ 1000) (hbase : base ≤ w0.heap.size)
    (h : ∀ v' w', w'.ownsRow base e 1 v' (n + 1) (xs ++ [u]) → Mods (from_ base w0) w0 w' → wpList P ops Q rest (a.put o.dst v') w') : wpList P ops Q (o :: rest) a (w0.alloc (.cells #[u] T)) := by
  refine wpList_append_own _ hgd s x t ho base e i z 1 bytes ht hi hz hsize hby hzs (by decide) v n xs hs (hown.alloc _) ⟨w0.heap.size, 0, none⟩ 1 1 [u] hx rfl (cell_one_new _ _ _) (by intro u' hu'; simp at hu'; subst hu'; exact hu) (by unfold maxLen; omega) ?_ (by simp; omega) ?_
  · have : (n + 1) * bytes ≤ 1000001 * 1000 := Nat.mul_le_mul (by omega) hb
    omega
  · intro v' w' h1 h2 _
    refine h v' w' h1 (Mods.of_from (((Below.refl base w0).alloc hbase _).grown h2 (by simp; omega) fun k hk => (hown.lt k hk).1))
theorem own_u8 {w : World} {b n : Nat} {T : TypeId} {v : Value} {ds : List Int} {x : Int} (h : w.ownsRow b T 1 v n (u8s ds ++ [.int .u8 x])) : w.ownsRow b T 1 v n (u8s (ds ++ [x])) := by
  have e : u8s (ds ++ [x]) = u8s ds ++ [.int .u8 x] := by simp [u8s]
  rw [e]; exact h
theorem own_i64 {w : World} {b n : Nat} {T : TypeId} {v : Value} {ds : List Int} {x : Int} (h : w.ownsRow b T 1 v n (i64s ds ++ [.int .i64 x])) : w.ownsRow b T 1 v n (i64s (ds ++ [x])) := by
  have e : i64s (ds ++ [x]) = i64s ds ++ [.int .i64 x] := by simp [i64s]
  rw [e]; exact h
end Go.Proofs.Ytkdadnlleepkfaa
