/- Joined texts. Worlds, blocks and slices: what stays, what may turn, and how a slice reads. Nothing of the program stands here. | Numbers of the dice: the remainder. | Sensor records, conversions and thresholds as plain data: bits, order, validity. No program stands here. | Dice and small comparisons: contracts. | convert's small functions and the reference's: contracts. | convert.Valid: contract. | convert.Valid: contract. | The reference's Valid of conversions: contract. -/
import Derived.WalkKit
import Derived.WalkSpells
import Derived.WalkLawsBesides
import Derived.Lib.Hide
import Derived.Deep.Draws
import Derived.Test.YtijjkonephjodaaGreatDoorProg
import Derived.Deep.QuietTactic
import Derived.BigQuiet
import Derived.StillTailTactics
import Derived.Deep.RegionWith
import Derived.Deep.RegionHeld3
import Derived.BigGuardPart
namespace Go.Proofs.YtijjkonephjodaaGreatDoor
open Go.RowKit

/-- Below the heap's size only the blocks of S may have turned. -/
structure Mods (S : List Nat) (w w' : World) : Prop where
  os : w'.os = w.os
  tape : w'.tape = w.tape
  output : w'.output = w.output
  size : w.heap.size ≤ w'.heap.size
  block : ∀ k, k < w.heap.size → k ∉ S → w'.heap[k]? = w.heap[k]?

theorem Mods.refl {S : List Nat} {w : World} : Mods S w w := ⟨rfl, rfl, rfl, Nat.le_refl _, fun _ _ _ => rfl⟩
theorem Mods.mono {S S' : List Nat} {w w' : World} (h : Mods S w w') (hs : ∀ k, k ∈ S → k ∈ S' ∨ w.heap.size ≤ k) : Mods S' w w' :=
  ⟨h.os, h.tape, h.output, h.size, fun k hk hn => h.block k hk fun hm => by rcases hs k hm with h1 | h1; exact hn h1; omega⟩
theorem Mods.comp {S S' : List Nat} {a b c : World} (h : Mods S a b) (h' : Mods S' b c) (hs : ∀ k, k ∈ S' → k ∈ S ∨ a.heap.size ≤ k) : Mods S a c :=
  ⟨h'.os.trans h.os, h'.tape.trans h.tape, h'.output.trans h.output, Nat.le_trans h.size h'.size, fun k hk hn => by
    rw [h'.block k (Nat.lt_of_lt_of_le hk h.size) (fun hm => by rcases hs k hm with h1 | h1; exact hn h1; omega)]
    exact h.block k hk hn⟩
theorem Mods.trans {S : List Nat} {a b c : World} (h : Mods S a b) (h' : Mods S b c) : Mods S a c := h.comp h' fun _ h => .inl h
theorem Mods.nil {S : List Nat} {w w' : World} (h : Mods [] w w') : Mods S w w' := h.mono fun _ h => by cases h
theorem Mods.comp0 {S : List Nat} {a b c : World} (h : Mods S a b) (h' : Mods [] b c) : Mods S a c := h.comp h' fun _ h => by cases h
theorem Mods.drew {S : List Nat} {a w : World} (h : Mods S a w) : Mods S a w.drew := ⟨h.os, h.tape, h.output, h.size, h.block⟩
theorem Mods.drewN {S : List Nat} {a w : World} (h : Mods S a w) (n : Nat) : Mods S a (w.drewN n) := ⟨h.os, h.tape, h.output, h.size, h.block⟩
theorem Mods.alloc {S : List Nat} {a w : World} (h : Mods S a w) (o : Obj) : Mods S a (w.alloc o) :=
  h.trans ⟨rfl, rfl, rfl, by simp, fun k hk _ => Below.heap_alloc _ _ _ hk⟩
theorem Mods.setCell {S : List Nat} {a w : World} (h : Mods S a w) {p : Addr} (hp : p.block ∈ S ∨ a.heap.size ≤ p.block) (u : Value) : Mods S a (w.setCell p u) :=
  h.comp (S' := [p.block]) ⟨rfl, rfl, rfl, by simp, fun k _ hn => Below.heap_setCell _ _ _ _ (by simpa using hn)⟩ (by intro k hk; simp at hk; subst hk; exact hp)
theorem Mods.grown {S : List Nat} {a w w' : World} {row : Option Nat} (h : Mods S a w) (hg : w.grownBy w' row) (hr : ∀ k, row = some k → k ∈ S ∨ a.heap.size ≤ k) : Mods S a w' :=
  h.comp (S' := row.toList) ⟨hg.os, hg.tape, hg.output, hg.size, fun k hk hn => hg.block k hk (fun e => hn (by rw [← e]; simp))⟩ (by intro k hk; exact hr k (by simpa using hk))
theorem Mods.of_grown {w w' : World} {row : Option Nat} (hg : w.grownBy w' row) : Mods row.toList w w' := Mods.refl.grown hg fun k hk => .inl (by simp [hk])
theorem Mods.below {S : List Nat} {w w' : World} (h : Mods S w w') {B : Nat} (hB : B ≤ w.heap.size) (hs : ∀ k, k ∈ S → B ≤ k) : Below B w w' :=
  ⟨h.os, h.tape, h.output, h.size, fun k hk => h.block k (by omega) fun hm => by have := hs k hm; omega⟩
theorem Mods.of_below {w w' : World} (h : Below w.heap.size w w') : Mods [] w w' := ⟨h.os, h.tape, h.output, h.size, fun k hk _ => h.block k hk⟩
theorem Mods.heap {S : List Nat} {w w' : World} (h : Mods S w w') {k : Nat} {o : Obj} (hb : w.heap[k]? = some o) (hn : k ∉ S) : w'.heap[k]? = some o := by
  rw [h.block k (lt_of_block hb) hn]; exact hb
theorem Mods.cell {S : List Nat} {w w' : World} (h : Mods S w w') {a : Addr} {v : Value} (hc : w.cell? a = some v) (hn : a.block ∉ S) : w'.cell? a = some v := by
  rw [World.cell?_of_block (h.block a.block (World.block_lt_of_cell? w a hc) hn)]; exact hc
theorem Mods.owns {S : List Nat} {w w' : World} (h : Mods S w w') {base size n : Nat} {e : TypeId} {v : Value} {xs : List Value} (ho : w.ownsRow base e size v n xs) (hn : ∀ k, v.ownBlock = some k → k ∉ S) : w'.ownsRow base e size v n xs := by
  refine ⟨ho.1, ?_⟩
  rcases ho.2 with h1 | ⟨g, cap, cur, rfl, hb, hg, rest⟩
  · exact .inl h1
  · exact .inr ⟨g, cap, cur, rfl, hb, h.heap hg (hn g rfl), rest⟩
theorem Mods.lt {S : List Nat} {w w' : World} (h : Mods S w w') {k : Nat} (hk : k < w.heap.size) : k < w'.heap.size := Nat.lt_of_lt_of_le hk h.size

/-- A block of cells, cell by cell. -/
theorem cell_blk {w : World} {b : Nat} {c : Array Value} {T : TypeId} {fr : Nat × Nat} (h : w.heap[b]? = some (.cells c T fr)) (i : Nat) : w.cell? ⟨b, i, none⟩ = c[i]? := by simp [World.cell?, h]
theorem froz_blk {w : World} {b : Nat} {c : Array Value} {T : TypeId} (h : w.heap[b]? = some (.cells c T (0, 0))) (i : Nat) : w.frozen? ⟨b, i, none⟩ = false := by simp [World.frozen?, h]
theorem heap_setCell {w : World} {b i : Nat} {v : Value} {c : Array Value} {T : TypeId} {fr : Nat × Nat} (h : w.heap[b]? = some (.cells c T fr)) : (w.setCell ⟨b, i, none⟩ v).heap[b]? = some (.cells (c.setIfInBounds i v) T fr) := by
  simp [World.setCell, Array.getElem?_modify, h]
theorem heap_setCell_ne {w : World} {a : Addr} {b : Nat} {v : Value} {o : Obj} (h : w.heap[b]? = some o) (hne : b ≠ a.block) : (w.setCell a v).heap[b]? = some o := by
  rw [Below.heap_setCell _ _ _ _ hne]; exact h
theorem heap_alloc {w : World} {b : Nat} {o o' : Obj} (h : w.heap[b]? = some o) : (w.alloc o').heap[b]? = some o := by
  rw [Below.heap_alloc _ _ _ (lt_of_block h)]; exact h
theorem heap_drew {w : World} {b : Nat} {o : Obj} (h : w.heap[b]? = some o) : w.drew.heap[b]? = some o := h
theorem heap_drewN {w : World} {b n : Nat} {o : Obj} (h : w.heap[b]? = some o) : (w.drewN n).heap[b]? = some o := h

/-- The slice v reads as the cells l (elements of one cell). -/
def Rd (w : World) (v : Value) (l : List Value) : Prop :=
  ∃ ad cap, v = .slice ad l.length cap ∧ l.length ≤ cap ∧ cap ≤ maxLen ∧ ∀ i, i < l.length → ∃ b off, ad = some ⟨b, off, none⟩ ∧ w.cell? ⟨b, off + i, none⟩ = some (l.getD i undef)
theorem Rd.nil (w : World) : Rd w (.slice none 0 0) [] := ⟨none, 0, rfl, Nat.le_refl _, Nat.zero_le _, fun i hi => by simp at hi⟩
theorem Rd.mods {S : List Nat} {w w' : World} {v : Value} {l : List Value} (h : Rd w v l) (hm : Mods S w w') (hn : l ≠ [] → ∀ k, v.ownBlock = some k → k ∉ S) : Rd w' v l := by
  obtain ⟨ad, cap, rfl, h1, h2, hc⟩ := h
  refine ⟨ad, cap, rfl, h1, h2, fun i hi => ?_⟩
  obtain ⟨b, off, rfl, hb⟩ := hc i hi
  exact ⟨b, off, rfl, hm.cell hb (hn (by rintro rfl; simp at hi) b rfl)⟩
theorem Rd.mods0 {w w' : World} {v : Value} {l : List Value} (h : Rd w v l) (hm : Mods [] w w') : Rd w' v l := h.mods hm fun _ _ _ => by simp
theorem Rd.own {w : World} {base n : Nat} {e : TypeId} {v : Value} {xs : List Value} (ho : w.ownsRow base e 1 v n xs) : Rd w v xs := by
  obtain ⟨hl, h⟩ := ho
  rw [Nat.mul_one] at hl
  subst hl
  rcases h with ⟨rfl, h0⟩ | ⟨g, cap, cur, rfl, _, hg, h1, h2, h3, h4⟩
  · exact ⟨none, 0, by rw [h0], by omega, Nat.zero_le _, fun i hi => by omega⟩
  · refine ⟨_, cap, rfl, h1, h2, fun i hi => ⟨g, 0, rfl, ?_⟩⟩
    rw [cell_blk hg]
    have h5 : xs[i]? = some (xs.getD i undef) := by rw [List.getD_eq_getElem?_getD, List.getElem?_eq_getElem hi]; rfl
    rw [← h5, ← h4, Nat.zero_add, List.getElem?_take, if_pos (by omega)]
    simp
theorem Rd.len {w : World} {v : Value} {l : List Value} (h : Rd w v l) : ∃ ad cap, v = .slice ad l.length cap := by
  obtain ⟨ad, cap, rfl, _⟩ := h; exact ⟨ad, cap, rfl⟩
/-- A reading's block lies in the heap. -/
theorem Rd.block_lt {w : World} {v : Value} {l : List Value} (h : Rd w v l) (hl : l ≠ []) : ∀ k, v.ownBlock = some k → k < w.heap.size := by
  obtain ⟨ad, cap, rfl, _, _, hc⟩ := h
  intro k hk
  obtain ⟨b, off, rfl, hb⟩ := hc 0 (List.length_pos_iff.2 hl)
  simp [Value.ownBlock] at hk
  subst hk
  exact World.block_lt_of_cell? w _ hb
/-- What is owned is known by its block, or it is nil. -/
theorem owns_form {w : World} {base size n : Nat} {e : TypeId} {v : Value} {xs : List Value} (ho : w.ownsRow base e size v n xs) (hn : 0 < n) :
    ∃ g cap cur, v = .slice (some ⟨g, 0, none⟩) n cap ∧ w.heap[g]? = some (.cells cur e (0, 0)) ∧ n ≤ cap ∧ cap ≤ maxLen ∧ cur.size = cap * size ∧ cur.toList.take (n * size) = xs := by
  rcases ho.2 with ⟨_, h0⟩ | ⟨g, cap, cur, rfl, _, hg, h1, h2, h3, h4⟩
  · omega
  · exact ⟨g, cap, cur, rfl, hg, h1, h2, h3, h4⟩
def u8s (l : List Int) : List Value := l.map (Value.int .u8)
def i64s (l : List Int) : List Value := l.map (Value.int .i64)
theorem u8s_length (l : List Int) : (u8s l).length = l.length := by simp [u8s]
theorem i64s_length (l : List Int) : (i64s l).length = l.length := by simp [i64s]
theorem u8s_getD (l : List Int) (i : Nat) (h : i < l.length) : (u8s l).getD i undef = .int .u8 (l.getD i 0) := by
  simp [u8s, List.getD_eq_getElem?_getD, List.getElem?_eq_getElem h]
theorem i64s_getD (l : List Int) (i : Nat) (h : i < l.length) : (i64s l).getD i undef = .int .i64 (l.getD i 0) := by
  simp [i64s, List.getD_eq_getElem?_getD, List.getElem?_eq_getElem h]
theorem Rd.u8 {w : World} {v : Value} {l : List Int} (h : Rd w v (u8s l)) : ∃ ad cap, v = .slice ad l.length cap ∧ l.length ≤ cap ∧ cap ≤ maxLen ∧ ∀ i, i < l.length → ∃ b off, ad = some ⟨b, off, none⟩ ∧ w.cell? ⟨b, off + i, none⟩ = some (.int .u8 (l.getD i 0)) := by
  obtain ⟨ad, cap, rfl, h1, h2, hc⟩ := h
  rw [u8s_length] at h1 hc ⊢
  refine ⟨ad, cap, rfl, h1, h2, fun i hi => ?_⟩
  obtain ⟨b, off, e, hb⟩ := hc i hi
  rw [u8s_getD l i hi] at hb
  exact ⟨b, off, e, hb⟩
theorem Rd.i64 {w : World} {v : Value} {l : List Int} (h : Rd w v (i64s l)) : ∃ ad cap, v = .slice ad l.length cap ∧ l.length ≤ cap ∧ cap ≤ maxLen ∧ ∀ i, i < l.length → ∃ b off, ad = some ⟨b, off, none⟩ ∧ w.cell? ⟨b, off + i, none⟩ = some (.int .i64 (l.getD i 0)) := by
  obtain ⟨ad, cap, rfl, h1, h2, hc⟩ := h
  rw [i64s_length] at h1 hc ⊢
  refine ⟨ad, cap, rfl, h1, h2, fun i hi => ?_⟩
  obtain ⟨b, off, e, hb⟩ := hc i hi
  rw [i64s_getD l i hi] at hb
  exact ⟨b, off, e, hb⟩
theorem ret_bool {a b : Bool} (h : a = b) : Ending.returned (.bool a) = .returned (.bool b) := by rw [h]
theorem ret_int {k : IntKind} {a b : Int} (h : a = b) : Ending.returned (.int k a) = .returned (.int k b) := by rw [h]

/-- The blocks from B on. -/
def from_ (B : Nat) (w : World) : List Nat := List.range' B (w.heap.size - B)
theorem mem_from {B k : Nat} {w : World} (h : k ∈ from_ B w) : B ≤ k := by
  simp [from_, List.mem_range'] at h; omega
theorem Mods.of_from {B : Nat} {w w' : World} (h : Below B w w') : Mods (from_ B w) w w' :=
  ⟨h.os, h.tape, h.output, h.size, fun k hk hn => h.block k (by
    rcases Nat.lt_or_ge k B with h1 | h1
    · exact h1
    · exact absurd (by simp [from_, List.mem_range']; exact ⟨k - B, by omega, by omega⟩) hn)⟩
/-- What stays from B on goes into nothing where B lies beyond. -/
theorem Mods.then_from {S : List Nat} {B : Nat} {a w w' : World} (h : Mods S a w) (h' : Mods (from_ B w) w w') (hB : a.heap.size ≤ B) : Mods S a w' :=
  h.comp h' fun k hk => .inr (by have := mem_from hk; omega)
/-- append of one element to a slice of the call's own. -/
theorem wpList_push {P : Program} {ops : Array Oper} {rest : List Oper} {o : Oper} {a : Act} {Q : Exit → Act → World → Prop} {w0 : World} (hgd : o.guard = none) (s x : Operand) (t : TypeId)
    (ho : o.op = .call { callee := .builtin .append, args := #[s, x], argTypes := #[t, t] })
    (base : Nat) (e : TypeId) (i : TypeInfo) (z : Value) (bytes : Nat) (ht : P.underlying t = some (.slice e)) (hi : P.info? e = some i) (hz : i.zero = some z)
    (hsize : i.size = 1) (hby : i.bytes = bytes) (hzs : z.cells.size = 1)
    (v : Value) (n : Nat) (xs : List Value) (hs : a.eval s = v) (hown : w0.ownsRow base e 1 v n xs) (u : Value) (T : TypeId) (hx : a.eval x = .slice (some ⟨w0.heap.size, 0, none⟩) 1 1) (hu : u.oneCell' = true)
    (hn : n ≤ 1000000) (hb : bytes ≤ 1000) (hbase : base ≤ w0.heap.size)
    (h : ∀ v' w', w'.ownsRow base e 1 v' (n + 1) (xs ++ [u]) → Mods (from_ base w0) w0 w' → wpList P ops Q rest (a.put o.dst v') w') : wpList P ops Q (o :: rest) a (w0.alloc (.cells #[u] T)) := by
  refine wpList_append_own _ hgd s x t ho base e i z 1 bytes ht hi hz hsize hby hzs (by decide) v n xs hs (hown.alloc _) ⟨w0.heap.size, 0, none⟩ 1 1 [u] hx rfl (cell_one_new _ _ _) (by intro u' hu'; simp at hu'; subst hu'; exact hu) (by unfold maxLen; omega) ?_ (by simp; omega) ?_
  · have : (n + 1) * bytes ≤ 1000001 * 1000 := Nat.mul_le_mul (by omega) hb
    omega
  · intro v' w' h1 h2 _
    refine h v' w' h1 (Mods.of_from (((Below.refl base w0).alloc hbase _).grown h2 (by simp; omega) fun k hk => (hown.lt k hk).1))
theorem own_u8 {w : World} {b n : Nat} {T : TypeId} {v : Value} {ds : List Int} {x : Int} (h : w.ownsRow b T 1 v n (u8s ds ++ [.int .u8 x])) : w.ownsRow b T 1 v n (u8s (ds ++ [x])) := by
  have e : u8s (ds ++ [x]) = u8s ds ++ [.int .u8 x] := by simp [u8s]
  rw [e]; exact h
theorem own_i64 {w : World} {b n : Nat} {T : TypeId} {v : Value} {ds : List Int} {x : Int} (h : w.ownsRow b T 1 v n (i64s ds ++ [.int .i64 x])) : w.ownsRow b T 1 v n (i64s (ds ++ [x])) := by
  have e : i64s (ds ++ [x]) = i64s ds ++ [.int .i64 x] := by simp [i64s]
  rw [e]; exact h
end Go.Proofs.YtijjkonephjodaaGreatDoor

namespace Go.Proofs.YtijjkonephjodaaGreatDoor
open Go.RowKit

theorem not_from {B k : Nat} {w : World} (h : k < B) : k ∉ from_ B w := fun hj => by have := mem_from hj; omega
/-- In a quiet region: a contract that leaves the world alone. -/
theorem quiet_left {P : Program} {f : FuncId} {args : Array Value} {w : World} {n : Nat} {v : Value}
    (h : Calls P f args (w.drewN n) fun e w' => e = .returned v ∧ w.drewN n = w') : Calls P f args (w.drewN n) fun e w'' => e = .returned v ∧ ∃ m, w'' = w.drewN m :=
  h.mono fun _ _ ⟨he, hm⟩ => ⟨he, n, hm.symm⟩
theorem quiet_add_left {P : Program} {f : FuncId} {args : Array Value} {w : World} {a n : Nat} {v : Value}
    (h : Calls P f args (w.drewN (a + n)) fun e w' => e = .returned v ∧ w.drewN (a + n) = w') :
    Calls P f args (w.drewN (a + n)) fun e w'' => e = .returned v ∧ ∃ m, w'' = w.drewN (a + m) :=
  h.mono fun _ _ ⟨he, hm⟩ => ⟨he, n, hm.symm⟩
/-- Bounds of an int. -/
def I64 (n : Int) : Prop := -9223372036854775808 ≤ n ∧ n ≤ 9223372036854775807

theorem tmod_emod (n m : Int) (hm : 0 < m) : (if n.tmod m < 0 then n.tmod m + m else n.tmod m) = n % m := by
  have h1 := Int.tmod_add_mul_tdiv n m
  have h2 := Int.emod_nonneg n (show m ≠ 0 by omega)
  have h3 := Int.emod_lt_of_pos n hm
  have h4 := Int.tmod_lt_of_pos n hm
  rcases Int.lt_or_le n 0 with hn | hn
  · have h5 : -m < n.tmod m := by have := Int.neg_tmod n m; have h6 := Int.tmod_lt_of_pos (-n) hm; omega
    have h7 : n.tmod m ≤ 0 := by have := Int.neg_tmod n m; have h6 := Int.tmod_nonneg m (show 0 ≤ -n by omega); omega
    by_cases h : n.tmod m < 0
    · rw [if_pos h]
      have : n % m = (n.tmod m + m) % m := by
        have e : n = (n.tmod m) + m * n.tdiv m := by omega
        conv => lhs; rw [e]
        rw [Int.add_mul_emod_self_left, Int.add_emod_right]
      rw [this, Int.emod_eq_of_lt (by omega) (by omega)]
    · rw [if_neg h]
      have : n % m = (n.tmod m) % m := by
        have e : n = (n.tmod m) + m * n.tdiv m := by omega
        conv => lhs; rw [e]
        rw [Int.add_mul_emod_self_left]
      rw [this, Int.emod_eq_of_lt (by omega) (by omega)]
  · have h5 := Int.tmod_nonneg m hn
    rw [if_neg (by omega), Int.tmod_eq_emod_of_nonneg hn]

set_option maxHeartbeats 400000 in
theorem mod_ok (n m : Int) (w : World) (hn : I64 n) (hm : 0 < m) (hm2 : m ≤ 4611686018427387904) :
    Calls Tryz.prog 18 #[.int .i64 n, .int .i64 m] w fun e w' => e = .returned (.int .i64 (n % m)) ∧ w = w' := by
  have H := Lib.hid (tmod_emod n m hm)
  obtain ⟨hn1, hn2⟩ := hn
  have h4 := Int.tmod_lt_of_pos n hm
  have h5 : -m < n.tmod m := by have := Int.neg_tmod n m; have h6 := Int.tmod_lt_of_pos (-n) hm; omega
  by_cases hneg : n.tmod m < 0
  · by_cases hn0 : 0 ≤ n
    · have := Int.tmod_nonneg m hn0; omega
    · go_enter Tryz.func18, Tryz.ntmps18
      go_wp2
      go_ret
      refine ⟨ret_int ?_, rfl⟩
      rw [← H.out, if_pos hneg]
  · go_enter Tryz.func18, Tryz.ntmps18
    go_wp2
    go_ret
    refine ⟨ret_int ?_, rfl⟩
    rw [← H.out, if_neg (by omega)]
end Go.Proofs.YtijjkonephjodaaGreatDoor

namespace Go.Proofs.YtijjkonephjodaaGreatDoor
open Go.RowKit

/-- The number whose bits below k are f's. -/
def ofBits (f : Nat → Bool) : Nat → Nat
  | 0 => 0
  | k + 1 => ofBits f k + if f k then 2 ^ k else 0
theorem ofBits_lt (f : Nat → Bool) : ∀ k, ofBits f k < 2 ^ k
  | 0 => by simp [ofBits]
  | k + 1 => by
    have := ofBits_lt f k
    simp only [ofBits, Nat.pow_succ]
    split <;> omega
theorem testBit_ofBits (f : Nat → Bool) : ∀ k i, (ofBits f k).testBit i = (decide (i < k) && f i)
  | 0, i => by simp [ofBits]
  | k + 1, i => by
    have hl := ofBits_lt f k
    have ih := testBit_ofBits f k i
    simp only [ofBits]
    by_cases hf : f k
    · rw [if_pos hf, Nat.add_comm]
      rcases Nat.lt_trichotomy i k with h | h | h
      · rw [Nat.testBit_two_pow_add_gt h, ih, decide_eq_true h, decide_eq_true (show i < k + 1 by omega)]
      · subst h; rw [Nat.testBit_two_pow_add_eq, ih]; simp [hf]
      · rw [Nat.testBit_lt_two_pow (Nat.lt_of_lt_of_le (show 2 ^ k + ofBits f k < 2 ^ (k + 1) by rw [Nat.pow_succ]; omega) (Nat.pow_le_pow_right (by omega) h))]
        rw [decide_eq_false (show ¬ i < k + 1 by omega), Bool.false_and]
    · rw [if_neg hf, Nat.add_zero, ih]
      rcases Nat.lt_trichotomy i k with h | h | h
      · simp [h, Nat.lt_succ_of_lt h]
      · subst h; simp [hf]
      · simp [show ¬ i < k by omega, show ¬ i < k + 1 by omega]
theorem bits_ext {a b k : Nat} (ha : a < 2 ^ k) (hb : b < 2 ^ k) (h : ∀ i, i < k → a.testBit i = b.testBit i) : a = b := by
  refine Nat.eq_of_testBit_eq fun i => ?_
  rcases Nat.lt_or_ge i k with hi | hi
  · exact h i hi
  · have hp : 2 ^ k ≤ 2 ^ i := Nat.pow_le_pow_right (by omega) hi
    rw [Nat.testBit_lt_two_pow (by omega), Nat.testBit_lt_two_pow (by omega)]
theorem ofBits_testBit {m k : Nat} (h : m < 2 ^ k) : ofBits m.testBit k = m :=
  bits_ext (ofBits_lt _ _) h fun i hi => by rw [testBit_ofBits]; simp [hi]
theorem ofBits_congr {f g : Nat → Bool} : ∀ {k : Nat}, (∀ i, i < k → f i = g i) → ofBits f k = ofBits g k
  | 0, _ => rfl
  | k + 1, h => by simp only [ofBits]; rw [ofBits_congr fun i hi => h i (by omega), h k (by omega)]
theorem ofBits_or {f : Nat → Bool} {k : Nat} : ofBits f k ||| (if f k then 2 ^ k else 0) = ofBits f (k + 1) := by
  have hl := ofBits_lt f k
  simp only [ofBits]
  by_cases hf : f k
  · rw [if_pos hf, Nat.or_comm, Nat.add_comm]; have := Nat.two_pow_add_eq_or_of_lt hl 1; rw [Nat.mul_one] at this; exact this.symm
  · rw [if_neg hf]; simp
theorem tb (m i : Nat) : m.testBit i = decide (m / 2 ^ i % 2 = 1) := by rw [Nat.testBit_eq_decide_div_mod_eq]

def sel (m : Nat) (num : Nat → Int) (l : List Nat) : List Int := (l.filter m.testBit).map num
def sortedB : List Int → Bool
  | [] => true
  | [_] => true
  | a :: b :: l => decide (a ≤ b) && sortedB (b :: l)
def pairB (num : Nat → Int) (k i : Nat) : Bool := !(decide (i < 3 ∧ num k < num i) || decide (3 ≤ k ∧ num k > num i) || decide (k < 3 ∧ 3 ≤ i ∧ num k ≥ num i))
/-- The thresholds are in their order. -/
def ordB (m : Nat) (num : Nat → Int) : Bool := (List.range 6).all fun i => !m.testBit i || (List.range i).all fun k => !m.testBit k || pairB num k i
def apartB (lo hi : List Int) : Bool := match lo.getLast?, hi.head? with
  | some a, some b => decide (a < b)
  | _, _ => true
theorem ord_eq (m : Nat) (f : Nat → Int) : (sortedB (sel m f [2, 1, 0]) && sortedB (sel m f [3, 4, 5]) && apartB (sel m f [2, 1, 0]) (sel m f [3, 4, 5])) = ordB m f := by
  unfold ordB
  have e : ∀ b0 b1 b2 b3 b4 b5 : Bool, m.testBit 0 = b0 → m.testBit 1 = b1 → m.testBit 2 = b2 → m.testBit 3 = b3 → m.testBit 4 = b4 → m.testBit 5 = b5 →
    (sortedB (sel m f [2, 1, 0]) && sortedB (sel m f [3, 4, 5]) && apartB (sel m f [2, 1, 0]) (sel m f [3, 4, 5])) = ((List.range 6).all fun i => !m.testBit i || (List.range i).all fun k => !m.testBit k || pairB f k i) := by
    intro b0 b1 b2 b3 b4 b5 h0 h1 h2 h3 h4 h5
    have r6 : List.range 6 = [0, 1, 2, 3, 4, 5] := rfl
    have r5 : List.range 5 = [0, 1, 2, 3, 4] := rfl
    have r4 : List.range 4 = [0, 1, 2, 3] := rfl
    have r3 : List.range 3 = [0, 1, 2] := rfl
    have r2 : List.range 2 = [0, 1] := rfl
    have r1 : List.range 1 = [0] := rfl
    rw [Bool.eq_iff_iff]
    simp only [r6, r5, r4, r3, r2, r1, List.all_cons, List.all_nil, sel, List.filter, h0, h1, h2, h3, h4, h5, List.range_zero]
    cases b0 <;> cases b1 <;> cases b2 <;> cases b3 <;> cases b4 <;> cases b5 <;> simp [sortedB, apartB, pairB] <;> omega
  exact e _ _ _ _ _ _ rfl rfl rfl rfl rfl rfl
theorem ordB_get {m : Nat} {f : Nat → Int} (h : ordB m f = true) {k i : Nat} (hk : k < i) (hi : i < 6) (bk : m.testBit k = true) (bi : m.testBit i = true) : pairB f k i = true := by
  unfold ordB at h
  rw [List.all_eq_true] at h
  have h1 := h i (List.mem_range.2 hi)
  rw [bi, Bool.not_true, Bool.false_or, List.all_eq_true] at h1
  have h2 := h1 k (List.mem_range.2 hk)
  rw [bk] at h2
  simpa using h2

/-- A point of a table. -/
structure Pt where
  raw : Nat
  val : Int
instance : Inhabited Pt := ⟨⟨0, 0⟩⟩
/-- A conversion; pts is the slice of its points. -/
structure Conv where
  form : Int
  sgn : Bool
  m : Int
  b : Int
  k1 : Int
  k2 : Int
  pts : Value
/-- A sensor record. -/
structure Sen where
  number : Nat
  type : Nat
  unit : Nat
  name : ByteArray
  eid : Nat
  einst : Nat
  disc : Bool
  conv : Conv
  mask : Nat
  r0 : Nat
  r1 : Nat
  r2 : Nat
  r3 : Nat
  r4 : Nat
  r5 : Nat
  hl : Nat
  hu : Nat
  states : Nat
  asrt : Nat
  deas : Nat
  host : Bool
  samples : Int
def Conv.cells (C : Conv) : Array Value := #[.int .i64 C.form, .bool C.sgn, .int .i64 C.m, .int .i64 C.b, .int .i64 C.k1, .int .i64 C.k2, C.pts]
def Sen.cells (S : Sen) : Array Value := #[.int .u8 S.number, .int .u8 S.type, .int .u8 S.unit, .string S.name, .int .u8 S.eid, .int .u8 S.einst, .bool S.disc,
  .int .i64 S.conv.form, .bool S.conv.sgn, .int .i64 S.conv.m, .int .i64 S.conv.b, .int .i64 S.conv.k1, .int .i64 S.conv.k2, S.conv.pts,
  .int .u8 S.mask, .int .u8 S.r0, .int .u8 S.r1, .int .u8 S.r2, .int .u8 S.r3, .int .u8 S.r4, .int .u8 S.r5, .int .u8 S.hl, .int .u8 S.hu,
  .int .u16 S.states, .int .u16 S.asrt, .int .u16 S.deas, .bool S.host, .int .i64 S.samples]
def Conv.val (C : Conv) : Value := .agg C.cells
def Sen.val (S : Sen) : Value := .agg S.cells
def Sen.raw (S : Sen) (i : Nat) : Nat := [S.r0, S.r1, S.r2, S.r3, S.r4, S.r5].getD i 0

/-- The number of a raw reading. -/
def numI (sgn : Bool) (r : Nat) : Int := if sgn = true ∧ 128 ≤ r then (r : Int) - 256 else r
theorem numI_bd {sgn : Bool} {r : Nat} (h : r < 256) : -128 ≤ numI sgn r ∧ numI sgn r ≤ 255 := by unfold numI; split <;> omega
def Sen.num (S : Sen) (i : Nat) : Int := numI S.conv.sgn (S.raw i)
def ptB (sgn : Bool) (P : List Pt) (i : Nat) : Bool :=
  decide (-1000000000000 ≤ (P.getD i default).val ∧ (P.getD i default).val ≤ 1000000000000) && (decide (i = 0) || decide (numI sgn (P.getD (i - 1) default).raw < numI sgn (P.getD i default).raw))
def tableB (sgn : Bool) (P : List Pt) : Bool := decide (2 ≤ P.length ∧ P.length ≤ 12) && (List.range P.length).all (ptB sgn P)
def facB (n : Int) : Bool := decide (-512 ≤ n ∧ n ≤ 511)
def powB (n : Int) : Bool := decide (-3 ≤ n ∧ n ≤ 3)
def convB (C : Conv) (P : List Pt) : Bool :=
  if 1 ≤ C.form ∧ C.form ≤ 4 then facB C.m && facB C.b && powB C.k1 && powB C.k2 && decide (P.length = 0)
  else decide (C.form = 5 ∧ C.m = 0 ∧ C.b = 0 ∧ C.k1 = 0 ∧ C.k2 = 0) && tableB C.sgn P
def charB (c : UInt8) : Bool := decide (32 ≤ c.toNat ∧ c.toNat ≤ 126)
def nameB (s : ByteArray) : Bool := decide (1 ≤ s.size ∧ s.size ≤ 16) && s.data.toList.all charB
def zeroRaw (S : Sen) : Bool := (List.range 6).all fun i => S.mask.testBit i || decide (S.raw i = 0)
def analogB (S : Sen) (P : List Pt) : Bool :=
  convB S.conv P && decide (S.mask < 64) && decide (S.states = 0) && decide ((S.asrt ||| S.deas) &&& (65535 - S.mask) = 0) && zeroRaw S && ordB S.mask S.num
def discB (S : Sen) (P : List Pt) : Bool :=
  decide (S.conv.form = 0 ∧ S.conv.sgn = false ∧ S.conv.m = 0 ∧ S.conv.b = 0 ∧ S.conv.k1 = 0 ∧ S.conv.k2 = 0 ∧ P.length = 0)
    && decide (S.mask = 0 ∧ S.r0 = 0 ∧ S.r1 = 0 ∧ S.r2 = 0 ∧ S.r3 = 0 ∧ S.r4 = 0 ∧ S.r5 = 0 ∧ S.hl = 0 ∧ S.hu = 0)
    && decide (S.samples = 1 ∧ S.states ≤ 32767) && decide ((S.asrt ||| S.deas) &&& (65535 - S.states) = 0)
def validB (S : Sen) (P : List Pt) : Bool :=
  nameB S.name && decide (S.samples = 1 ∨ S.samples = 3 ∨ S.samples = 5) && if S.disc then discB S P else analogB S P

/-- The slice v reads as the points P. -/
def RdPts (w : World) (v : Value) (P : List Pt) : Prop :=
  ∃ ad cap, v = .slice ad P.length cap ∧ P.length ≤ cap ∧ cap ≤ maxLen ∧ ∀ i, i < P.length → ∃ b off, ad = some ⟨b, off, none⟩ ∧
    w.cell? ⟨b, off + i * 2, none⟩ = some (.int .u8 (P.getD i default).raw) ∧ w.cell? ⟨b, off + i * 2 + 1, none⟩ = some (.int .i64 (P.getD i default).val)
theorem RdPts.nil (w : World) : RdPts w (.slice none 0 0) [] := ⟨none, 0, rfl, Nat.le_refl _, Nat.zero_le _, fun i hi => by simp at hi⟩
theorem RdPts.len {w : World} {v : Value} {P : List Pt} (h : RdPts w v P) : ∃ ad cap, v = .slice ad P.length cap := by
  obtain ⟨ad, cap, rfl, _⟩ := h; exact ⟨ad, cap, rfl⟩
theorem RdPts.mods {S : List Nat} {w w' : World} {v : Value} {P : List Pt} (h : RdPts w v P) (hm : Mods S w w') (hn : P ≠ [] → ∀ k, v.ownBlock = some k → k ∉ S) : RdPts w' v P := by
  obtain ⟨ad, cap, rfl, h1, h2, hc⟩ := h
  refine ⟨ad, cap, rfl, h1, h2, fun i hi => ?_⟩
  obtain ⟨b, off, rfl, hb, hb2⟩ := hc i hi
  have hk := hn (by rintro rfl; simp at hi) b rfl
  exact ⟨b, off, rfl, hm.cell hb hk, hm.cell hb2 hk⟩
theorem RdPts.mods0 {w w' : World} {v : Value} {P : List Pt} (h : RdPts w v P) (hm : Mods [] w w') : RdPts w' v P := h.mods hm fun _ _ _ => by simp
theorem RdPts.block_lt {w : World} {v : Value} {P : List Pt} (h : RdPts w v P) (hl : P ≠ []) : ∀ k, v.ownBlock = some k → k < w.heap.size := by
  obtain ⟨ad, cap, rfl, _, _, hc⟩ := h
  intro k hk
  obtain ⟨b, off, rfl, hb, _⟩ := hc 0 (List.length_pos_iff.2 hl)
  simp [Value.ownBlock] at hk
  subst hk
  exact World.block_lt_of_cell? w _ hb
/-- What is asked of points: bytes, and numbers of 64 bits. -/
structure PtsOk (P : List Pt) : Prop where
  len : P.length ≤ 1000
  raw : ∀ i, (P.getD i default).raw < 256
  val : ∀ i, I64 (P.getD i default).val
/-- A conversion in a world, its numbers in their ranges. -/
structure IsConv (w : World) (C : Conv) (P : List Pt) : Prop where
  rd : RdPts w C.pts P
  pok : PtsOk P
  form : I64 C.form
  m : I64 C.m
  b : I64 C.b
  k1 : I64 C.k1
  k2 : I64 C.k2
theorem IsConv.mods0 {w w' : World} {C : Conv} {P : List Pt} (h : IsConv w C P) (hm : Mods [] w w') : IsConv w' C P := ⟨h.rd.mods0 hm, h.pok, h.form, h.m, h.b, h.k1, h.k2⟩
theorem IsConv.mods {S : List Nat} {w w' : World} {C : Conv} {P : List Pt} (h : IsConv w C P) (hm : Mods S w w') (hn : P ≠ [] → ∀ k, C.pts.ownBlock = some k → k ∉ S) : IsConv w' C P := ⟨h.rd.mods hm hn, h.pok, h.form, h.m, h.b, h.k1, h.k2⟩
/-- A sensor record in a world, its numbers in their ranges. -/
structure IsSen (w : World) (S : Sen) (P : List Pt) : Prop where
  conv : IsConv w S.conv P
  number : S.number < 256
  type : S.type < 256
  unit : S.unit < 256
  name : S.name.size ≤ 1000
  eid : S.eid < 256
  einst : S.einst < 256
  mask : S.mask < 256
  raw : ∀ i, S.raw i < 256
  hl : S.hl < 256
  hu : S.hu < 256
  states : S.states < 65536
  asrt : S.asrt < 65536
  deas : S.deas < 65536
  samples : I64 S.samples
theorem IsSen.mods {T : List Nat} {w w' : World} {S : Sen} {P : List Pt} (h : IsSen w S P) (hm : Mods T w w') (hn : P ≠ [] → ∀ k, S.conv.pts.ownBlock = some k → k ∉ T) : IsSen w' S P :=
  { h with conv := h.conv.mods hm hn }
theorem IsSen.mods0 {w w' : World} {S : Sen} {P : List Pt} (h : IsSen w S P) (hm : Mods [] w w') : IsSen w' S P := h.mods hm fun _ _ _ => by simp
end Go.Proofs.YtijjkonephjodaaGreatDoor

namespace Go.Proofs.YtijjkonephjodaaGreatDoor
open Go.RowKit

/-- Dice at block b over the numbers L, at place n. -/
structure IsDice (w : World) (b : Nat) (v : Value) (L : List Int) (n : Nat) : Prop where
  hb : ∃ T, w.heap[b]? = some (.cells #[v, .int .i64 n] T (0, 0))
  rd : Rd w v (i64s L)
  ne : L ≠ [] → ∀ k, v.ownBlock = some k → k ≠ b
  len : L.length ≤ 1000000
  bnd : ∀ i, I64 (L.getD i 0)
  le : n ≤ L.length

section
variable {w w' : World} {b n : Nat} {v : Value} {L : List Int}
theorem IsDice.c0 (h : IsDice w b v L n) : w.cell? ⟨b, 0, none⟩ = some v := by obtain ⟨T, h⟩ := h.hb; rw [cell_blk h]; rfl
theorem IsDice.c1 (h : IsDice w b v L n) : w.cell? ⟨b, 1, none⟩ = some (.int .i64 n) := by obtain ⟨T, h⟩ := h.hb; rw [cell_blk h]; rfl
theorem IsDice.fb (h : IsDice w b v L n) : ∀ i, w.frozen? ⟨b, i, none⟩ = false := by obtain ⟨T, h⟩ := h.hb; exact froz_blk h
theorem IsDice.lt (h : IsDice w b v L n) : b < w.heap.size := by obtain ⟨T, h⟩ := h.hb; exact lt_of_block h
theorem IsDice.mods {S : List Nat} (h : IsDice w b v L n) (hm : Mods S w w') (hn : b ∉ S) (hv : L ≠ [] → ∀ k, v.ownBlock = some k → k ∉ S) : IsDice w' b v L n := by
  obtain ⟨T, hb⟩ := h.hb
  exact ⟨⟨T, hm.heap hb hn⟩, h.rd.mods hm (fun hl => hv (fun e => hl (by rw [e]; rfl))), h.ne, h.len, h.bnd, h.le⟩
theorem IsDice.mods0 (h : IsDice w b v L n) (hm : Mods [] w w') : IsDice w' b v L n := h.mods hm (by simp) fun _ _ _ => by simp
theorem IsDice.set1 (h : IsDice w b v L n) {k : Nat} (hk : k ≤ L.length) : IsDice (w.setCell ⟨b, 1, none⟩ (.int .i64 k)) b v L k := by
  obtain ⟨T, hb⟩ := h.hb
  refine ⟨⟨T, by rw [heap_setCell hb]; rfl⟩, h.rd.mods (S := [b]) (Mods.refl.setCell (.inl (by simp)) _) (fun hl j hj => by simpa using h.ne (fun e => hl (by rw [e]; rfl)) j hj), h.ne, h.len, h.bnd, hk⟩
end

/-- A number of the dice from 0 to m - 1; the dice go on. -/
def Rolled (w : World) (b : Nat) (v : Value) (L : List Int) (m : Int) (e : Ending) (w' : World) : Prop :=
  ∃ (r : Int) (n : Nat), e = .returned (.int .i64 r) ∧ 0 ≤ r ∧ r < m ∧ IsDice w' b v L n ∧ Mods [b] w w'

set_option maxHeartbeats 400000 in
theorem next_ok (w : World) (b : Nat) (v : Value) (L : List Int) (n : Nat) (h : IsDice w b v L n) (m : Int) (hm : 0 < m) (hm2 : m ≤ 4611686018427387904) :
    Calls Tryz.prog 24 #[.pointer (some ⟨b, 0, none⟩), .int .i64 m] w fun e w' => Rolled w b v L m e w' := by
  have h0 := h.c0
  have h1 := h.c1
  have hf := h.fb
  have hle := h.le
  have hlen := h.len
  obtain ⟨ad, cap, rfl, hcap, hcap2, hcs⟩ := h.rd.i64
  have H := Lib.hid h
  by_cases hlt : n < L.length
  · obtain ⟨b', off, rfl, hc⟩ := hcs n hlt
    clear hcs
    have hne := h.ne (by rintro rfl; simp at hlt) b' rfl
    have hbn := h.bnd n
    generalize L.getD n 0 = x at hc hbn
    have hd : decide ((L.length : Int) ≤ (n : Int)) = false := by simp; omega
    have M := Lib.hid (Mods.refl (S := [b]) (w := w)).drew
    clear h hcap2
    go_enter Tryz.func24, Tryz.ntmps24
    go_wp2_with fail
    go_quiet (fail)
    have I1 : IsDice ((w.drewN nq).setCell ⟨b, 1, none⟩ (.int .i64 ((n : Int) + 1))) b (.slice (some ⟨b', off, none⟩) L.length cap) L (n + 1) := (H.out.mods0 (Mods.refl.drewN nq)).set1 (k := n + 1) (by omega)
    have M1 : Mods [b] w ((w.drewN nq).setCell ⟨b, 1, none⟩ (.int .i64 ((n : Int) + 1))) := (Mods.refl.drewN nq).setCell (.inl (by simp)) _
    have C1 := M1.cell hc (by simpa using hne)
    go_wp2_with fail
    generalize ((w.drewN nq).setCell ⟨b, 1, none⟩ (.int .i64 ((n : Int) + 1))) = w1 at I1 M1 C1 ⊢
    clear h0 h1 hf hc
    have h0 := I1.c0
    have h1 := I1.c1
    have J := Lib.hid I1
    have MM := Lib.hid M1
    clear I1 M1
    have hws : IntKind.i64.wrap (n : Int) = n := IntWalk.i64_in _ (by omega)
    have hz : (0 : Int) ≤ (n : Int) := by omega
    have hz2 : (n : Int) < (L.length : Int) := by omega
    go_quiet ((go_at_call 18; exact Calls.quiet_of_same ((mod_ok _ _ _ hbn hm hm2).mono fun _ _ ⟨h1, h2⟩ => ⟨h1, h2.symm⟩)))
    clear hws
    go_wp2
    go_ret
    exact ⟨x % m, n + 1, rfl, Int.emod_nonneg _ (by omega), Int.emod_lt_of_pos _ hm, J.out.mods0 (Mods.refl.drewN _), MM.out.drewN _⟩
  · have hd : decide ((L.length : Int) ≤ (n : Int)) = true := by simp; omega
    clear hcs
    go_enter Tryz.func24, Tryz.ntmps24
    go_wp2_with fail
    go_quiet (fail)
    go_wp2
    go_ret
    exact ⟨0, n, rfl, by omega, hm, H.out.mods0 (Mods.refl.drewN nq), Mods.refl.drewN nq⟩

set_option maxHeartbeats 400000 in
theorem roll_ok (w : World) (v : Value) (L : List Int) (hv : Rd w v (i64s L)) (hl : L.length ≤ 1000000) (hb : ∀ i, I64 (L.getD i 0)) :
    Calls Tryz.prog 12 #[v] w fun e w' => e = .returned (.pointer (some ⟨w.heap.size, 0, none⟩)) ∧ IsDice w' w.heap.size v L 0 ∧ Mods [] w w' ∧ w.heap.size < w'.heap.size := by
  obtain ⟨ad, cap, rfl⟩ := hv.len
  have H := Lib.hid (show IsDice (w.alloc (.cells #[.slice ad (i64s L).length cap, .int .i64 ((0 : Nat) : Int)] 105)) w.heap.size (.slice ad (i64s L).length cap) L 0 from
    ⟨⟨_, heap_alloc_new _ _⟩, hv.mods0 (Mods.refl.alloc _), fun hl k hk => by have := hv.block_lt (fun e => hl (List.eq_nil_of_length_eq_zero (by rw [← i64s_length, e]; rfl))) k hk; omega, hl, hb, Nat.zero_le _⟩)
  clear hv hb
  go_enter Tryz.func12, Tryz.ntmps12
  go_wp2
  go_ret
  exact ⟨rfl, H.out, Mods.refl.alloc _, by simp⟩

/-- A bool of the dice. -/
def RolledB (w : World) (b : Nat) (v : Value) (L : List Int) (e : Ending) (w' : World) : Prop :=
  ∃ (r : Bool) (n : Nat), e = .returned (.bool r) ∧ IsDice w' b v L n ∧ Mods [b] w w'
set_option maxHeartbeats 400000 in
theorem bool_ok (w : World) (b : Nat) (v : Value) (L : List Int) (n : Nat) (h : IsDice w b v L n) (m : Int) (hm : 0 < m) (hm2 : m ≤ 4611686018427387904) :
    Calls Tryz.prog 29 #[.pointer (some ⟨b, 0, none⟩), .int .i64 m] w fun e w' => RolledB w b v L e w' := by
  have H := Lib.hid h
  clear h
  go_enter Tryz.func29, Tryz.ntmps29
  go_wp2_with fail
  refine (next_ok w b v L n H.out m hm hm2).mono ?_
  rintro e w' ⟨r, n', rfl, h1, h2, h3, h4⟩
  go_wp2
  go_ret
  exact ⟨_, n', rfl, h3, h4⟩
/-- A byte of the dice. -/
def RolledBy (w : World) (b : Nat) (v : Value) (L : List Int) (e : Ending) (w' : World) : Prop :=
  ∃ (r : Int) (n : Nat), e = .returned (.int .u8 r) ∧ 0 ≤ r ∧ r ≤ 255 ∧ IsDice w' b v L n ∧ Mods [b] w w'
def limitsL : List Int := [0, 1, 127, 128, 254, 255, 15, 240]
theorem limit_byte (k : Nat) : 0 ≤ limitsL.getD k 0 ∧ limitsL.getD k 0 ≤ 255 := by
  rcases Nat.lt_or_ge k 8 with h | h
  · match k, h with
    | 0, _ | 1, _ | 2, _ | 3, _ | 4, _ | 5, _ | 6, _ | 7, _ => simp [limitsL]
  · simp [limitsL, List.getD_eq_getElem?_getD, List.getElem?_eq_none (show [(0 : Int), 1, 127, 128, 254, 255, 15, 240].length ≤ k by simpa using h)]
theorem limits_cell {w : World} {T : TypeId} {k : Nat} (hk : k < 8) : (w.alloc (.cells #[.int .u8 0, .int .u8 1, .int .u8 127, .int .u8 128, .int .u8 254, .int .u8 255, .int .u8 15, .int .u8 240] T)).cell? ⟨w.heap.size, k, none⟩ = some (.int .u8 (limitsL.getD k 0)) := by
  rw [World.cell?_alloc_at _ _ _ _ rfl]
  match k, hk with
  | 0, _ | 1, _ | 2, _ | 3, _ | 4, _ | 5, _ | 6, _ | 7, _ => rfl
set_option maxHeartbeats 1000000 in
theorem byte_ok (w : World) (b : Nat) (v : Value) (L : List Int) (n : Nat) (h : IsDice w b v L n) :
    Calls Tryz.prog 55 #[.pointer (some ⟨b, 0, none⟩)] w fun e w' => RolledBy w b v L e w' := by
  have hbl := h.lt
  have H := Lib.hid h
  clear h
  go_enter Tryz.func55, Tryz.ntmps55
  go_wp2_with fail
  have HL := Lib.hid (fun (k : Nat) (hk : k < 8) => limits_cell (w := w) (T := 163) hk)
  refine (bool_ok _ b v L n (H.out.mods0 (Mods.refl.alloc _)) 3 (by omega) (by omega)).mono ?_
  have M1 := (Mods.refl (S := [b]) (w := w)).alloc (.cells #[.int .u8 0, .int .u8 1, .int .u8 127, .int .u8 128, .int .u8 254, .int .u8 255, .int .u8 15, .int .u8 240] 163)
  rintro e w2 ⟨r, n2, rfl, J2, M2⟩
  cases r with
  | false =>
    have M3 := M1.trans M2
    clear M1 M2
    go_wp2_with fail
    refine (next_ok w2 b v L n2 J2 256 (by omega) (by omega)).mono ?_
    rintro e w3 ⟨r, n3, rfl, h1, h2, J3, M4⟩
    go_wp2
    go_ret
    exact ⟨r, n3, rfl, h1, by omega, J3, M3.trans M4⟩
  | true =>
    have M3 := M1.trans M2
    have HL2 := Lib.hid (fun (k : Nat) (hk : k < 8) => M2.cell (HL.out k hk) (by simp; omega))
    clear M1 M2
    go_wp2_with fail
    refine (next_ok w2 b v L n2 J2 8 (by omega) (by omega)).mono ?_
    rintro e w3 ⟨r, n3, rfl, h1, h2, J3, M4⟩
    obtain ⟨k, rfl⟩ := Int.eq_ofNat_of_zero_le h1
    have hk : k < 8 := by omega
    have hc := M4.cell (HL2.out k hk) (by simp; omega)
    have hb := limit_byte k
    generalize limitsL.getD k 0 = x at hc hb
    go_wp2
    go_ret
    exact ⟨x, n3, rfl, hb.1, hb.2, J3, M3.trans M4⟩

set_option maxHeartbeats 400000 in
theorem light_ok (w : World) (v : Value) (L : List Int) (hv : Rd w v (i64s L)) :
    Calls Tryz.prog 10 #[v] w fun e w' => e = .returned (.bool (decide (L.length ≤ 600))) ∧ w = w' := by
  obtain ⟨ad, cap, rfl⟩ := hv.len
  rw [i64s_length]
  clear hv
  go_enter Tryz.func10, Tryz.ntmps10
  go_wp2
  go_ret
  exact ⟨ret_bool (by simp; omega), rfl⟩

end Go.Proofs.YtijjkonephjodaaGreatDoor

namespace Go.Proofs.YtijjkonephjodaaGreatDoor
open Go.RowKit

theorem number_ok (sgn : Bool) (r : Nat) (hr : r < 256) (w : World) :
    Calls Tryz.prog 95 #[.bool sgn, .int .u8 r] w fun e w' => e = .returned (.int .i64 (numI sgn r)) ∧ w = w' := by
  have HN := Lib.hid (show numI true r = IntKind.i8.wrap (r : Int) by
    have e : IntKind.i8.wrap (r : Int) = if 128 ≤ (r : Int) % 256 then (r : Int) % 256 - 256 else (r : Int) % 256 := by simp [IntKind.wrap, IntKind.bits, IntKind.signed]
    rw [e]; simp only [numI]
    split <;> split <;> simp_all <;> omega)
  have HW := Lib.hid (show wrap64 (IntKind.i8.wrap (r : Int)) = IntKind.i8.wrap (r : Int) by
    have e : IntKind.i8.wrap (r : Int) = if 128 ≤ (r : Int) % 256 then (r : Int) % 256 - 256 else (r : Int) % 256 := by simp [IntKind.wrap, IntKind.bits, IntKind.signed]
    exact IntWalk.wrap64_in _ ⟨by rw [e]; split <;> omega, by rw [e]; split <;> omega⟩)
  have HF := Lib.hid (show numI false r = (r : Int) by simp [numI])
  cases sgn with
  | true =>
    go_enter Tryz.func95, Tryz.ntmps95
    go_wp2
    go_ret
    exact ⟨ret_int (by rw [HN.out, HW.out]), rfl⟩
  | false =>
    go_enter Tryz.func95, Tryz.ntmps95
    go_wp2
    go_ret
    exact ⟨ret_int (by rw [HF.out]), rfl⟩
set_option maxRecDepth 100000 in
theorem refNumber_ok (sgn : Bool) (r : Nat) (hr : r < 256) (w : World) :
    Calls Tryz.prog 140 #[.bool sgn, .int .u8 r] w fun e w' => e = .returned (.int .i64 (numI sgn r)) ∧ w = w' := by
  have HF := Lib.hid (show numI false r = (r : Int) by simp [numI])
  cases sgn with
  | true =>
    by_cases h : 128 ≤ r
    · have HN := Lib.hid (show numI true r = (r : Int) - 256 by simp [numI, h])
      go_enter Tryz.func140, Tryz.ntmps140
      go_wp2
      go_ret
      exact ⟨ret_int (by rw [HN.out]), rfl⟩
    · have HN := Lib.hid (show numI true r = (r : Int) by simp [numI, h])
      go_enter Tryz.func140, Tryz.ntmps140
      go_wp2
      go_ret
      exact ⟨ret_int (by rw [HN.out]), rfl⟩
  | false =>
    go_enter Tryz.func140, Tryz.ntmps140
    go_wp2
    go_ret
    exact ⟨ret_int (by rw [HF.out]), rfl⟩
theorem factor_ok (n : Int) (w : World) :
    Calls Tryz.prog 158 #[.int .i64 n] w fun e w' => e = .returned (.bool (facB n)) ∧ w = w' := by
  go_enter Tryz.func158, Tryz.ntmps158
  go_wp2
  all_goals
    go_ret
    exact ⟨ret_bool (by simp [facB]; omega), rfl⟩
theorem power_ok (n : Int) (w : World) :
    Calls Tryz.prog 159 #[.int .i64 n] w fun e w' => e = .returned (.bool (powB n)) ∧ w = w' := by
  go_enter Tryz.func159, Tryz.ntmps159
  go_wp2
  all_goals
    go_ret
    exact ⟨ret_bool (by simp [powB]; omega), rfl⟩
def clampI (v : Int) : Int := max (-1000000000000) (min v 1000000000000)
theorem clamp_ok (v : Int) (w : World) :
    Calls Tryz.prog 181 #[.int .i64 v] w fun e w' => e = .returned (.int .i64 (clampI v)) ∧ w = w' := by
  go_enter Tryz.func181, Tryz.ntmps181
  go_wp2
  all_goals
    go_ret
    exact ⟨ret_int (by unfold clampI; omega), rfl⟩
end Go.Proofs.YtijjkonephjodaaGreatDoor

namespace Go.Proofs.YtijjkonephjodaaGreatDoor
open Go.RowKit

theorem clamp_same {v : Int} : (clampI v != v) = !decide (-1000000000000 ≤ v ∧ v ≤ 1000000000000) := by
  unfold clampI
  rw [Bool.eq_iff_iff]
  simp
  omega
theorem tableB_false {sgn : Bool} {P : List Pt} {k : Nat} (hk : k < P.length) (h : ptB sgn P k = false) : tableB sgn P = false := by
  cases ht : tableB sgn P with
  | false => rfl
  | true =>
    simp only [tableB, Bool.and_eq_true, List.all_eq_true] at ht
    rw [ht.2 k (List.mem_range.2 hk)] at h
    cases h
set_option maxRecDepth 100000 in
set_option maxHeartbeats 2000000 in
theorem table_ok (w : World) (C : Conv) (P : List Pt) (h : IsConv w C P) :
    Calls Tryz.prog 160 #[.agg C.cells] w fun e w' => e = .returned (.bool (tableB C.sgn P)) ∧ Mods [] w w' := by
  obtain ⟨rd, pok, _, _, _, _, _⟩ := h
  obtain ⟨form, sgn, m, b, k1, k2, pts⟩ := C
  simp only at rd
  have RD := Lib.hid rd
  obtain ⟨ad, cap, rfl, hc1, hc2, _⟩ := rd
  have hc3 : cap ≤ 9223372036854775807 := hc2
  have hb := pok.len
  have PO := Lib.hid pok
  clear pok hc2
  unfold Conv.cells
  simp only
  by_cases hl : 2 ≤ P.length ∧ P.length ≤ 12
  · obtain ⟨hl1, hl2⟩ := hl
    have e1 : decide ((P.length : Int) < 2) = false := by simp; omega
    have e2 : decide ((12 : Int) < (P.length : Int)) = false := by simp; omega
    go_enter Tryz.func160, Tryz.ntmps160
    go_wp2_with fail
    have H0 := heap_alloc_new w (.cells #[.int .i64 form, .bool sgn, .int .i64 m, .int .i64 b, .int .i64 k1, .int .i64 k2, .slice ad P.length cap] 34)
    have M0 := (Mods.refl (S := []) (w := w)).alloc (.cells #[.int .i64 form, .bool sgn, .int .i64 m, .int .i64 b, .int .i64 k1, .int .i64 k2, .slice ad P.length cap] 34)
    generalize w.alloc (.cells #[.int .i64 form, .bool sgn, .int .i64 m, .int .i64 b, .int .i64 k1, .int .i64 k2, .slice ad P.length cap] 34) = w1 at H0 M0 ⊢
    generalize w.heap.size = g at H0 ⊢
    go_loopw [18] (fun i wr => ∃ k : Nat, k ≤ P.length ∧ i = .int .i64 k ∧ Mods [] w wr ∧ wr.heap[g]? = some (.cells #[.int .i64 form, .bool sgn, .int .i64 m, .int .i64 b, .int .i64 k1, .int .i64 k2, .slice ad P.length cap] 34 (0, 0)) ∧ Hid (∀ j, j < k → ptB sgn P j = true)) (fun i _ => P.length - (intOf i).toNat)
    case atStart => exact ⟨0, Nat.zero_le _, rfl, M0, H0, fun j hj => by omega⟩
    case round =>
      obtain ⟨k, hk, rfl, M1, H1, hs⟩ := hrel
      clear M0 H0
      by_cases hlt : k < P.length
      · obtain ⟨_, _, he, _, _, hc⟩ := RD.out.mods0 M1
        obtain ⟨bb, off, rfl, x0, x1⟩ := hc k hlt
        injection he with he1 he2 he3
        subst he1 he3
        clear hc he2
        have HR := PO.out.raw k
        obtain ⟨p, hp⟩ : ∃ p, p = P.getD k default := ⟨_, rfl⟩
        rw [← hp] at x0 x1 HR
        have HP := Lib.hid hp
        clear hp
        obtain ⟨raw, val⟩ := p
        simp only at x0 x1 HR
        have i1 : (0 : Int) ≤ (k : Int) := by omega
        have i2 : (k : Int) < (P.length : Int) := by omega
        go_wp2_with fail
        have H2 := heap_alloc_new wr (.cells #[.int .u8 raw, .int .i64 val] 117)
        have M2 := (Mods.refl (S := []) (w := wr)).alloc (.cells #[.int .u8 raw, .int .i64 val] 117)
        generalize wr.alloc (.cells #[.int .u8 raw, .int .i64 val] 117) = w2 at H2 M2 ⊢
        generalize wr.heap.size = g2 at H2 ⊢
        have H1 := M2.heap H1 (by simp)
        have y0 : w2.cell? ⟨g2, 0, none⟩ = some (.int .u8 raw) := cell_blk H2 0
        have y1 : w2.cell? ⟨g2, 1, none⟩ = some (.int .i64 val) := cell_blk H2 1
        have z1 : w2.cell? ⟨g, 1, none⟩ = some (.bool sgn) := cell_blk H1 1
        have z6 : w2.cell? ⟨g, 6, none⟩ = some (.slice (some ⟨bb, off, none⟩) P.length cap) := cell_blk H1 6
        have MM := Lib.hid (M1.trans M2)
        have HH := Lib.hid H1
        clear x0 x1 M1 M2 H1 H2
        have hcl := clamp_same (v := val)
        by_cases hv : -1000000000000 ≤ val ∧ val ≤ 1000000000000
        · rw [decide_eq_true hv, Bool.not_true] at hcl
          have HV := Lib.hid hv
          clear hv
          by_cases h0 : k = 0
          · have e3 : decide ((0 : Int) < (k : Int)) = false := by simp; omega
            have HQ := Lib.hid (show ptB sgn P k = true by simp only [ptB, ← HP.out]; simp [HV.out, h0])
            have e4 : decide (0 < k) = false := by simp; omega
            clear h0
            go_quiet ((go_at_call 181; exact quiet_left (clamp_ok _ _)))
            go_wp2
            go_roundw
            case rel => exact ⟨k + 1, by omega, by go_num, MM.out.drewN _, HH.out, fun j hj => by
              rcases Nat.lt_or_ge j k with h | h
              · exact hs.out j h
              · obtain rfl : j = k := by omega
                exact HQ.out⟩
            case measure => simp [intOf]; omega
          · have e3 : decide ((0 : Int) < (k : Int)) = true := by simp; omega
            have e4 : decide (0 < k) = true := by simp; omega
            obtain ⟨_, _, he, _, _, hc⟩ := RD.out.mods0 MM.out
            obtain ⟨_, _, hz, u0, _⟩ := hc (k - 1) (by omega)
            injection he with he1 he2 he3
            subst he1
            injection hz with hz1
            injection hz1 with hz2 hz3
            subst hz2 hz3
            clear hc he2 he3
            have HR2 := PO.out.raw (k - 1)
            obtain ⟨q, hq⟩ : ∃ q, q = P.getD (k - 1) default := ⟨_, rfl⟩
            rw [← hq] at u0 HR2
            have HQ2 := Lib.hid hq
            clear hq
            obtain ⟨raw2, val2⟩ := q
            simp only at u0 HR2
            have j1 : IntKind.i64.wrap ((k : Int) - 1) = (k : Int) - 1 := IntWalk.i64_in _ (by omega)
            have j2 : (0 : Int) ≤ (k : Int) - 1 := by omega
            have j3 : (k : Int) - 1 < (P.length : Int) := by omega
            have j4 : ((k : Int) - 1).toNat = k - 1 := by omega
            by_cases hlt2 : numI sgn raw2 < numI sgn raw
            · have e5 : decide (numI sgn raw ≤ numI sgn raw2) = false := by simp; omega
              have HQ := Lib.hid (show ptB sgn P k = true by simp only [ptB, ← HP.out, ← HQ2.out]; simp [HV.out, hlt2])
              clear h0 hlt2
              go_quiet ((first
                | (go_at_call 181; exact quiet_left (clamp_ok _ _))
                | (go_at_call 95; exact quiet_left (number_ok _ _ (by assumption) _))))
              clear j1 j2 j3 j4
              go_wp2
              go_roundw
              case rel => exact ⟨k + 1, by omega, by go_num, MM.out.drewN _, HH.out, fun j hj => by
                rcases Nat.lt_or_ge j k with h | h
                · exact hs.out j h
                · obtain rfl : j = k := by omega
                  exact HQ.out⟩
              case measure => simp [intOf]; omega
            · have e5 : decide (numI sgn raw ≤ numI sgn raw2) = true := by simp; omega
              have HQ := Lib.hid (show ptB sgn P k = false by simp only [ptB, ← HP.out, ← HQ2.out]; simp [hlt2, h0])
              have HF := Lib.hid (tableB_false hlt HQ.out)
              clear h0 hlt2
              go_quiet ((first
                | (go_at_call 181; exact quiet_left (clamp_ok _ _))
                | (go_at_call 95; exact quiet_left (number_ok _ _ (by assumption) _))))
              clear j1 j2 j3 j4
              go_wp2
              go_ret
              exact ⟨ret_bool (by rw [HF.out]), MM.out.drewN _⟩
        · rw [decide_eq_false hv, Bool.not_false] at hcl
          have HQ := Lib.hid (show ptB sgn P k = false by simp only [ptB, ← HP.out]; simp only [decide_eq_false hv, Bool.false_and])
          have HF := Lib.hid (tableB_false hlt HQ.out)
          clear hv
          go_quiet ((go_at_call 181; exact quiet_left (clamp_ok _ _)))
          go_wp2
          go_ret
          exact ⟨ret_bool (by rw [HF.out]), MM.out.drewN _⟩
      · have HF := Lib.hid (show tableB sgn P = true by
          simp only [tableB, Bool.and_eq_true, decide_eq_true_eq, List.all_eq_true]
          exact ⟨⟨hl1, hl2⟩, fun j hj => hs.out j (by have := List.mem_range.1 hj; omega)⟩)
        go_wp2
        go_ret
        exact ⟨ret_bool (by rw [HF.out]), M1⟩
  · have HF := Lib.hid (show tableB sgn P = false by simp only [tableB, decide_eq_false hl, Bool.false_and])
    by_cases hl1 : P.length < 2
    · have e1 : decide ((P.length : Int) < 2) = true := by simp; omega
      go_enter Tryz.func160, Tryz.ntmps160
      go_wp2_with fail
      go_ret
      exact ⟨ret_bool (by rw [HF.out]), Mods.refl.alloc _⟩
    · have e1 : decide ((P.length : Int) < 2) = false := by simp; omega
      have e2 : decide ((12 : Int) < (P.length : Int)) = true := by simp; omega
      go_enter Tryz.func160, Tryz.ntmps160
      go_wp2_with fail
      go_ret
      exact ⟨ret_bool (by rw [HF.out]), Mods.refl.alloc _⟩
end Go.Proofs.YtijjkonephjodaaGreatDoor

namespace Go.Proofs.YtijjkonephjodaaGreatDoor
open Go.RowKit

theorem len0 (n : Nat) : ((n : Int) == 0) = decide (n = 0) := by rw [Bool.eq_iff_iff]; simp
set_option maxRecDepth 100000 in
set_option maxHeartbeats 4000000 in
theorem convValid_ok (w : World) (C : Conv) (P : List Pt) (h : IsConv w C P) :
    Calls Tryz.prog 145 #[.agg C.cells] w fun e w' => e = .returned (.bool (convB C P)) ∧ Mods [] w w' := by
  have H := Lib.hid h
  have hb := h.pok.len
  obtain ⟨ad, cap, hpts⟩ := h.rd.len
  clear h
  have ML := Lib.hid (fun o => (Mods.refl (S := []) (w := w)).alloc o)
  by_cases hlin : 1 ≤ C.form ∧ C.form ≤ 4
  · have HB := Lib.hid (show convB C P = (facB C.m && facB C.b && powB C.k1 && powB C.k2 && decide (P.length = 0)) by rw [convB, if_pos hlin])
    obtain ⟨form, sgn, m, b, k1, k2, pts⟩ := C
    simp only at hlin hpts
    subst hpts
    unfold Conv.cells
    simp only at HB ⊢
    generalize hfm : facB m = fm at HB
    generalize hfb : facB b = fb at HB
    generalize hf1 : powB k1 = f1 at HB
    generalize hf2 : powB k2 = f2 at HB
    have HM := Lib.hid hfm
    have HBB := Lib.hid hfb
    have H1 := Lib.hid hf1
    have H2 := Lib.hid hf2
    clear hfm hfb hf1 hf2 H
    obtain ⟨hl1, hl2⟩ := hlin
    go_enter Tryz.func145, Tryz.ntmps145
    go_wp2_with fail
    all_goals
      refine (factor_ok m _).mono ?_
      rw [HM.out]
      rintro e w' ⟨rfl, rfl⟩
      cases fm
      · go_wp2_with fail
        go_ret
        exact ⟨ret_bool (by rw [HB.out]; simp), ML.out _⟩
      · go_wp2_with fail
        refine (factor_ok b _).mono ?_
        rw [HBB.out]
        rintro e w' ⟨rfl, rfl⟩
        cases fb
        · go_wp2_with fail
          go_ret
          exact ⟨ret_bool (by rw [HB.out]; simp), ML.out _⟩
        · go_wp2_with fail
          refine (power_ok k1 _).mono ?_
          rw [H1.out]
          rintro e w' ⟨rfl, rfl⟩
          cases f1
          · go_wp2_with fail
            go_ret
            exact ⟨ret_bool (by rw [HB.out]; simp), ML.out _⟩
          · go_wp2_with fail
            refine (power_ok k2 _).mono ?_
            rw [H2.out]
            rintro e w' ⟨rfl, rfl⟩
            cases f2
            · go_wp2_with fail
              go_ret
              exact ⟨ret_bool (by rw [HB.out]; simp), ML.out _⟩
            · go_wp2_with fail
              go_ret
              exact ⟨ret_bool (by rw [HB.out, len0]; simp only [Bool.true_and]), ML.out _⟩
  · have HB := Lib.hid (show convB C P = (decide (C.form = 5 ∧ C.m = 0 ∧ C.b = 0 ∧ C.k1 = 0 ∧ C.k2 = 0) && tableB C.sgn P) by rw [convB, if_neg hlin])
    have HT := Lib.hid (fun W (hm : Mods [] w W) => table_ok W C P (H.out.mods0 hm))
    obtain ⟨form, sgn, m, b, k1, k2, pts⟩ := C
    simp only at hlin hpts
    subst hpts
    unfold Conv.cells at HT ⊢
    simp only at HB HT ⊢
    clear H
    have e1 : (form == 1) = false := by simp; omega
    have e2 : (form == 2) = false := by simp; omega
    have e3 : (form == 3) = false := by simp; omega
    have e4 : (form == 4) = false := by simp; omega
    clear hlin
    by_cases h5 : form = 5
    · have HB := Lib.hid (show convB ⟨form, sgn, m, b, k1, k2, .slice ad P.length cap⟩ P = (decide (m = 0 ∧ b = 0 ∧ k1 = 0 ∧ k2 = 0) && tableB sgn P) by rw [HB.out]; simp [h5])
      have e5 : (form == 5) = true := by simp [h5]
      clear h5
      by_cases hm : m = 0
      · by_cases hbb : b = 0
        · by_cases h1 : k1 = 0
          · by_cases h2 : k2 = 0
            · have HB := Lib.hid (show convB ⟨form, sgn, m, b, k1, k2, .slice ad P.length cap⟩ P = tableB sgn P by rw [HB.out]; simp [hm, hbb, h1, h2])
              have d1 : (m == 0) = true := by simp [hm]
              have d2 : (b == 0) = true := by simp [hbb]
              have d3 : (k1 == 0) = true := by simp [h1]
              have d4 : (k2 == 0) = true := by simp [h2]
              clear hm hbb h1 h2
              go_enter Tryz.func145, Tryz.ntmps145
              go_wp2_with fail
              refine (HT.out _ (ML.out _)).mono ?_
              rintro e w2 ⟨rfl, hm2⟩
              go_wp2_with fail
              go_ret
              exact ⟨ret_bool (by rw [HB.out]), (ML.out _).trans hm2⟩
            · have HB := Lib.hid (show convB ⟨form, sgn, m, b, k1, k2, .slice ad P.length cap⟩ P = false by rw [HB.out]; simp; omega)
              go_enter Tryz.func145, Tryz.ntmps145
              go_wp2_with fail
              go_ret
              exact ⟨ret_bool (by rw [HB.out]), ML.out _⟩
          · have HB := Lib.hid (show convB ⟨form, sgn, m, b, k1, k2, .slice ad P.length cap⟩ P = false by rw [HB.out]; simp; omega)
            go_enter Tryz.func145, Tryz.ntmps145
            go_wp2_with fail
            go_ret
            exact ⟨ret_bool (by rw [HB.out]), ML.out _⟩
        · have HB := Lib.hid (show convB ⟨form, sgn, m, b, k1, k2, .slice ad P.length cap⟩ P = false by rw [HB.out]; simp; omega)
          go_enter Tryz.func145, Tryz.ntmps145
          go_wp2_with fail
          go_ret
          exact ⟨ret_bool (by rw [HB.out]), ML.out _⟩
      · have HB := Lib.hid (show convB ⟨form, sgn, m, b, k1, k2, .slice ad P.length cap⟩ P = false by rw [HB.out]; simp; omega)
        go_enter Tryz.func145, Tryz.ntmps145
        go_wp2_with fail
        go_ret
        exact ⟨ret_bool (by rw [HB.out]), ML.out _⟩
    · have HB := Lib.hid (show convB ⟨form, sgn, m, b, k1, k2, .slice ad P.length cap⟩ P = false by rw [HB.out]; simp; omega)
      go_enter Tryz.func145, Tryz.ntmps145
      go_wp2_with fail
      go_ret
      exact ⟨ret_bool (by rw [HB.out]), ML.out _⟩
end Go.Proofs.YtijjkonephjodaaGreatDoor

namespace Go.Proofs.YtijjkonephjodaaGreatDoor
open Go.RowKit

set_option maxRecDepth 100000 in
set_option maxHeartbeats 4000000 in
theorem refConvLin_ok (w : World) (C : Conv) (P : List Pt) (h : IsConv w C P) (hlin : 1 ≤ C.form ∧ C.form ≤ 4) :
    Calls Tryz.prog 128 #[.agg C.cells] w fun e w' => e = .returned (.bool (convB C P)) ∧ Mods [] w w' := by
  have hb := h.pok.len
  obtain ⟨ad, cap, hpts⟩ := h.rd.len
  clear h
  have ML := Lib.hid (fun o => (Mods.refl (S := []) (w := w)).alloc o)
  have HB := Lib.hid (show convB C P = (facB C.m && facB C.b && powB C.k1 && powB C.k2 && decide (P.length = 0)) by rw [convB, if_pos hlin])
  obtain ⟨form, sgn, m, b, k1, k2, pts⟩ := C
  simp only at hlin hpts
  subst hpts
  unfold Conv.cells
  simp only at HB ⊢
  obtain ⟨hl1, hl2⟩ := hlin
  go_enter Tryz.func128, Tryz.ntmps128
  go_wp2
  all_goals
    go_ret
    exact ⟨ret_bool (by rw [HB.out, Bool.eq_iff_iff]; simp [facB, powB, len0]; omega), ML.out _⟩

theorem refConvB_no {C : Conv} {P : List Pt} (h : ¬ (1 ≤ C.form ∧ C.form ≤ 4)) (h2 : C.form ≠ 5 ∨ C.m ≠ 0 ∨ C.b ≠ 0 ∨ C.k1 ≠ 0 ∨ C.k2 ≠ 0 ∨ P.length < 2 ∨ 12 < P.length) : convB C P = false := by
  rw [convB, if_neg h, tableB]
  cases hd : decide (C.form = 5 ∧ C.m = 0 ∧ C.b = 0 ∧ C.k1 = 0 ∧ C.k2 = 0) with
  | false => rfl
  | true =>
    rw [decide_eq_true_eq] at hd
    rw [decide_eq_false (by omega), Bool.false_and, Bool.and_false]
set_option maxRecDepth 100000 in
set_option maxHeartbeats 4000000 in
theorem refConvNo_ok (w : World) (C : Conv) (P : List Pt) (h : IsConv w C P) (hn : ¬ (1 ≤ C.form ∧ C.form ≤ 4)) (h2 : C.form ≠ 5 ∨ C.m ≠ 0 ∨ C.b ≠ 0 ∨ C.k1 ≠ 0 ∨ C.k2 ≠ 0 ∨ P.length < 2 ∨ 12 < P.length) :
    Calls Tryz.prog 128 #[.agg C.cells] w fun e w' => e = .returned (.bool (convB C P)) ∧ Mods [] w w' := by
  have hb := h.pok.len
  obtain ⟨ad, cap, hpts⟩ := h.rd.len
  have ML := Lib.hid (fun o => (Mods.refl (S := []) (w := w)).alloc o)
  have HB := Lib.hid (refConvB_no (P := P) hn h2)
  clear h
  have hlin : (decide (1 ≤ C.form) = false) ∨ (decide (1 ≤ C.form) = true ∧ decide (C.form ≤ 4) = false) := by
    by_cases h1 : 1 ≤ C.form
    · exact .inr ⟨decide_eq_true h1, decide_eq_false (by omega)⟩
    · exact .inl (decide_eq_false h1)
  clear hn
  obtain ⟨form, sgn, m, b, k1, k2, pts⟩ := C
  simp only at hlin hpts h2
  subst hpts
  unfold Conv.cells
  simp only at HB ⊢
  rcases hlin with e1 | ⟨e1, e2⟩
  all_goals
    rcases Decidable.em (form = 5 ∧ m = 0 ∧ b = 0 ∧ k1 = 0 ∧ k2 = 0 ∧ 2 ≤ P.length) with hx | hx
  all_goals first
    | (obtain ⟨a1, a2, a3, a4, a5, a6⟩ := hx
       have d1 : (form != 5) = false := by simp [a1]
       have d2 : (m != 0) = false := by simp [a2]
       have d3 : (b != 0) = false := by simp [a3]
       have d4 : (k1 != 0) = false := by simp [a4]
       have d5 : (k2 != 0) = false := by simp [a5]
       have d6 : decide ((P.length : Int) < 2) = false := by simp; omega
       have d7 : decide ((12 : Int) < (P.length : Int)) = true := by simp; omega
       clear a1 a2 a3 a4 a5 h2
       go_enter Tryz.func128, Tryz.ntmps128
       go_wp2_with fail
       go_ret
       exact ⟨ret_bool (by rw [HB.out]), ML.out _⟩)
    | skip
  all_goals
    clear h2
    by_cases a1 : form = 5
    · have d1 : (form != 5) = false := by simp [a1]
      by_cases a2 : m = 0
      · have d2 : (m != 0) = false := by simp [a2]
        by_cases a3 : b = 0
        · have d3 : (b != 0) = false := by simp [a3]
          by_cases a4 : k1 = 0
          · have d4 : (k1 != 0) = false := by simp [a4]
            by_cases a5 : k2 = 0
            · have d5 : (k2 != 0) = false := by simp [a5]
              have d6 : decide ((P.length : Int) < 2) = true := by simp; omega
              clear a1 a2 a3 a4 a5
              clear hx
              go_enter Tryz.func128, Tryz.ntmps128
              go_wp2_with fail
              go_ret
              exact ⟨ret_bool (by rw [HB.out]), ML.out _⟩
            · have d5 : (k2 != 0) = true := by simp [a5]
              clear a1 a2 a3 a4 a5
              clear hx
              go_enter Tryz.func128, Tryz.ntmps128
              go_wp2_with fail
              go_ret
              exact ⟨ret_bool (by rw [HB.out]), ML.out _⟩
          · have d4 : (k1 != 0) = true := by simp [a4]
            clear a1 a2 a3 a4
            clear hx
            go_enter Tryz.func128, Tryz.ntmps128
            go_wp2_with fail
            go_ret
            exact ⟨ret_bool (by rw [HB.out]), ML.out _⟩
        · have d3 : (b != 0) = true := by simp [a3]
          clear a1 a2 a3
          clear hx
          go_enter Tryz.func128, Tryz.ntmps128
          go_wp2_with fail
          go_ret
          exact ⟨ret_bool (by rw [HB.out]), ML.out _⟩
      · have d2 : (m != 0) = true := by simp [a2]
        clear a1 a2
        clear hx
        go_enter Tryz.func128, Tryz.ntmps128
        go_wp2_with fail
        go_ret
        exact ⟨ret_bool (by rw [HB.out]), ML.out _⟩
    · have d1 : (form != 5) = true := by simp [a1]
      clear a1
      clear hx
      go_enter Tryz.func128, Tryz.ntmps128
      go_wp2_with fail
      go_ret
      exact ⟨ret_bool (by rw [HB.out]), ML.out _⟩
end Go.Proofs.YtijjkonephjodaaGreatDoor
