/- Scripts of things that a device is told: how they read; light, near: contracts. -/
import Derived.Test.YtjdimdebplggnaaLawBase
import Derived.Test.YtjdimdebplggnaaFlashLaw
import Derived.Deep.Slices
import Derived.Deep.Fields
import Derived.ChangeSame
namespace Go.Proofs.Ytjdimdebplggnaa
open Go.RowKit Go.ChangeShapes Go.WideShapes Go.Deep

/-- One thing that a device is told. -/
structure Do where
  kind : Int
  a : Int
  b : Int
  torn : Int
  data : List Int
instance : Inhabited Do := ⟨⟨0, 0, 0, 0, []⟩⟩
/-- Its numbers fit. -/
structure Do.Ok (d : Do) : Prop where
  k : I64 d.kind
  a : I64 d.a
  b : I64 d.b
  t : 0 ≤ d.torn ∧ d.torn ≤ 255
  d : Bytes d.data
/-- The cells of one thing at address b, off. -/
def DoAt (w : World) (b off : Nat) (d : Do) : Prop :=
  ∃ vd, w.cell? ⟨b, off, none⟩ = some (.int .i64 d.kind) ∧ w.cell? ⟨b, off + 1, none⟩ = some (.int .i64 d.a) ∧ w.cell? ⟨b, off + 2, none⟩ = some (.int .i64 d.b) ∧ w.cell? ⟨b, off + 3, none⟩ = some (.int .u8 d.torn) ∧ w.cell? ⟨b, off + 4, none⟩ = some vd ∧ Rd w vd (u8s d.data)
/-- The slice v reads as the script l. -/
def RdDos (w : World) (v : Value) (l : List Do) : Prop :=
  ∃ ad cap, v = .slice ad l.length cap ∧ l.length ≤ cap ∧ cap ≤ maxLen ∧ ∀ i, i < l.length → (l.getD i default).Ok ∧ ∃ b off, ad = some ⟨b, off, none⟩ ∧ DoAt w b (off + i * 5) (l.getD i default)

/-- A list out of a choice at each place. -/
theorem list_of {α : Type} (d : α) (n : Nat) (Q : Nat → α → Prop) (h : ∀ i, i < n → ∃ x, Q i x) : ∃ l : List α, l.length = n ∧ ∀ i, i < n → Q i (l.getD i d) := by
  induction n with
  | zero => exact ⟨[], rfl, fun i hi => by omega⟩
  | succ n ih =>
    obtain ⟨l, hl, hq⟩ := ih fun i hi => h i (by omega)
    obtain ⟨x, hx⟩ := h n (by omega)
    refine ⟨l ++ [x], by simp [hl], fun i hi => ?_⟩
    rcases Nat.lt_or_ge i n with h1 | h1
    · have := hq i h1
      rw [List.getD_eq_getElem?_getD, List.getElem?_append_left (by omega), ← List.getD_eq_getElem?_getD]
      exact this
    · obtain rfl : i = n := by omega
      rw [List.getD_eq_getElem?_getD, List.getElem?_append_right (by omega), hl]
      simpa using hx

section
variable {H : Type} {enc : TypeId × Value → H} {P : Program} {w : World} {base : Nat} {spare : Nat → Bool} {held : Bool}
/-- A slice of integers behind one cell. -/
theorem rd_of_trod {t e : TypeId} {k : IntKind} {fuel : Nat} {v : Value} {x : DataW H × List MemPlace} (ht : P.underlying t = some (.slice e)) (he : P.underlying e = some (.int k)) (hc : P.cellsOf e = 1)
    (h : DataW.trod enc P w base spare held fuel t [v] = some x) : ∃ zs : List Int, Rd w v (zs.map (Value.int k)) ∧ ∀ n ∈ zs, (Lit.int k n).wf = true := by
  rcases open_ints ht he hc h with ⟨hcs, _⟩ | ⟨a, len, cap, zs, hcs, _, hl, hm, hz, _, hcell, hw⟩
  · simp at hcs
    subst hcs
    exact ⟨[], Rd.nil w, by simp⟩
  · simp at hcs
    subst hcs
    have hlen : len ≤ zs.length := by rw [hz]; split <;> omega
    refine ⟨zs.take len, rd_in (by simp; omega) hl hm fun i hi => ?_, fun n hn => hw n (List.mem_of_mem_take hn)⟩
    rw [hcell i (by omega)]
    simp only [List.getD_eq_getElem?_getD, List.getElem?_map, List.getElem?_take, if_pos hi]
    rw [List.getElem?_eq_getElem (by omega)]
    rfl
theorem open_slice_fields {t e : TypeId} {fs : Array Field} {fuel : Nat} {cs : List Value} {x : DataW H × List MemPlace} (ht : P.underlying t = some (.slice e)) (he : P.underlying e = some (.struct fs))
    (hone : oneCellFields P fs = true) (hC : P.cellsOf e = fs.size) (h : DataW.trod enc P w base spare held fuel t cs = some x) :
    cs = [.slice none 0 0] ∨
    ∃ (a : Addr) (len cap : Nat), cs = [.slice (some a) len cap] ∧ len ≤ cap ∧ cap ≤ maxLen ∧
      ∀ i, i < len → ∃ n : Nat, ∀ (j : Nat) (f : Field), fs[j]? = some f → ∃ (v : Value) (y : DataW H × List MemPlace), w.cell? (a.add (i * fs.size + j)) = some v ∧ DataW.trod enc P w base spare held n f.type [v] = some y := by
  rcases open_slice ht h with h0 | ⟨a, len, cap, m, n, D, Pl, hcs, hb, hl, hm, hmm, hx, hi⟩
  · exact .inl h0.1
  · refine .inr ⟨a, len, cap, hcs, hl, hm, fun i hil => ?_⟩
    obtain ⟨cs', hc, ht'⟩ := hi i (by rw [hmm]; split <;> omega)
    rw [hC] at hc
    obtain ⟨ys, n', hn', hy, hlen, hyl, hf⟩ := DataW.trod_struct he ht'
    obtain ⟨_, hcl, hat⟩ := World.cells?_some hc
    refine ⟨n', fun j f hj => ?_⟩
    obtain ⟨ho, hk⟩ := hone_of hone j f hj
    have hjl : j < fs.size := (Array.getElem?_eq_some_iff.1 hj).1
    have hcell := hat j hjl
    have hv : cs'[j]? = some (cs'[j]'(by omega)) := List.getElem?_eq_getElem (by omega)
    have h1 := hf j f hj
    rw [ho, hk] at h1
    have hone' : (cs'.drop j).take 1 = [cs'[j]'(by omega)] := by
      rw [List.drop_eq_getElem_cons (by omega)]
      rfl
    rw [hone'] at h1
    have hys : ys[j]? = some (ys[j]'(by omega)) := List.getElem?_eq_getElem (by omega)
    refine ⟨_, _, ?_, h1.trans hys⟩
    rw [← Go.Deep.add_add, hcell, hv]
end
theorem Try.cellsB : Try.prog.cellsOf 5 = 1 := by kernel_rfl
theorem dos_in {H : Type} {enc : TypeId × Value → H} {w : World} {base : Nat} {spare : Nat → Bool} {held : Bool} {fuel : Nat} {v : Value} {x : DataW H × List MemPlace}
    (h : DataW.trod enc Try.prog w base spare held fuel 44 [v] = some x) : ∃ l, RdDos w v l := by
  have hu := Try.underlying44
  have hs := Try.underlying47
  rcases open_slice_fields hu hs (by kernel_rfl) (by kernel_rfl) h with h0 | ⟨a, len, cap, hcs, hl, hm, hi⟩
  · simp at h0
    subst h0
    exact ⟨[], none, 0, rfl, by simp, by simp, fun i hi => by simp at hi⟩
  · simp at hcs
    subst hcs
    have key : ∀ i, i < len → ∃ d : Do, d.Ok ∧ ∃ b off, a = ⟨b, off, none⟩ ∧ DoAt w b (off + i * 5) d := by
      intro i hil
      obtain ⟨_, hf0⟩ := hi 0 (by omega)
      obtain ⟨_, _, c00, _⟩ := hf0 0 _ rfl
      obtain ⟨_, _, _, _, hsp⟩ := rd_add c00
      have hsp := hsp (by simp)
      obtain ⟨b, off, spot⟩ := a
      simp only at hsp
      subst hsp
      have cell : ∀ {n : Nat} {v : Value}, w.cell? ((⟨b, off, none⟩ : Addr).add n) = some v → w.cell? ⟨b, off + n, none⟩ = some v := by
        intro n v h
        unfold Addr.add at h
        split at h
        · rename_i h0; subst h0; exact h
        · exact h
      obtain ⟨n, hf⟩ := hi i hil
      obtain ⟨v0, y0, c0, t0⟩ := hf 0 _ rfl
      obtain ⟨v1, y1, c1, t1⟩ := hf 1 _ rfl
      obtain ⟨v2, y2, c2, t2⟩ := hf 2 _ rfl
      obtain ⟨v3, y3, c3, t3⟩ := hf 3 _ rfl
      obtain ⟨v4, y4, c4, t4⟩ := hf 4 _ rfl
      obtain ⟨n0, e0, _, w0⟩ := DataW.trod_int Try.underlying3 t0
      obtain ⟨n1, e1, _, w1⟩ := DataW.trod_int Try.underlying3 t1
      obtain ⟨n2, e2, _, w2⟩ := DataW.trod_int Try.underlying3 t2
      obtain ⟨n3, e3, _, w3⟩ := DataW.trod_int Try.underlying5 t3
      obtain ⟨zs, hz, wz⟩ := rd_of_trod Try.underlying26 Try.underlying5 Try.cellsB t4
      simp only [List.cons.injEq, and_true] at e0 e1 e2 e3
      subst e0 e1 e2 e3
      refine ⟨⟨n0, n1, n2, n3, zs⟩, ⟨bounds_i64 w0, bounds_i64 w1, bounds_i64 w2, bounds_u8 w3, fun j => ?_⟩, b, off, rfl, v4, cell c0, ?_, ?_, ?_, ?_, hz⟩
      · have := range_u8 (zs := zs) wz j
        simpa [List.getD_eq_getElem?_getD] using this
      · exact cell c1
      · exact cell c2
      · exact cell c3
      · exact cell c4
    obtain ⟨l, hll, hq⟩ := list_of default len (fun i d => d.Ok ∧ ∃ b off, a = ⟨b, off, none⟩ ∧ DoAt w b (off + i * 5) d) key
    refine ⟨l, some a, cap, by rw [hll], by omega, hm, fun i hil => ?_⟩
    obtain ⟨h1, b, off, h2, h3⟩ := hq i (by omega)
    exact ⟨h1, b, off, by rw [h2], h3⟩

theorem DoAt.mods {S : List Nat} {w w' : World} {b off : Nat} {d : Do} (h : DoAt w b off d) (hm : Mods S w w') (hS : ∀ k, k < w.heap.size → k ∉ S) : DoAt w' b off d := by
  obtain ⟨vd, c0, c1, c2, c3, c4, r⟩ := h
  have hb := hS _ (World.block_lt_of_cell? w _ c0)
  exact ⟨vd, hm.cell c0 hb, hm.cell c1 hb, hm.cell c2 hb, hm.cell c3 hb, hm.cell c4 hb, r.mods hm fun hl k hk => hS k (r.block_lt hl k hk)⟩
theorem DoAt.mods0 {w w' : World} {b off : Nat} {d : Do} (h : DoAt w b off d) (hm : Mods [] w w') : DoAt w' b off d := h.mods hm fun _ _ => by simp

/-- Whether a script is short enough. -/
def lightB (l : List Do) : Bool := decide (l.length ≤ 60) && l.all fun d => decide (d.data.length ≤ 200)
theorem lightB_get {l : List Do} (h : lightB l = true) {i : Nat} (hi : i < l.length) : (l.getD i default).data.length ≤ 200 := by
  simp only [lightB, Bool.and_eq_true, decide_eq_true_eq, List.all_eq_true] at h
  have := h.2 (l.getD i default) (by rw [List.getD_eq_getElem?_getD, List.getElem?_eq_getElem hi]; exact List.getElem_mem hi)
  exact this
theorem lightB_len {l : List Do} (h : lightB l = true) : l.length ≤ 60 := by
  simp only [lightB, Bool.and_eq_true, decide_eq_true_eq] at h; exact h.1

set_option maxHeartbeats 1000000 in
theorem lightDo_ok (w : World) (v : Value) (l : List Do) (hv : RdDos w v l) :
    Calls Try.prog 24 #[v] w fun e w' => e = .returned (.bool (lightB l)) ∧ w = w' := by
  obtain ⟨ad, cap, rfl, hc1, hc2, hi⟩ := hv
  unfold maxLen at hc2
  by_cases hl : l.length ≤ 60
  · have hd : decide ((60 : Int) < (l.length : Int)) = false := by simp; omega
    have HL := Lib.hid hl
    have HI := Lib.hid hi
    clear hi
    go_enter Try.func24, Try.ntmps24
    go_wp2_with fail
    go_loopw [3] (fun i wr => ∃ k : Nat, k ≤ l.length ∧ i = .int .i64 k ∧ wr = w ∧ Hid (∀ j, j < k → (l.getD j default).data.length ≤ 200)) (fun i _ => l.length - (intOf i).toNat)
    case atStart => exact ⟨0, Nat.zero_le _, rfl, rfl, fun j hj => by omega⟩
    case round =>
      obtain ⟨k, hk, rfl, hwr, hs⟩ := hrel
      subst hwr
      by_cases hlt : k < l.length
      · obtain ⟨_, b, off, rfl, vd, c0, c1, c2, c3, c4, r⟩ := HI.out k hlt
        obtain ⟨ad2, cap2, rfl, hd1, hd2, _⟩ := r.u8
        unfold maxLen at hd2
        clear c0 c1 c2 c3
        have HD : Hid (∃ n, n = (l.getD k default).data.length) := ⟨_, rfl⟩
        obtain ⟨n, hn⟩ := HD.out
        rw [← hn] at c4 hd1
        have HN := Lib.hid hn
        clear hn HD r
        by_cases h2 : n ≤ 200
        · have e1 : decide ((200 : Int) < (n : Int)) = false := by simp; omega
          go_wp2
          go_roundw
          case rel => exact ⟨k + 1, by omega, by go_num, by first | rfl | trivial, fun j hj => by
            rcases Nat.lt_or_ge j k with h | h
            · exact hs.out j h
            · obtain rfl : j = k := by omega
              rw [← HN.out]; exact h2⟩
          case measure => simp [intOf]; omega
        · have e1 : decide ((200 : Int) < (n : Int)) = true := by simp; omega
          have HF := Lib.hid (show lightB l = false by
            cases hb : lightB l with
            | false => rfl
            | true => exact absurd (by rw [HN.out]; exact lightB_get hb hlt) h2)
          go_wp2
          go_ret
          exact ⟨ret_bool (by rw [HF.out]), rfl⟩
      · have HF := Lib.hid (show lightB l = true by
          simp only [lightB, Bool.and_eq_true, decide_eq_true_eq, List.all_eq_true]
          refine ⟨HL.out, fun d hd => ?_⟩
          obtain ⟨j, hj, rfl⟩ := List.getElem_of_mem hd
          have := hs.out j (by omega)
          rwa [List.getD_eq_getElem?_getD, List.getElem?_eq_getElem hj] at this)
        go_wp2
        go_ret
        exact ⟨ret_bool (by rw [HF.out]), rfl⟩
  · have hd : decide ((60 : Int) < (l.length : Int)) = true := by simp; omega
    have HF := Lib.hid (show lightB l = false by simp [lightB, hl])
    clear hi hl
    go_enter Try.func24, Try.ntmps24
    go_wp2
    go_ret
    exact ⟨ret_bool (by rw [HF.out]), rfl⟩

/-- An offset brought into the device, in most cases. -/
def nearI (a n : Int) : Int := if a.tmod 9 = 8 then a else a % (n + 3) - 1
theorem near_i64 {a n : Int} (ha : I64 a) (hn : 0 ≤ n) (hn2 : n ≤ 1000000) : I64 (nearI a n) := by
  unfold nearI
  have h1 := Int.emod_nonneg a (show n + 3 ≠ 0 by omega)
  have h2 := Int.emod_lt_of_pos a (show 0 < n + 3 by omega)
  obtain ⟨h3, h4⟩ := ha
  split
  · exact ⟨h3, h4⟩
  · constructor <;> omega
set_option maxHeartbeats 400000 in
theorem near_ok (a n : Int) (w : World) (ha : I64 a) (hn : 0 ≤ n) (hn2 : n ≤ 1000000) :
    Calls Try.prog 26 #[.int .i64 a, .int .i64 n] w fun e w' => e = .returned (.int .i64 (nearI a n)) ∧ w = w' := by
  have HA := Lib.hid ha
  obtain ⟨h1, h2⟩ := ha
  by_cases h : a.tmod 9 = 8
  · have e1 : (a.tmod 9 == 8) = true := by simpa using h
    have E := Lib.hid (show nearI a n = a by rw [nearI, if_pos h])
    clear h
    go_enter Try.func26, Try.ntmps26
    go_wp2_with fail
    go_ret
    exact ⟨ret_int (by rw [E.out]), rfl⟩
  · have e1 : (a.tmod 9 == 8) = false := by simpa using h
    have E := Lib.hid (show nearI a n = a % (n + 3) - 1 by rw [nearI, if_neg h])
    clear h
    have h5 := Int.emod_nonneg a (show n + 3 ≠ 0 by omega)
    have h6 := Int.emod_lt_of_pos a (show 0 < n + 3 by omega)
    go_enter Try.func26, Try.ntmps26
    go_wp2_with fail
    refine (mod_ok a (n + 3) w HA.out (by omega) (by omega)).mono ?_
    rintro e w' ⟨rfl, rfl⟩
    go_wp2
    go_ret
    exact ⟨ret_int (by rw [E.out]), rfl⟩
end Go.Proofs.Ytjdimdebplggnaa
