/- Joined texts. An event log over a device, as plain data: what opening a sector leaves. No program stands here. | An event log over a device, as plain data: a new sector. No program stands here. | An event log over a device, as plain data: what Add and Clear do. No program stands here. | An event log over a device, as plain data: what Add and Clear leave. No program stands here. | What a log holds to which so many events were added, as plain data. No program stands here. -/
import Derived.Test.YtkdadnlleepkfaaFlashPure
import Derived.Test.YtkdadnlleepkfaaRingN
import Derived.Test.YtkdadnlleepkfaaLittle
namespace Go.Proofs.Ytkdadnlleepkfaa

def byt (D : Dev) (i : Nat) : Nat := (D.data.getD i 0).toNat
theorem byt_int {D : Dev} (ok : D.Ok) (i : Nat) : D.data.getD i 0 = (byt D i : Int) := by have := ok.byt i; unfold byt; omega
theorem byt_lt {D : Dev} (ok : D.Ok) (i : Nat) : byt D i < 256 := by have := ok.byt i; unfold byt; omega
/-- The log's sectors are the device's. -/
structure Fits (G : Geo) (D : Dev) : Prop where
  ok : D.Ok
  size : G.size = D.size
  sec : G.first + G.n ≤ D.wear.length
  n2 : 2 ≤ G.n
  s64 : 64 ≤ D.size
theorem Fits.geo {G : Geo} {D : Dev} (h : Fits G D) : G.Ok := ⟨h.n2, by rw [h.size]; exact h.s64⟩
theorem Fits.sect {G : Geo} {D : Dev} (h : Fits G D) {j : Nat} (hj : j < G.n) : G.at j + G.size ≤ D.data.length := by
  unfold Geo.at
  rw [h.size]
  exact sector_in h.ok (by have := h.sec; omega)
/-- Few steps so far. -/
structure Few (D : Dev) (k : Int) : Prop where
  st : D.steps ≤ k
  wr : ∀ i, D.wear.getD i 0 ≤ k
theorem Few.mono {D : Dev} {k m : Int} (h : Few D k) (hm : k ≤ m) : Few D m := ⟨by have := h.st; omega, fun i => by have := h.wr i; omega⟩
theorem orRange_out (l : List Int) (a n : Nat) (x : Int) (j : Nat) (hj : l.length ≤ j) : (orRange l a n x).getD j 0 = l.getD j 0 := by
  rw [List.getD_eq_getElem?_getD, List.getElem?_eq_none (by rw [orRange_len]; exact hj), List.getD_eq_getElem?_getD, List.getElem?_eq_none hj]
theorem andAt_out (l : List Int) (n : Nat) (r : List Int) (j : Nat) (hj : l.length ≤ j) : (andAt l n r).getD j 0 = l.getD j 0 := by
  rw [List.getD_eq_getElem?_getD, List.getElem?_eq_none (by rw [andAt_len]; exact hj), List.getD_eq_getElem?_getD, List.getElem?_eq_none hj]
/-- What an Erase of an own sector leaves. -/
theorem erase_cases {G : Geo} {D : Dev} (h : Fits G D) (hd : D.down = false) {j : Nat} (hj : j < G.n) {k : Int} (hk : Few D k) :
    Fits G (D.erase ((G.first + j : Nat) : Int)).2 ∧ Few (D.erase ((G.first + j : Nat) : Int)).2 (k + 1) ∧ (D.erase ((G.first + j : Nat) : Int)).2.torn = D.torn ∧
    (((D.erase ((G.first + j : Nat) : Int)).1 = 0 ∧ (D.erase ((G.first + j : Nat) : Int)).2.down = false ∧ ∀ i, byt (D.erase ((G.first + j : Nat) : Int)).2 i = if G.at j ≤ i ∧ i < G.at j + G.size then 255 else byt D i) ∨
     ((D.erase ((G.first + j : Nat) : Int)).1 = 10 ∧ (D.erase ((G.first + j : Nat) : Int)).2.down = true ∧ ∀ i, byt (D.erase ((G.first + j : Nat) : Int)).2 i = if G.at j ≤ i ∧ i < G.at j + G.size then (bits .or .u8 (byt D i : Int) D.torn).toNat else byt D i)) := by
  have hs := h.sec
  have hin := h.sect hj
  have he : D.erase ((G.first + j : Nat) : Int) = D.erased (G.first + j) := by
    rw [Dev.erase, if_neg (by rw [hd]; decide), if_pos (by omega), Int.toNat_natCast]
  rw [he]
  have ht : ((D.worn (G.first + j)).step).torn = D.torn := by rw [Dev.step_torn]; rfl
  have hdat : ((D.worn (G.first + j)).step).data = D.data := by rw [Dev.step_data]; rfl
  have hst : ((D.worn (G.first + j)).step).steps = D.steps + 1 := by rw [Dev.step_steps]; rfl
  have hwr : ((D.worn (G.first + j)).step).wear = D.wear.set (G.first + j) (D.wear.getD (G.first + j) 0 + 1) := by rw [Dev.step_wear]; rfl
  have hsz : ((D.worn (G.first + j)).step).size = D.size := by rw [Dev.step_size]; rfl
  have hval : ∀ (x : Int) i, byt ((D.worn (G.first + j)).step.over ((G.first + j) * D.size) D.size x) i = if G.at j ≤ i ∧ i < G.at j + G.size then (bits .or .u8 (byt D i : Int) x).toNat else byt D i := by
    intro x i
    unfold Geo.at at hin ⊢
    rw [h.size] at hin ⊢
    unfold byt Dev.over
    simp only [hdat]
    rcases Nat.lt_or_ge i D.data.length with hi | hi
    · rw [orRange_getD _ _ _ _ _ hi]
      split
      · rw [show ((D.data.getD i 0).toNat : Int) = D.data.getD i 0 by have := h.ok.byt i; omega]
      · rfl
    · rw [orRange_out _ _ _ _ _ hi, if_neg (by omega)]
  refine ⟨⟨h.ok.erased _, ?_, ?_, h.n2, ?_⟩, ⟨?_, ?_⟩, ht, ?_⟩
  · show G.size = ((D.worn (G.first + j)).step).size
    rw [hsz]; exact h.size
  · show _ ≤ ((D.worn (G.first + j)).step).wear.length
    rw [hwr, List.length_set]; exact hs
  · show 64 ≤ ((D.worn (G.first + j)).step).size
    rw [hsz]; exact h.s64
  · show ((D.worn (G.first + j)).step).steps ≤ k + 1
    have := hk.st
    omega
  · intro i
    show ((D.worn (G.first + j)).step).wear.getD i 0 ≤ k + 1
    rw [hwr, getD_set]
    have := hk.wr i
    split
    · have := hk.wr (G.first + j); omega
    · omega
  · cases hdn : ((D.worn (G.first + j)).step).down with
    | false =>
      left
      refine ⟨by unfold Dev.erased; rw [hdn]; rfl, hdn, fun i => ?_⟩
      unfold Dev.erased
      rw [hdn]
      simp only [Bool.false_eq_true, if_false]
      rw [hval 255 i]
      have := byt_lt h.ok i
      rw [or_ff (by omega) (by omega)]
      rfl
    | true =>
      right
      refine ⟨by unfold Dev.erased; rw [hdn]; rfl, hdn, fun i => ?_⟩
      unfold Dev.erased
      rw [hdn]
      simp only [if_true]
      exact hval _ i
theorem Dev.Ok.torn' {D : Dev} (h : D.Ok) (a : Nat) (l : List Int) (m : Nat) : (D.tornAt a l m).Ok where
  len := by simp only [Dev.tornAt, List.length_set, andAt_len]; exact h.len
  wl := h.wl
  mul := by simp only [Dev.tornAt, List.length_set, andAt_len]; exact h.mul
  s0 := h.s0
  s1 := h.s1
  byt := by
    intro j
    simp only [Dev.tornAt, getD_set]
    split
    · exact bits_byte _ _ _
    · rcases Nat.lt_or_ge j D.data.length with hj | hj
      · rw [andAt_getD _ _ _ _ hj]; split; exact bits_byte _ _ _; exact h.byt j
      · rw [andAt_out _ _ _ _ hj]; exact h.byt j
  tn := h.tn
  st := by have := h.st; simp only [Dev.tornAt]; omega
  lf := by simp [Dev.tornAt]
  wr := h.wr
theorem Dev.Ok.ran' {D : Dev} (h : D.Ok) (a : Nat) (l : List Int) (hl : D.left ≤ 0 ∨ l.length < D.left) : (D.ran a l).Ok where
  len := by simp only [Dev.ran, andAt_len]; exact h.len
  wl := h.wl
  mul := by simp only [Dev.ran, andAt_len]; exact h.mul
  s0 := h.s0
  s1 := h.s1
  byt := by
    intro j
    simp only [Dev.ran]
    rcases Nat.lt_or_ge j D.data.length with hj | hj
    · rw [andAt_getD _ _ _ _ hj]; split; exact bits_byte _ _ _; exact h.byt j
    · rw [andAt_out _ _ _ _ hj]; exact h.byt j
  tn := h.tn
  st := by have := h.st; simp only [Dev.ran]; omega
  lf := by have := h.lf; simp only [Dev.ran]; split <;> omega
  wr := h.wr
/-- What a Program of blank bytes leaves. -/
theorem prog_cases {G : Geo} {D : Dev} (h : Fits G D) (hd : D.down = false) {k : Int} (hk : Few D k) (a : Nat) (l : List Int) (hl : a + l.length ≤ D.data.length) (h1 : 1 ≤ l.length) (hb : Bytes l) (hf : ∀ i, a ≤ i → i < a + l.length → byt D i = 255) :
    Fits G (D.program (a : Int) l).2 ∧ Few (D.program (a : Int) l).2 (k + l.length) ∧ (D.program (a : Int) l).2.torn = D.torn ∧
    (((D.program (a : Int) l).1 = 0 ∧ (D.program (a : Int) l).2.down = false ∧ ∀ i, byt (D.program (a : Int) l).2 i = if a ≤ i ∧ i < a + l.length then (l.getD (i - a) 0).toNat else byt D i) ∨
     ((D.program (a : Int) l).1 = 10 ∧ (D.program (a : Int) l).2.down = true ∧ ∃ m, 1 ≤ m ∧ m ≤ l.length ∧ ∀ i, byt (D.program (a : Int) l).2 i = if a ≤ i ∧ i < a + (m - 1) then (l.getD (i - a) 0).toNat else if i = a + (m - 1) then (bits .or .u8 (l.getD (m - 1) 0) D.torn).toNat else byt D i)) := by
  have hp : D.program (a : Int) l = D.run a l := by
    rw [Dev.program, if_neg (by rw [hd]; decide), if_pos (by simp [fits]; omega), Int.toNat_natCast]
  rw [hp]
  have hlf := h.ok.lf
  by_cases hu : D.left ≤ 0 ∨ (l.length : Int) < D.left
  · rw [run_up l D a hd hu]
    refine ⟨⟨h.ok.ran' a l hu, h.size, h.sec, h.n2, h.s64⟩, ⟨by have := hk.st; simp only [Dev.ran]; omega, fun i => by have := hk.wr i; simp only [Dev.ran]; omega⟩, rfl, .inl ⟨rfl, hd, fun i => ?_⟩⟩
    unfold byt Dev.ran
    simp only
    rcases Nat.lt_or_ge i D.data.length with hi | hi
    · rw [andAt_getD _ _ _ _ hi]
      split
      · rename_i hc
        have hx := hf i hc.1 hc.2
        unfold byt at hx
        have h255 : D.data.getD i 0 = 255 := by have := h.ok.byt i; omega
        rw [h255, and_ff (hb _).1 (hb _).2]
      · rfl
    · rw [andAt_out _ _ _ _ hi, if_neg (by omega)]
  · obtain ⟨m, hm⟩ : ∃ m : Nat, D.left = m := ⟨D.left.toNat, by omega⟩
    have hm1 : 1 ≤ m := by omega
    have hm2 : m ≤ l.length := by omega
    rw [run_torn l D a m hd hm hm1 hm2]
    refine ⟨⟨h.ok.torn' a l m, h.size, h.sec, h.n2, h.s64⟩, ⟨by have := hk.st; simp only [Dev.tornAt]; omega, fun i => by have := hk.wr i; simp only [Dev.tornAt]; omega⟩, rfl, .inr ⟨rfl, rfl, m, hm1, hm2, fun i => ?_⟩⟩
    unfold byt Dev.tornAt
    simp only
    rw [getD_set]
    by_cases hi : a + m - 1 = i
    · subst hi
      rw [if_pos ⟨rfl, by rw [andAt_len]; omega⟩, if_neg (by omega), if_pos (by omega)]
      have hx := hf (a + m - 1) (by omega) (by omega)
      unfold byt at hx
      have h255 : D.data.getD (a + m - 1) 0 = 255 := by have := h.ok.byt (a + m - 1); omega
      rw [h255, and_ff (bits_byte _ _ _).1 (bits_byte _ _ _).2]
    · rw [if_neg (fun hc => hi hc.1)]
      rcases Nat.lt_or_ge i D.data.length with hil | hil
      · rw [andAt_getD _ _ _ _ hil, List.length_take]
        by_cases hc : a ≤ i ∧ i < a + (m - 1)
        · rw [if_pos (by omega), if_pos hc]
          have hx := hf i hc.1 (by omega)
          unfold byt at hx
          have h255 : D.data.getD i 0 = 255 := by have := h.ok.byt i; omega
          have hg : (l.take (m - 1)).getD (i - a) 0 = l.getD (i - a) 0 := by
            rw [List.getD_eq_getElem?_getD, List.getD_eq_getElem?_getD, List.getElem?_take, if_pos (by omega)]
          rw [h255, hg, and_ff (hb _).1 (hb _).2]
        · rw [if_neg (by omega), if_neg hc, if_neg (by omega)]
      · rw [andAt_out _ _ _ _ hil, if_neg (by omega), if_neg (by omega)]
end Go.Proofs.Ytkdadnlleepkfaa

namespace Go.Proofs.Ytkdadnlleepkfaa

/-- The ten bytes of a header ahead of its status. -/
def hdrL (q t id : Nat) : List Int := leL q 4 ++ leL t 4 ++ leL id 2
theorem hdrL_len (q t id : Nat) : (hdrL q t id).length = 10 := by simp [hdrL, leL_length]
theorem hdrL_bytes (q t id : Nat) : Bytes (hdrL q t id) := bytes_of fun x hx => by
  unfold hdrL at hx
  simp only [List.mem_append] at hx
  rcases hx with (hx | hx) | hx <;> exact leL_bytes _ _ x hx
theorem hdrL_get (q t id : Nat) : hdrL q t id = [(q : Int) % 256, (q : Int) / 256 % 256, (q : Int) / 65536 % 256, (q : Int) / 16777216 % 256, (t : Int) % 256, (t : Int) / 256 % 256, (t : Int) / 65536 % 256, (t : Int) / 16777216 % 256, (id : Int) % 256, (id : Int) / 256 % 256] := by
  simp [hdrL, leL, List.range_succ]
theorem join4 (q : Nat) (h : q < 4294967296) : ((q : Int) % 256).toNat + 256 * ((q : Int) / 256 % 256).toNat + 65536 * ((q : Int) / 65536 % 256).toNat + 16777216 * ((q : Int) / 16777216 % 256).toNat = q := by
  have h1 : q / 65536 = q / 256 / 256 := by rw [Nat.div_div_eq_div_mul]
  have h2 : q / 16777216 = q / 256 / 256 / 256 := by rw [Nat.div_div_eq_div_mul, Nat.div_div_eq_div_mul]
  have e0 : ((q : Int) % 256).toNat = q % 256 := by omega
  have e1 : ((q : Int) / 256 % 256).toNat = q / 256 % 256 := by omega
  have e2 : ((q : Int) / 65536 % 256).toNat = q / 256 / 256 % 256 := by omega
  have e3 : ((q : Int) / 16777216 % 256).toNat = q / 256 / 256 / 256 % 256 := by omega
  rw [e0, e1, e2, e3]
  clear e0 e1 e2 e3 h1 h2
  have h3 : q / 256 / 256 / 256 < 256 := by omega
  generalize hx : q / 256 = x at h3 ⊢
  generalize hy : x / 256 = y at h3 ⊢
  have := Nat.div_add_mod q 256
  have := Nat.div_add_mod x 256
  have := Nat.div_add_mod y 256
  rw [Nat.mod_eq_of_lt h3]
  omega
theorem join2 (q : Nat) (h : q < 65536) : ((q : Int) % 256).toNat + 256 * ((q : Int) / 256 % 256).toNat = q := by omega
theorem hdr_raw {b : Nat → Nat} {a q t id : Nat} (hq : q < 4294967296) (ht : t < 4294967296) (hi : id < 65536) (h : ∀ i, i < 10 → b (a + i) = ((hdrL q t id).getD i 0).toNat) : rawHd b a = ⟨q, t, id⟩ := by
  have h0 := h 0 (by omega)
  have h1 := h 1 (by omega)
  have h2 := h 2 (by omega)
  have h3 := h 3 (by omega)
  have h4 := h 4 (by omega)
  have h5 := h 5 (by omega)
  have h6 := h 6 (by omega)
  have h7 := h 7 (by omega)
  have h8 := h 8 (by omega)
  have h9 := h 9 (by omega)
  rw [hdrL_get] at h0 h1 h2 h3 h4 h5 h6 h7 h8 h9
  simp only [List.getD_cons_zero, List.getD_cons_succ, Nat.add_zero] at h0 h1 h2 h3 h4 h5 h6 h7 h8 h9
  unfold rawHd le4 le2
  simp only [Nat.add_assoc, Nat.reduceAdd]
  rw [h0, h1, h2, h3, h4, h5, h6, h7, h8, h9]
  simp only [Hd.mk.injEq]
  clear h0 h1 h2 h3 h4 h5 h6 h7 h8 h9
  have e1 := join4 q hq
  have e2 := join4 t ht
  have e3 := join2 id hi
  exact ⟨by omega, by omega, by omega⟩
/-- All bytes of a sector are erased. -/
def blankS (b : Nat → Nat) (G : Geo) (j : Nat) : Bool := (List.range G.size).all fun i => decide (b (G.at j + i) = 255)
theorem blankS_iff {b : Nat → Nat} {G : Geo} {j : Nat} : blankS b G j = true ↔ ∀ i, i < G.size → b (G.at j + i) = 255 := by
  unfold blankS
  rw [List.all_eq_true]
  exact ⟨fun h i hi => by simpa using h i (List.mem_range.2 hi), fun h i hi => by simpa using h i (List.mem_range.1 hi)⟩
/-- What opening sector number q leaves of a device that is up. -/
def openE (G : Geo) (D : Dev) (j : Nat) : Int × Dev := if blankS (byt D) G j then (0, D) else D.erase ((G.first + j : Nat) : Int)
def openH (G : Geo) (D : Dev) (j q t id : Nat) : Int × Dev := if (openE G D j).1 = 0 then (openE G D j).2.program ((G.at j : Nat) : Int) (hdrL q t id) else openE G D j
def openD (G : Geo) (D : Dev) (j q t id : Nat) : Int × Dev := if (openH G D j q t id).1 = 0 then (openH G D j q t id).2.program ((G.at j + 10 : Nat) : Int) [0] else openH G D j q t id

theorem or_same {x y : Int} (hx : 0 ≤ x ∧ x ≤ 255) (hy : 0 ≤ y ∧ y ≤ 255) : (bits .or .u8 x y = 0 → x = 0 ∧ y = 0) ∧ bits .or .u8 x 0 = x ∧ bits .or .u8 0 y = y := by
  obtain ⟨X, rfl⟩ := Int.eq_ofNat_of_zero_le hx.1
  obtain ⟨Y, rfl⟩ := Int.eq_ofNat_of_zero_le hy.1
  have h1 := u8_or_nat X Y (by omega) (by omega)
  have h2 := u8_or_nat X 0 (by omega) (by omega)
  have h3 := u8_or_nat 0 Y (by omega) (by omega)
  refine ⟨fun h => ?_, ?_, ?_⟩
  · rw [h1] at h
    have h4 : X ||| Y = 0 := by omega
    have := Nat.or_eq_zero_iff.1 h4
    omega
  · have h4 := h2
    simp only [Nat.or_zero] at h4
    exact h4
  · have h4 := h3
    simp only [Nat.zero_or] at h4
    exact h4
theorem Alike.refl (b : Nat → Nat) (G : Geo) (j : Nat) : Alike b b G j := fun _ _ => rfl
theorem Alike.trans {a b c : Nat → Nat} {G : Geo} {j : Nat} (h : Alike a b G j) (h' : Alike b c G j) : Alike a c G j := fun i hi => (h i hi).trans (h' i hi)
theorem openE_spec {G : Geo} {D : Dev} (h : Fits G D) (hu : D.down = false) {j : Nat} (hj : j < G.n) {k : Int} (hk : Few D k) :
    Fits G (openE G D j).2 ∧ Few (openE G D j).2 (k + 1) ∧ (openE G D j).2.torn = D.torn ∧ Alike (byt D) (byt (openE G D j).2) G j ∧
    (((openE G D j).1 = 0 ∧ (openE G D j).2.down = false ∧ ∀ i, i < G.size → byt (openE G D j).2 (G.at j + i) = 255) ∨
     ((openE G D j).1 = 10 ∧ (openE G D j).2.down = true ∧ (hd (byt (openE G D j).2) G j = none ∨ hd (byt (openE G D j).2) G j = hd (byt D) G j))) := by
  unfold openE
  split
  · rename_i hb
    exact ⟨h, hk.mono (by omega), rfl, Alike.refl _ _ _, .inl ⟨rfl, hu, blankS_iff.1 hb⟩⟩
  · obtain ⟨h1, h2, h3, h4⟩ := erase_cases h hu hj hk
    generalize D.erase ((G.first + j : Nat) : Int) = R at h1 h2 h3 h4 ⊢
    refine ⟨h1, h2, h3, ?_, ?_⟩
    · intro i hi
      rcases h4 with ⟨_, _, h4⟩ | ⟨_, _, h4⟩ <;> (rw [h4 i, if_neg (by omega)])
    · rcases h4 with ⟨e, d, h4⟩ | ⟨e, d, h4⟩
      · exact .inl ⟨e, d, fun i hi => by rw [h4, if_pos (by omega)]⟩
      · refine .inr ⟨e, d, ?_⟩
        have hs := h.geo.s64
        have tn := h.ok.tn
        have hst := h4 (G.at j + 10)
        rw [if_pos (by omega)] at hst
        have hbl := byt_lt h.ok (G.at j + 10)
        by_cases h0 : byt R.2 (G.at j + 10) = 0
        · right
          rw [h0] at hst
          have hz : bits .or .u8 (byt D (G.at j + 10) : Int) D.torn = 0 := by have := bits_byte .or (byt D (G.at j + 10) : Int) D.torn; omega
          have ht := ((or_same (by omega) tn).1 hz).2
          refine hd_congr fun i hi => ?_
          rw [h4, if_pos (by omega), ht]
          have hbi := byt_lt h.ok (G.at j + i)
          rw [(or_same (x := (byt D (G.at j + i) : Int)) (y := 0) (by omega) (by omega)).2.1]
          omega
        · left
          unfold hd
          rw [if_neg (fun hc => h0 hc.1)]
theorem openH_spec {G : Geo} {D : Dev} (h : Fits G D) (hu : D.down = false) {j : Nat} (hj : j < G.n) {k : Int} (hk : Few D k) (q t id : Nat) :
    Fits G (openH G D j q t id).2 ∧ Few (openH G D j q t id).2 (k + 11) ∧ (openH G D j q t id).2.torn = D.torn ∧ Alike (byt D) (byt (openH G D j q t id).2) G j ∧
    (((openH G D j q t id).1 = 0 ∧ (openH G D j q t id).2.down = false ∧ (∀ i, i < 10 → byt (openH G D j q t id).2 (G.at j + i) = ((hdrL q t id).getD i 0).toNat) ∧ ∀ i, 10 ≤ i → i < G.size → byt (openH G D j q t id).2 (G.at j + i) = 255) ∨
     ((openH G D j q t id).1 = 10 ∧ (openH G D j q t id).2.down = true ∧ (hd (byt (openH G D j q t id).2) G j = none ∨ hd (byt (openH G D j q t id).2) G j = hd (byt D) G j))) := by
  obtain ⟨h1, h2, h3, h4, h5⟩ := openE_spec h hu hj hk
  unfold openH
  generalize openE G D j = R at h1 h2 h3 h4 h5 ⊢
  rcases h5 with ⟨e, d, hf⟩ | ⟨e, d, hx⟩
  · rw [if_pos e]
    have hin := h1.sect hj
    have hs := h1.geo.s64
    have hl := hdrL_len q t id
    obtain ⟨p1, p2, p3, p4⟩ := prog_cases h1 d h2 (G.at j) (hdrL q t id) (by rw [hl]; omega) (by rw [hl]; omega) (hdrL_bytes q t id) (fun i hi1 hi2 => by rw [hl] at hi2; have := hf (i - G.at j) (by omega); rwa [show G.at j + (i - G.at j) = i by omega] at this)
    rw [hl] at p2 p4
    generalize R.2.program ((G.at j : Nat) : Int) (hdrL q t id) = P at p1 p2 p3 p4 ⊢
    refine ⟨p1, p2.mono (by omega), p3.trans h3, h4.trans ?_, ?_⟩
    · intro i hi
      rcases p4 with ⟨_, _, p4⟩ | ⟨_, _, m, m1, m2, p4⟩
      · rw [p4 i, if_neg (by omega)]
      · rw [p4 i, if_neg (by omega), if_neg (by omega)]
    · rcases p4 with ⟨e', d', p4⟩ | ⟨e', d', m, m1, m2, p4⟩
      · refine .inl ⟨e', d', fun i hi => ?_, fun i hi hi2 => ?_⟩
        · rw [p4, if_pos (by omega), show G.at j + i - G.at j = i by omega]
        · rw [p4, if_neg (by omega)]
          exact hf i hi2
      · refine .inr ⟨e', d', .inl ?_⟩
        unfold hd
        have : byt P.2 (G.at j + 10) = 255 := by rw [p4, if_neg (by omega), if_neg (by omega)]; exact hf 10 (by omega)
        rw [if_neg (fun hc => by have := hc.1; omega)]
  · rw [if_neg (by omega)]
    exact ⟨h1, h2.mono (by omega), h3, h4, .inr ⟨e, d, hx⟩⟩
theorem openD_spec {G : Geo} {D : Dev} (h : Fits G D) (hu : D.down = false) {j : Nat} (hj : j < G.n) {k : Int} (hk : Few D k) {q t id : Nat} (hq : okHd G.n j ⟨q, t, id⟩) :
    Fits G (openD G D j q t id).2 ∧ Few (openD G D j q t id).2 (k + 12) ∧ (openD G D j q t id).2.torn = D.torn ∧ Alike (byt D) (byt (openD G D j q t id).2) G j ∧
    (((openD G D j q t id).1 = 0 ∧ (openD G D j q t id).2.down = false) ∨ ((openD G D j q t id).1 = 10 ∧ (openD G D j q t id).2.down = true)) ∧
    ((hd (byt (openD G D j q t id).2) G j = some ⟨q, t, id⟩ ∧ ∀ i, 11 ≤ i → i < G.size → byt (openD G D j q t id).2 (G.at j + i) = 255) ∨
     ((openD G D j q t id).1 = 10 ∧ (hd (byt (openD G D j q t id).2) G j = none ∨ hd (byt (openD G D j q t id).2) G j = hd (byt D) G j))) := by
  obtain ⟨h1, h2, h3, h4, h5⟩ := openH_spec h hu hj hk q t id
  unfold openD
  generalize openH G D j q t id = R at h1 h2 h3 h4 h5 ⊢
  rcases h5 with ⟨e, d, hb, hf⟩ | ⟨e, d, hx⟩
  · rw [if_pos e]
    have hin := h1.sect hj
    have hs := h1.geo.s64
    obtain ⟨p1, p2, p3, p4⟩ := prog_cases h1 d h2 (G.at j + 10) [0] (by simp; omega) (by simp) (bytes_of (by simp)) (fun i hi1 hi2 => by simp at hi2; rw [show i = G.at j + 10 by omega]; exact hf 10 (by omega) (by omega))
    simp only [List.length_cons, List.length_nil, Nat.zero_add] at p2 p4
    generalize R.2.program ((G.at j + 10 : Nat) : Int) [0] = P at p1 p2 p3 p4 ⊢
    obtain ⟨o1, o2, o3, o4, o5, o6, o7, o8⟩ := hq
    simp only at o1 o2 o3 o4 o5 o6 o7 o8
    have hout : ∀ i, i ≠ G.at j + 10 → byt P.2 i = byt R.2 i := fun i hi => by
      rcases p4 with ⟨_, _, p4⟩ | ⟨_, _, m, m1, m2, p4⟩
      · rw [p4, if_neg (by omega)]
      · rw [p4, if_neg (by omega), if_neg (by omega)]
    have hraw : rawHd (byt P.2) (G.at j) = ⟨q, t, id⟩ := hdr_raw (by omega) (by omega) (by omega) (fun i hi => by rw [hout _ (by omega)]; exact hb i hi)
    refine ⟨p1, p2.mono (by omega), p3.trans h3, h4.trans (fun i hi => (hout i (by omega)).symm), ?_, ?_⟩
    · rcases p4 with ⟨e', d', _⟩ | ⟨e', d', _⟩
      · exact .inl ⟨e', d'⟩
      · exact .inr ⟨e', d'⟩
    · by_cases h0 : byt P.2 (G.at j + 10) = 0
      · left
        refine ⟨?_, fun i hi1 hi2 => by rw [hout _ (by omega)]; exact hf i (by omega) hi2⟩
        unfold hd
        rw [hraw, if_pos ⟨h0, o1, o2, o3, o4, o5, o6, o7, o8⟩]
      · right
        rcases p4 with ⟨e', d', p4⟩ | ⟨e', d', m, m1, m2, p4⟩
        · exact absurd (by rw [p4, if_pos (by omega)]; simp) h0
        · refine ⟨e', .inl ?_⟩
          unfold hd
          rw [if_neg (fun hc => h0 hc.1)]
  · rw [if_neg (by omega)]
    exact ⟨h1, h2.mono (by omega), h3, h4, .inr ⟨e, d⟩, .inr ⟨e, hx⟩⟩
end Go.Proofs.Ytkdadnlleepkfaa

namespace Go.Proofs.Ytkdadnlleepkfaa

/-- A log beside its device. -/
structure LogP where
  over : Bool
  full : Bool
  held : Bool
  ended : Bool
  num : Nat
  s : LogS
def zeroS : LogS := ⟨0, 0, 0, 0, []⟩
def endL : LogP := ⟨false, false, false, true, 0, zeroS⟩
def grownS (S : LogS) (t : Nat) : LogS := ⟨S.newest + 1, t, 0, S.next, S.recs.filter fun x => decide (t ≤ x.1)⟩
def openL (G : Geo) (D : Dev) (S : LogS) (t : Nat) : Int × Dev × LogS :=
  if 2147483648 < S.newest + 1 then (3, D, S)
  else ((openD G D (S.newest % G.n) (S.newest + 1) t S.next).1, (openD G D (S.newest % G.n) (S.newest + 1) t S.next).2, if (openD G D (S.newest % G.n) (S.newest + 1) t S.next).1 = 0 then grownS S t else S)
/-- The tail of the next sector; none: there is no room. -/
def tailL (G : Geo) (L : LogP) : Option Nat :=
  if G.n - 2 < L.s.newest + 1 - max L.s.tail 1 then (if L.over then some (max L.s.tail 1 + 1) else none) else some (max L.s.tail 1)
def growL (G : Geo) (D : Dev) (L : LogP) : Int × Dev × LogP :=
  match tailL G L with
  | some t => ((openL G D L.s t).1, (openL G D L.s t).2.1, { L with s := (openL G D L.s t).2.2 })
  | none => (9, D, { L with full := true })
def needG (G : Geo) (S : LogS) : Bool := decide (S.newest = 0) || decide (S.used = G.slots)
def placeL (G : Geo) (D : Dev) (L : LogP) : Int × Dev × LogP := if needG G L.s then growL G D L else (0, D, L)
def withId (e : Evt) (id : Nat) : Evt := { e with id := f16 id }
def putR (G : Geo) (D : Dev) (S : LogS) (e : Evt) : Int × Dev := D.program ((G.slot ((S.newest - 1) % G.n) S.used : Nat) : Int) (encEv e ++ [0])
def moreS (S : LogS) (e : Evt) : LogS := ⟨S.newest, S.tail, S.used + 1, behindN S.next, S.recs ++ [(S.newest, withId e S.next)]⟩
def orEnd (D : Dev) (L : LogP) : LogP := if D.down then endL else L
def addL (G : Geo) (D : Dev) (L : LogP) (e : Evt) : (Nat × Int) × Dev × LogP :=
  if (L.ended || D.down) = true then ((0, 10), D, endL)
  else if (validE e && decide (e.id.val = 0)) = false then ((0, 1), D, L)
  else if (placeL G D L).1 ≠ 0 then ((0, (placeL G D L).1), (placeL G D L).2.1, orEnd (placeL G D L).2.1 (placeL G D L).2.2)
  else if (putR G (placeL G D L).2.1 (placeL G D L).2.2.s (withId e (placeL G D L).2.2.s.next)).1 ≠ 0 then
    ((0, (putR G (placeL G D L).2.1 (placeL G D L).2.2.s (withId e (placeL G D L).2.2.s.next)).1), (putR G (placeL G D L).2.1 (placeL G D L).2.2.s (withId e (placeL G D L).2.2.s.next)).2,
      orEnd (putR G (placeL G D L).2.1 (placeL G D L).2.2.s (withId e (placeL G D L).2.2.s.next)).2 (placeL G D L).2.2)
  else (((placeL G D L).2.2.s.next, 0), (putR G (placeL G D L).2.1 (placeL G D L).2.2.s (withId e (placeL G D L).2.2.s.next)).2, { (placeL G D L).2.2 with s := moreS (placeL G D L).2.2.s e })
def clearL (G : Geo) (D : Dev) (L : LogP) (r : Nat) : Int × Dev × LogP :=
  if (L.ended || D.down) = true then (10, D, endL)
  else if (L.held && decide (r = L.num)) = false then (11, D, L)
  else if L.s.recs = [] then (0, D, { L with held := false, full := false })
  else if (openL G D L.s (L.s.newest + 1)).1 ≠ 0 then ((openL G D L.s (L.s.newest + 1)).1, (openL G D L.s (L.s.newest + 1)).2.1, orEnd (openL G D L.s (L.s.newest + 1)).2.1 { L with s := (openL G D L.s (L.s.newest + 1)).2.2 })
  else (0, (openL G D L.s (L.s.newest + 1)).2.1, { L with s := (openL G D L.s (L.s.newest + 1)).2.2, held := false, full := false })
/-- A log that has not ended keeps what its sectors hold, and its device is up. -/
structure Sync (G : Geo) (D : Dev) (L : LogP) : Prop where
  fit : Fits G D
  up : L.ended = false → D.down = false
  s : L.ended = false → L.s = openS (byt D) G
  e : L.ended = true → L = endL
/-- What is the same but for the slots that are used. -/
def Like (A B : LogS) : Prop := A.newest = B.newest ∧ A.tail = B.tail ∧ A.next = B.next ∧ A.recs = B.recs
theorem openS_facts (b : Nat → Nat) (G : Geo) : (openS b G).newest = (newS b G).1 ∧ (openS b G).tail = (newS b G).2 ∧ (openS b G).newest ≤ 2147483648 ∧ (openS b G).tail ≤ (openS b G).newest ∧ (0 < (openS b G).newest → 1 ≤ (openS b G).tail ∧ (openS b G).newest - (openS b G).tail ≤ G.n - 2) ∧ (openS b G).used ≤ G.slots := by
  unfold openS
  by_cases h0 : (newS b G).1 = 0
  · rw [if_pos h0, (newS_none h0).1]
    refine ⟨?_, ?_, by decide, Nat.le_refl _, fun h => by simp at h, Nat.zero_le _⟩ <;> first | rfl | trivial
  · rw [if_neg h0]
    obtain ⟨x, hx, he⟩ := newS_some (b := b) (G := G) (by omega)
    have o := hd_ok hx
    have hq : (newS b G).1 = x.q := by rw [he]
    have ht : (newS b G).2 = x.t := by rw [he]
    simp only
    exact ⟨trivial, trivial, by have := o.2.1; omega, by have := o.2.2.2.2.1; omega, fun _ => ⟨by have := o.2.2.2.1; omega, by have := o.2.2.2.2.2.1; omega⟩, used_le _ _ _ _⟩
/-- Opening a sector over a device that is up. -/
theorem openL_spec {G : Geo} {D : Dev} (h : Fits G D) (hu : D.down = false) {k : Int} (hk : Few D k) {t : Nat} (h1 : 1 ≤ t) (ht : (openS (byt D) G).tail ≤ t) (htq : t ≤ (openS (byt D) G).newest + 1) (htn : (openS (byt D) G).newest + 1 - t ≤ G.n - 2) :
    Fits G (openL G D (openS (byt D) G) t).2.1 ∧ Few (openL G D (openS (byt D) G) t).2.1 (k + 12) ∧ (openL G D (openS (byt D) G) t).2.1.torn = D.torn ∧
    (((openL G D (openS (byt D) G) t).1 = 0 ∧ (openL G D (openS (byt D) G) t).2.1.down = false ∧ (openL G D (openS (byt D) G) t).2.2 = grownS (openS (byt D) G) t ∧ openS (byt (openL G D (openS (byt D) G) t).2.1) G = grownS (openS (byt D) G) t) ∨
     ((openL G D (openS (byt D) G) t).1 = 3 ∧ (openL G D (openS (byt D) G) t).2.1 = D ∧ (openL G D (openS (byt D) G) t).2.2 = openS (byt D) G ∧ 2147483648 ≤ (openS (byt D) G).newest) ∨
     ((openL G D (openS (byt D) G) t).1 = 10 ∧ (openL G D (openS (byt D) G) t).2.1.down = true ∧ (openL G D (openS (byt D) G) t).2.2 = openS (byt D) G ∧ (openS (byt (openL G D (openS (byt D) G) t).2.1) G = openS (byt D) G ∨ openS (byt (openL G D (openS (byt D) G) t).2.1) G = grownS (openS (byt D) G) t))) := by
  obtain ⟨f1, f2, f3, f4, f5, f6⟩ := openS_facts (byt D) G
  have hnx := next_rng (byt D) G
  have hn : 0 < G.n := by have := h.n2; omega
  unfold openL
  split
  · rename_i hq
    exact ⟨h, hk.mono (by omega), rfl, .inr (.inl ⟨rfl, rfl, rfl, by omega⟩)⟩
  · rename_i hq
    have hok : okHd G.n ((openS (byt D) G).newest % G.n) ⟨(openS (byt D) G).newest + 1, t, (openS (byt D) G).next⟩ := ⟨by simp only; omega, by simp only; omega, by simp, h1, by simp only; omega, htn, hnx.1, hnx.2⟩
    obtain ⟨d1, d2, d3, d4, d5, d6⟩ := openD_spec h hu (Nat.mod_lt (openS (byt D) G).newest hn) hk hok
    generalize openD G D ((openS (byt D) G).newest % G.n) ((openS (byt D) G).newest + 1) t (openS (byt D) G).next = R at d1 d2 d3 d4 d5 d6 ⊢
    refine ⟨d1, d2, d3, ?_⟩
    have hnew : (hd (byt R.2) G ((openS (byt D) G).newest % G.n) = some ⟨(openS (byt D) G).newest + 1, t, (openS (byt D) G).next⟩ ∧ ∀ i, 11 ≤ i → i < G.size → byt R.2 (G.at ((openS (byt D) G).newest % G.n) + i) = 255) → openS (byt R.2) G = grownS (openS (byt D) G) t := by
      rintro ⟨x1, x2⟩
      rw [f1] at d4 x1 x2
      have := open_new h.geo (b := byt D) (c := byt R.2) (q := (newS (byt D) G).1 + 1) (t := t) (id := (openS (byt D) G).next) rfl (by omega) d4 x1 (fun i hi => by
        have hs := slot_in h.geo hi ((newS (byt D) G).1 % G.n)
        refine freeAt_iff.2 fun m hm => ?_
        have := x2 (G.slot ((newS (byt D) G).1 % G.n) i + m - G.at ((newS (byt D) G).1 % G.n)) (by omega) (by omega)
        rwa [show G.at ((newS (byt D) G).1 % G.n) + (G.slot ((newS (byt D) G).1 % G.n) i + m - G.at ((newS (byt D) G).1 % G.n)) = G.slot ((newS (byt D) G).1 % G.n) i + m by omega] at this)
      rw [this]
      unfold grownS
      rw [f1]
    rcases d5 with ⟨e, d⟩ | ⟨e, d⟩
    · rcases d6 with d6 | ⟨e', _⟩
      · exact .inl ⟨e, d, by rw [if_pos e], hnew d6⟩
      · omega
    · refine .inr (.inr ⟨e, d, by rw [if_neg (by omega)], ?_⟩)
      rcases d6 with d6 | ⟨_, hx⟩
      · exact .inr (hnew d6)
      · left
        rw [f1] at d4 hx
        exact open_junk h.geo d4 hx
/-- A record written over a device that is up, into the first of the free slots. -/
theorem putR_spec {G : Geo} {D : Dev} (h : Fits G D) (hu : D.down = false) {k : Int} (hk : Few D k) (h0 : 0 < (openS (byt D) G).newest) (hus : (openS (byt D) G).used < G.slots) {e : Evt} (he : validE e = true) (hid : e.id.val = (openS (byt D) G).next) :
    Fits G (putR G D (openS (byt D) G) e).2 ∧ Few (putR G D (openS (byt D) G) e).2 (k + 17) ∧ (putR G D (openS (byt D) G) e).2.torn = D.torn ∧
    (((putR G D (openS (byt D) G) e).1 = 0 ∧ (putR G D (openS (byt D) G) e).2.down = false ∧ openS (byt (putR G D (openS (byt D) G) e).2) G = ⟨(openS (byt D) G).newest, (openS (byt D) G).tail, (openS (byt D) G).used + 1, behindN (openS (byt D) G).next, (openS (byt D) G).recs ++ [((openS (byt D) G).newest, e)]⟩) ∨
     ((putR G D (openS (byt D) G) e).1 = 10 ∧ (putR G D (openS (byt D) G) e).2.down = true ∧
      (Like (openS (byt (putR G D (openS (byt D) G) e).2) G) (openS (byt D) G) ∨ openS (byt (putR G D (openS (byt D) G) e).2) G = ⟨(openS (byt D) G).newest, (openS (byt D) G).tail, (openS (byt D) G).used + 1, behindN (openS (byt D) G).next, (openS (byt D) G).recs ++ [((openS (byt D) G).newest, e)]⟩))) := by
  obtain ⟨f1, f2, f3, f4, f5, f6⟩ := openS_facts (byt D) G
  have hnx := next_rng (byt D) G
  have hn : 0 < G.n := by have := h.n2; omega
  have hj := Nat.mod_lt ((openS (byt D) G).newest - 1) hn
  have hin := h.sect hj
  have hsl := slot_in h.geo hus (((openS (byt D) G).newest - 1) % G.n)
  have hl : (encEv e ++ [0]).length = 17 := rfl
  have hus0 := hus
  have hblank : ∀ m, m < 17 → byt D (G.slot (((openS (byt D) G).newest - 1) % G.n) (openS (byt D) G).used + m) = 255 := by
    have hO : (openS (byt D) G).used = usedK (byt D) G (((openS (byt D) G).newest - 1) % G.n) G.slots := by
      rw [f1]
      unfold openS
      rw [if_neg (by omega)]
    exact freeAt_iff.1 (used_free (by omega) hus)
  have hbb : Bytes (encEv e ++ [0]) := fun i => by
    rcases Nat.lt_or_ge i 16 with hi | hi
    · rw [List.getD_eq_getElem?_getD, List.getElem?_append_left (by rw [encEv_len]; exact hi), ← List.getD_eq_getElem?_getD]
      exact encEv_byte he i
    · rw [List.getD_eq_getElem?_getD, List.getElem?_append_right (by rw [encEv_len]; exact hi), encEv_len]
      rcases Nat.lt_or_ge i 17 with h2 | h2
      · rw [show i - 16 = 0 by omega]; simp
      · rw [List.getElem?_eq_none (by simp; omega)]; simp
  unfold putR
  generalize hS : G.slot (((openS (byt D) G).newest - 1) % G.n) (openS (byt D) G).used = a at hsl hblank ⊢
  obtain ⟨p1, p2, p3, p4⟩ := prog_cases h hu hk a (encEv e ++ [0]) (by rw [hl]; omega) (by rw [hl]; omega) hbb (fun i h1 h2 => by rw [hl] at h2; have := hblank (i - a) (by omega); rwa [show a + (i - a) = i by omega] at this)
  rw [hl] at p2 p4
  generalize D.program (a : Int) (encEv e ++ [0]) = R at p1 p2 p3 p4 ⊢
  have hout : ∀ i, i < a ∨ a + 17 ≤ i → byt D i = byt R.2 i := fun i hi => by
    rcases p4 with ⟨_, _, p4⟩ | ⟨_, _, m, m1, m2, p4⟩
    · rw [p4, if_neg (by omega)]
    · rw [p4, if_neg (by omega), if_neg (by omega)]
  rw [f1] at hS
  have hos := open_slot h.geo (b := byt D) (c := byt R.2) (by omega) hus (by rw [hS]; exact hout)
  rw [hS] at hos
  have henc : ∀ i, i < 16 → (encEv e ++ [0]).getD i 0 = (encEv e).getD i 0 := fun i hi => by
    rw [List.getD_eq_getElem?_getD, List.getElem?_append_left (by rw [encEv_len]; exact hi), ← List.getD_eq_getElem?_getD]
  have h16 : (encEv e ++ [0]).getD 16 0 = 0 := rfl
  have hgood : (∀ i, i < 16 → byt R.2 (a + i) = ((encEv e).getD i 0).toNat) → byt R.2 (a + 16) = 0 → openS (byt R.2) G = ⟨(openS (byt D) G).newest, (openS (byt D) G).tail, (openS (byt D) G).used + 1, behindN (openS (byt D) G).next, (openS (byt D) G).recs ++ [((openS (byt D) G).newest, e)]⟩ := by
    intro g1 g2
    have hev : evAt (byt R.2) a = some e := by
      unfold evAt
      rw [if_pos g2, decEv_congr (d := fun i => ((encEv e).getD i 0).toNat) g1, dec_enc he]
      simp only
      rw [if_neg (by omega)]
    have hfr : freeAt (byt R.2) a = false := by
      cases hf : freeAt (byt R.2) a with
      | false => rfl
      | true => have := freeAt_iff.1 hf 16 (by omega); omega
    rw [hos, hev, hfr]
    simp only [Bool.false_eq_true, if_false, Option.toList_some, List.map_cons, List.map_nil, hid]
  have hbad : byt R.2 (a + 16) ≠ 0 → Like (openS (byt R.2) G) (openS (byt D) G) := by
    intro g
    have hev : evAt (byt R.2) a = none := by
      unfold evAt
      rw [if_neg g]
    rw [hos, hev]
    exact ⟨rfl, rfl, rfl, by simp⟩
  refine ⟨p1, p2, p3, ?_⟩
  rcases p4 with ⟨e', d', p4⟩ | ⟨e', d', m, m1, m2, p4⟩
  · refine .inl ⟨e', d', hgood (fun i hi => ?_) ?_⟩
    · rw [p4, if_pos (by omega), show a + i - a = i by omega, henc i hi]
    · rw [p4, if_pos (by omega), show a + 16 - a = 16 by omega, h16]; rfl
  · refine .inr ⟨e', d', ?_⟩
    by_cases g : byt R.2 (a + 16) = 0
    · right
      have hm : m = 17 := by
        rcases Nat.lt_or_ge m 17 with hm | hm
        · rw [p4, if_neg (by omega), if_neg (by omega), hblank 16 (by omega)] at g
          omega
        · omega
      refine hgood (fun i hi => ?_) g
      rw [p4, if_pos (by omega), show a + i - a = i by omega, henc i hi]
    · exact .inl (hbad g)
end Go.Proofs.Ytkdadnlleepkfaa

namespace Go.Proofs.Ytkdadnlleepkfaa
set_option linter.unusedVariables false

/-- Up, and not armed. -/
def Calm (D : Dev) : Prop := D.down = false ∧ D.left ≤ 0
theorem calm_prog {D : Dev} (h : Calm D) (a : Int) (l : List Int) : Calm (D.program a l).2 := by
  unfold Dev.program
  rw [if_neg (by rw [h.1]; decide)]
  split
  · rw [run_up l D _ h.1 (.inl h.2)]
    refine ⟨h.1, ?_⟩
    show (if 0 < D.left then _ else D.left) ≤ 0
    rw [if_neg (by have := h.2; omega)]
    exact h.2
  · exact h
theorem calm_erase {D : Dev} (h : Calm D) (s : Int) : Calm (D.erase s).2 := by
  unfold Dev.erase
  rw [if_neg (by rw [h.1]; decide)]
  split
  · have hs : Calm (D.worn s.toNat).step := by
      have h2 : (D.worn s.toNat).left = D.left := rfl
      unfold Dev.step
      rw [h2, if_neg (by have := h.2; omega)]
      exact ⟨h.1, h.2⟩
    unfold Dev.erased
    split
    · exact ⟨hs.1, hs.2⟩
    · exact ⟨hs.1, hs.2⟩
  · exact h
theorem calm_openD {G : Geo} {D : Dev} (h : Calm D) (j q t id : Nat) : Calm (openD G D j q t id).2 := by
  have h1 : Calm (openE G D j).2 := by
    unfold openE
    split
    · exact h
    · exact calm_erase h _
  have h2 : Calm (openH G D j q t id).2 := by
    unfold openH
    split
    · exact calm_prog h1 _ _
    · exact h1
  unfold openD
  split
  · exact calm_prog h2 _ _
  · exact h2
theorem calm_openL {G : Geo} {D : Dev} (h : Calm D) (S : LogS) (t : Nat) : Calm (openL G D S t).2.1 := by
  unfold openL
  split
  · exact h
  · exact calm_openD h _ _ _ _
theorem calm_placeL {G : Geo} {D : Dev} (h : Calm D) (L : LogP) : Calm (placeL G D L).2.1 := by
  unfold placeL growL
  split
  · split
    · exact calm_openL h _ _
    · exact h
  · exact h
theorem calm_putR {G : Geo} {D : Dev} (h : Calm D) (S : LogS) (e : Evt) : Calm (putR G D S e).2 := calm_prog h _ _
theorem calm_addL {G : Geo} {D : Dev} (h : Calm D) (L : LogP) (e : Evt) : Calm (addL G D L e).2.1 := by
  unfold addL
  split
  · exact h
  · split
    · exact h
    · split
      · exact calm_placeL h L
      · split
        · exact calm_putR (calm_placeL h L) _ _
        · exact calm_putR (calm_placeL h L) _ _
theorem calm_clearL {G : Geo} {D : Dev} (h : Calm D) (L : LogP) (r : Nat) : Calm (clearL G D L r).2.1 := by
  unfold clearL
  split
  · exact h
  · split
    · exact h
    · split
      · exact h
      · split
        · exact calm_openL h _ _
        · exact calm_openL h _ _
/-- What stands when the record is written; none: there is no room. -/
def baseS (G : Geo) (L : LogP) : Option LogS := if needG G L.s then (tailL G L).map (grownS L.s) else some L.s
theorem tailL_rng {G : Geo} {L : LogP} (n2 : 2 ≤ G.n) (h1 : L.s.tail ≤ L.s.newest) (h2 : 0 < L.s.newest → L.s.newest - L.s.tail ≤ G.n - 2) {t : Nat} (h : tailL G L = some t) : 1 ≤ t ∧ L.s.tail ≤ t ∧ t ≤ L.s.newest + 1 ∧ L.s.newest + 1 - t ≤ G.n - 2 := by
  unfold tailL at h
  split at h
  · split at h
    · injection h with h
      subst h
      refine ⟨by omega, by omega, ?_, ?_⟩
      · omega
      · rcases Nat.eq_zero_or_pos L.s.newest with h0 | h0
        · omega
        · have := h2 h0; omega
    · cases h
  · injection h with h
    subst h
    omega
structure PlaceSpec (G : Geo) (D : Dev) (L : LogP) (k : Int) (R : Int × Dev × LogP) : Prop where
  fit : Fits G R.2.1
  few : Few R.2.1 (k + 12)
  torn : R.2.1.torn = D.torn
  out : (R.1 = 0 ∧ R.2.1.down = false ∧ ∃ S0, baseS G L = some S0 ∧ R.2.2 = { L with s := S0 } ∧ S0 = openS (byt R.2.1) G ∧ 0 < S0.newest ∧ S0.used < G.slots) ∨
    (R.1 = 9 ∧ R.2.1 = D ∧ R.2.2 = { L with full := true } ∧ needG G L.s = true ∧ tailL G L = none) ∨
    (R.1 = 3 ∧ R.2.1 = D ∧ R.2.2 = L ∧ 2147483648 ≤ L.s.newest) ∨
    (R.1 = 10 ∧ R.2.1.down = true ∧ (openS (byt R.2.1) G = L.s ∨ ∃ S0, baseS G L = some S0 ∧ openS (byt R.2.1) G = S0))
theorem slots_pos {G : Geo} {D : Dev} (h : Fits G D) : 3 ≤ G.slots := by
  have := h.s64
  have := h.size
  unfold Geo.slots
  omega
theorem placeL_spec {G : Geo} {D : Dev} {L : LogP} (h : Fits G D) (hu : D.down = false) {k : Int} (hk : Few D k) (hs : L.s = openS (byt D) G) : PlaceSpec G D L k (placeL G D L) := by
  obtain ⟨f1, f2, f3, f4, f5, f6⟩ := openS_facts (byt D) G
  have hsl := slots_pos h
  rw [← hs] at f1 f2 f3 f4 f5 f6
  unfold placeL
  by_cases hn : needG G L.s = true
  · rw [if_pos hn]
    unfold growL
    cases ht : tailL G L with
    | none => exact ⟨h, hk.mono (by omega), rfl, .inr (.inl ⟨rfl, rfl, rfl, hn, ht⟩)⟩
    | some t =>
      obtain ⟨t1, t2, t3, t4⟩ := tailL_rng h.n2 f4 (fun h0 => (f5 h0).2) ht
      have hb : baseS G L = some (grownS L.s t) := by unfold baseS; rw [if_pos hn, ht]; rfl
      have ho := openL_spec h hu hk t1 (by rw [← hs]; exact t2) (by rw [← hs]; exact t3) (by rw [← hs]; exact t4)
      rw [← hs] at ho
      obtain ⟨o1, o2, o3, o4⟩ := ho
      refine ⟨o1, o2, o3, ?_⟩
      rcases o4 with ⟨c, d, e1, e2⟩ | ⟨c, d, e1, e2⟩ | ⟨c, d, e1, e2⟩
      · refine .inl ⟨c, d, _, hb, ?_, e2.symm, ?_, ?_⟩
        · show { L with s := (openL G D L.s t).2.2 } = _
          rw [e1]
        · show 0 < L.s.newest + 1
          omega
        · show 0 < G.slots
          omega
      · refine .inr (.inr (.inl ⟨c, d, ?_, e2⟩))
        show { L with s := (openL G D L.s t).2.2 } = L
        rw [e1]
      · refine .inr (.inr (.inr ⟨c, d, ?_⟩))
        rcases e2 with e2 | e2
        · exact .inl e2
        · exact .inr ⟨_, hb, e2⟩
  · rw [if_neg hn]
    have hb : baseS G L = some L.s := by unfold baseS; rw [if_neg hn]
    have hn' : L.s.newest ≠ 0 ∧ L.s.used ≠ G.slots := by
      unfold needG at hn
      simp only [Bool.or_eq_true, decide_eq_true_eq, not_or] at hn
      exact hn
    exact ⟨h, hk.mono (by omega), rfl, .inl ⟨rfl, hu, _, hb, rfl, hs, by omega, by omega⟩⟩
structure AddSpec (G : Geo) (D : Dev) (L : LogP) (e : Evt) (k : Int) (R : (Nat × Int) × Dev × LogP) : Prop where
  fit : Fits G R.2.1
  few : Few R.2.1 (k + 29)
  torn : R.2.1.torn = D.torn
  sync : Sync G R.2.1 R.2.2
  out : (R.1 = (L.s.next, 0) ∧ R.2.1.down = false ∧ ∃ S0, baseS G L = some S0 ∧ R.2.2 = { L with s := moreS S0 e }) ∨
    (R.1 = (0, 9) ∧ R.2.1 = D ∧ R.2.2 = { L with full := true } ∧ needG G L.s = true ∧ tailL G L = none) ∨
    (R.1 = (0, 3) ∧ R.2.1 = D ∧ R.2.2 = L ∧ 2147483648 ≤ L.s.newest) ∨
    (R.1 = (0, 10) ∧ R.2.1.down = true ∧ R.2.2 = endL ∧ (openS (byt R.2.1) G = L.s ∨ ∃ S0, baseS G L = some S0 ∧ (Like (openS (byt R.2.1) G) S0 ∨ openS (byt R.2.1) G = moreS S0 e)))
theorem base_next {G : Geo} {L : LogP} {S0 : LogS} (h : baseS G L = some S0) : S0.next = L.s.next := by
  unfold baseS at h
  split at h
  · cases ht : tailL G L with
    | none => rw [ht] at h; cases h
    | some t => rw [ht] at h; injection h with h; rw [← h]; rfl
  · injection h with h; rw [h]
theorem validE_withId {e : Evt} (h : validE e = true) {id : Nat} (hi : id ≤ 65534) : validE (withId e id) = true := by
  obtain ⟨h1, h2, h3⟩ := (validE_iff e).1 h
  refine (validE_iff _).2 ⟨?_, h2, h3⟩
  show id % 65536 ≤ 65534
  omega
theorem withId_id {e : Evt} {id : Nat} (hi : id ≤ 65534) : (withId e id).id.val = id := by
  show id % 65536 = id
  omega
theorem addL_spec {G : Geo} {D : Dev} {L : LogP} (h : Sync G D L) (he : L.ended = false) {k : Int} (hk : Few D k) {e : Evt} (hv : validE e = true) (hid : e.id.val = 0) : AddSpec G D L e k (addL G D L e) := by
  have hu := h.up he
  have hs := h.s he
  have hnx := next_rng (byt D) G
  rw [← hs] at hnx
  have hp := placeL_spec h.fit hu hk hs
  unfold addL
  rw [if_neg (by rw [he, hu]; decide), if_neg (by rw [hv, hid]; decide)]
  generalize placeL G D L = P at hp ⊢
  obtain ⟨p1, p2, p3, p4⟩ := hp
  rcases p4 with ⟨c, d, S0, hb, e1, e2, e3, e4⟩ | ⟨c, d, e1, e2, e3⟩ | ⟨c, d, e1, e2⟩ | ⟨c, d, e1⟩
  · have hn0 := base_next hb
    rw [if_neg (by rw [c]; decide)]
    have hps : P.2.2.s = S0 := by rw [e1]
    rw [hps]
    have hv' : validE (withId e S0.next) = true := validE_withId hv (by rw [hn0]; exact hnx.2)
    have hi' : (withId e S0.next).id.val = S0.next := withId_id (by rw [hn0]; exact hnx.2)
    have hput := putR_spec p1 d p2 (by rw [← e2]; exact e3) (by rw [← e2]; exact e4) (e := withId e S0.next) hv' (by rw [← e2]; exact hi')
    rw [← e2] at hput
    generalize putR G P.2.1 S0 (withId e S0.next) = R at hput ⊢
    obtain ⟨r1, r2, r3, r4⟩ := hput
    rcases r4 with ⟨c2, d2, o2⟩ | ⟨c2, d2, o2⟩
    · rw [if_neg (by rw [c2]; decide)]
      refine ⟨r1, r2.mono (by omega), r3.trans p3, ⟨r1, fun _ => d2, fun _ => ?_, fun hx => ?_⟩, .inl ⟨by rw [← hn0], d2, S0, hb, ?_⟩⟩
      · show moreS S0 e = _
        rw [o2]; rfl
      · exfalso
        have : P.2.2.ended = true := hx
        rw [e1] at this
        rw [he] at this
        cases this
      · show { P.2.2 with s := moreS S0 e } = _
        rw [e1]
    · rw [if_pos (by rw [c2]; decide)]
      have ho : orEnd R.2 P.2.2 = endL := by unfold orEnd; rw [if_pos d2]
      refine ⟨r1, r2.mono (by omega), r3.trans p3, ⟨r1, fun hx => ?_, fun hx => ?_, fun _ => ho⟩, .inr (.inr (.inr ⟨by rw [c2], d2, ho, .inr ⟨S0, hb, ?_⟩⟩))⟩
      · rw [show (((0, R.1), R.2, orEnd R.2 P.2.2) : (Nat × Int) × Dev × LogP).2.2 = endL from ho] at hx; cases hx
      · rw [show (((0, R.1), R.2, orEnd R.2 P.2.2) : (Nat × Int) × Dev × LogP).2.2 = endL from ho] at hx; cases hx
      · rcases o2 with o2 | o2
        · exact .inl o2
        · right
          rw [o2]; rfl
  · rw [if_pos (by rw [c]; decide)]
    have ho : orEnd P.2.1 P.2.2 = { L with full := true } := by unfold orEnd; rw [d, if_neg (by rw [hu]; decide), e1]
    refine ⟨p1, p2.mono (by omega), p3, ?_, .inr (.inl ⟨by rw [c], d, ho, e2, e3⟩)⟩
    show Sync G P.2.1 (orEnd P.2.1 P.2.2)
    rw [ho, d]
    exact ⟨h.fit, fun _ => hu, fun _ => hs, fun hx => by rw [show ({ L with full := true } : LogP).ended = L.ended from rfl, he] at hx; cases hx⟩
  · rw [if_pos (by rw [c]; decide)]
    have ho : orEnd P.2.1 P.2.2 = L := by unfold orEnd; rw [d, if_neg (by rw [hu]; decide), e1]
    refine ⟨p1, p2.mono (by omega), p3, ?_, .inr (.inr (.inl ⟨by rw [c], d, ho, e2⟩))⟩
    show Sync G P.2.1 (orEnd P.2.1 P.2.2)
    rw [ho, d]
    exact h
  · rw [if_pos (by rw [c]; decide)]
    have ho : orEnd P.2.1 P.2.2 = endL := by unfold orEnd; rw [if_pos d]
    refine ⟨p1, p2.mono (by omega), p3, ?_, .inr (.inr (.inr ⟨by rw [c], d, ho, ?_⟩))⟩
    · show Sync G P.2.1 (orEnd P.2.1 P.2.2)
      rw [ho]
      exact ⟨p1, fun hx => (by cases hx), fun hx => (by cases hx), fun _ => rfl⟩
    · rcases e1 with e1 | ⟨S0, hb, e1⟩
      · exact .inl e1
      · refine .inr ⟨S0, hb, .inl ?_⟩
        rw [e1]
        exact ⟨rfl, rfl, rfl, rfl⟩
/-- What is refused, and after the power is gone. -/
theorem addL_end {G : Geo} {D : Dev} {L : LogP} (he : L.ended = true ∨ D.down = true) (e : Evt) : addL G D L e = ((0, 10), D, endL) := by
  unfold addL
  rw [if_pos (by rcases he with h | h <;> rw [h] <;> simp)]
theorem addL_bad {G : Geo} {D : Dev} {L : LogP} (he : L.ended = false) (hd : D.down = false) {e : Evt} (hv : (validE e && decide (e.id.val = 0)) = false) : addL G D L e = ((0, 1), D, L) := by
  unfold addL
  rw [if_neg (by rw [he, hd]; decide), if_pos hv]
structure ClearSpec (G : Geo) (D : Dev) (L : LogP) (r : Nat) (k : Int) (R : Int × Dev × LogP) : Prop where
  fit : Fits G R.2.1
  few : Few R.2.1 (k + 12)
  torn : R.2.1.torn = D.torn
  sync : Sync G R.2.1 R.2.2
  out : (R.1 = 11 ∧ R.2.1 = D ∧ R.2.2 = L ∧ (L.held && decide (r = L.num)) = false) ∨
    ((L.held && decide (r = L.num)) = true ∧ ((R.1 = 0 ∧ R.2.1.down = false ∧ R.2.2 = { L with s := if L.s.recs = [] then L.s else grownS L.s (L.s.newest + 1), held := false, full := false }) ∨
      (R.1 = 3 ∧ R.2.1 = D ∧ R.2.2 = L ∧ 2147483648 ≤ L.s.newest) ∨
      (R.1 = 10 ∧ R.2.1.down = true ∧ R.2.2 = endL ∧ L.s.recs ≠ [] ∧ (openS (byt R.2.1) G = L.s ∨ openS (byt R.2.1) G = grownS L.s (L.s.newest + 1)))))
theorem clearL_spec {G : Geo} {D : Dev} {L : LogP} (h : Sync G D L) (he : L.ended = false) {k : Int} (hk : Few D k) (r : Nat) : ClearSpec G D L r k (clearL G D L r) := by
  have hu := h.up he
  have hs := h.s he
  obtain ⟨f1, f2, f3, f4, f5, f6⟩ := openS_facts (byt D) G
  rw [← hs] at f1 f2 f3 f4 f5 f6
  unfold clearL
  rw [if_neg (by rw [he, hu]; decide)]
  by_cases hr : (L.held && decide (r = L.num)) = false
  · rw [if_pos hr]
    exact ⟨h.fit, hk.mono (by omega), rfl, h, .inl ⟨rfl, rfl, rfl, hr⟩⟩
  · rw [if_neg hr]
    have hr' : (L.held && decide (r = L.num)) = true := by simpa using hr
    by_cases hn : L.s.recs = []
    · rw [if_pos hn]
      refine ⟨h.fit, hk.mono (by omega), rfl, ⟨h.fit, fun _ => hu, fun _ => hs, fun hx => ?_⟩, .inr ⟨hr', .inl ⟨rfl, hu, ?_⟩⟩⟩
      · have : L.ended = true := hx
        rw [he] at this; cases this
      · rw [if_pos hn]
    · rw [if_neg hn]
      have ho := openL_spec h.fit hu hk (t := L.s.newest + 1) (by omega) (by rw [← hs]; omega) (by rw [← hs]; omega) (by rw [← hs]; omega)
      rw [← hs] at ho
      generalize openL G D L.s (L.s.newest + 1) = O at ho ⊢
      obtain ⟨o1, o2, o3, o4⟩ := ho
      rcases o4 with ⟨c, d, e1, e2⟩ | ⟨c, d, e1, e2⟩ | ⟨c, d, e1, e2⟩
      · rw [if_neg (by rw [c]; decide)]
        refine ⟨o1, o2, o3, ⟨o1, fun _ => d, fun _ => ?_, fun hx => ?_⟩, .inr ⟨hr', .inl ⟨rfl, d, ?_⟩⟩⟩
        · show O.2.2 = _
          rw [e1, e2]
        · have : L.ended = true := hx
          rw [he] at this; cases this
        · rw [if_neg hn, e1]
      · rw [if_pos (by rw [c]; decide)]
        have hx : orEnd O.2.1 { L with s := O.2.2 } = L := by unfold orEnd; rw [d, if_neg (by rw [hu]; decide), e1]
        refine ⟨o1, o2, o3, ?_, .inr ⟨hr', .inr (.inl ⟨c, d, hx, e2⟩)⟩⟩
        show Sync G O.2.1 (orEnd O.2.1 { L with s := O.2.2 })
        rw [hx, d]; exact h
      · rw [if_pos (by rw [c]; decide)]
        have hx : orEnd O.2.1 { L with s := O.2.2 } = endL := by unfold orEnd; rw [if_pos d]
        refine ⟨o1, o2, o3, ?_, .inr ⟨hr', .inr (.inr ⟨c, d, hx, hn, e2⟩)⟩⟩
        show Sync G O.2.1 (orEnd O.2.1 { L with s := O.2.2 })
        rw [hx]
        exact ⟨o1, fun hx => (by cases hx), fun hx => (by cases hx), fun _ => rfl⟩
end Go.Proofs.Ytkdadnlleepkfaa

namespace Go.Proofs.Ytkdadnlleepkfaa
set_option linter.unusedVariables false

section
variable (K N : Nat) (ev : Nat → Evt)
def recJ (j : Nat) : Nat × Evt := (j / K + 1, withId (ev j) (j + 1))
/-- The records from a on to b. -/
def recsAB (a b : Nat) : List (Nat × Evt) := (List.range' a (b - a)).map (recJ K ev)
def fillQ (i : Nat) : Nat := (i + K - 1) / K
def fillT (i : Nat) : Nat := if i = 0 then 0 else max 1 (fillQ K i - (N - 2))
def fillU (i : Nat) : Nat := if i = 0 then 0 else i - K * (fillQ K i - 1)
/-- The log after i events. -/
def fillS (i : Nat) : LogS := ⟨fillQ K i, fillT K N i, fillU K i, i + 1, recsAB K ev ((fillT K N i - 1) * K) i⟩
end
variable {K N : Nat} {ev : Nat → Evt}
theorem recsAB_snoc {a i : Nat} (h : a ≤ i) : recsAB K ev a (i + 1) = recsAB K ev a i ++ [recJ K ev i] := by
  unfold recsAB
  rw [show i + 1 - a = (i - a) + 1 by omega, List.range'_concat, List.map_append]
  simp [show a + (i - a) = i by omega]
theorem recsAB_filter {a c b : Nat} {t : Nat} (hK : 0 < K) (hac : a ≤ c) (hcb : c ≤ b) (hc : c = (t - 1) * K) (ht : 1 ≤ t) : (recsAB K ev a b).filter (fun x => decide (t ≤ x.1)) = recsAB K ev c b := by
  have h0 : recsAB K ev a b = recsAB K ev a c ++ recsAB K ev c b := by
    unfold recsAB
    rw [← List.map_append]
    congr 1
    rw [show b - a = (c - a) + (b - c) by omega, ← List.range'_append_1]
    rw [show a + (c - a) = c by omega]
  have hmul : ∀ j, (t - 1) * K ≤ j ↔ t - 1 ≤ j / K := fun j => (Nat.le_div_iff_mul_le hK).symm
  have h1 : (recsAB K ev a c).filter (fun x => decide (t ≤ x.1)) = [] := by
    rw [List.filter_eq_nil_iff]
    intro x hx
    unfold recsAB at hx
    obtain ⟨j, hj, rfl⟩ := List.mem_map.1 hx
    rw [List.mem_range'_1] at hj
    have := hmul j
    show ¬ decide (t ≤ j / K + 1) = true
    simp
    omega
  have h2 : (recsAB K ev c b).filter (fun x => decide (t ≤ x.1)) = recsAB K ev c b := by
    rw [List.filter_eq_self]
    intro x hx
    unfold recsAB at hx
    obtain ⟨j, hj, rfl⟩ := List.mem_map.1 hx
    rw [List.mem_range'_1] at hj
    have := hmul j
    show decide (t ≤ j / K + 1) = true
    simp
    omega
  rw [h0, List.filter_append, h1, h2, List.nil_append]
theorem recsAB_nil {a b : Nat} (h : b ≤ a) : recsAB K ev a b = [] := by
  unfold recsAB
  rw [show b - a = 0 by omega]
  rfl
theorem recsAB_len (a b : Nat) : (recsAB K ev a b).length = b - a := by simp [recsAB]
theorem recsAB_get {a b i : Nat} (h : i < b - a) : (recsAB K ev a b)[i]? = some (recJ K ev (a + i)) := by
  simp [recsAB, h]
/-- The sector of the i-th event. -/
theorem fillQ_eq (hK : 0 < K) {a b : Nat} (hb : b < K) : fillQ K (K * a + b) = a + (if b = 0 then 0 else 1) := by
  unfold fillQ
  split
  · rename_i h0
    subst h0
    rw [show K * a + 0 + K - 1 = K * a + (K - 1) by omega, Nat.mul_add_div hK, Nat.div_eq_of_lt (by omega)]
  · rw [show K * a + b + K - 1 = K * (a + 1) + (b - 1) by rw [Nat.mul_add]; omega, Nat.mul_add_div hK, Nat.div_eq_of_lt (by omega)]
theorem behindN_add {i : Nat} (h : i + 1 ≤ 65533) : behindN (i + 1) = i + 2 := by
  unfold behindN
  rw [if_neg (by omega)]
/-- One more event. -/
theorem fill_step {G : Geo} {L : LogP} {i : Nat} (hN : 2 ≤ G.n) (hK : 1 ≤ G.slots) (hi : i + 1 ≤ 65533) (hs : L.s = fillS G.slots G.n ev i) (hr : L.over = true ∨ i < (G.n - 1) * G.slots) :
    ∃ S0, baseS G L = some S0 ∧ moreS S0 (ev i) = fillS G.slots G.n ev (i + 1) := by
  generalize hKK : G.slots = K at hK hs hr ⊢
  obtain ⟨a, b, hb, rfl⟩ : ∃ a b, b < K ∧ i = K * a + b := ⟨i / K, i % K, Nat.mod_lt _ hK, (Nat.div_add_mod i K).symm⟩
  have hq := fillQ_eq hK (a := a) hb
  by_cases h0 : b = 0
  · subst h0
    rw [if_pos rfl, Nat.add_zero, Nat.add_zero] at hq
    rw [Nat.add_zero] at hi hs hr ⊢
    have hq1 : fillQ K (K * a + 1) = a + 1 := by
      unfold fillQ
      rw [show K * a + 1 + K - 1 = K * (a + 1) by rw [Nat.mul_add]; omega, Nat.mul_div_cancel_left _ hK]
    have hlt : a < G.n - 1 ∨ L.over = true := by
      rcases hr with h | h
      · exact .inr h
      · left
        rw [Nat.mul_comm (G.n - 1)] at h
        exact Nat.lt_of_mul_lt_mul_left h
    have hnew : L.s.newest = a := by rw [hs]; exact hq
    have hnd : needG G L.s = true := by
      unfold needG
      rcases Nat.eq_zero_or_pos a with ha | ha
      · simp [hnew, ha]
      · have hu : L.s.used = K := by
          rw [hs]
          show fillU K (K * a) = K
          unfold fillU
          have : 0 < K * a := Nat.mul_pos hK ha
          rw [if_neg (by omega), hq]
          obtain ⟨c, rfl⟩ : ∃ c, a = c + 1 := ⟨a - 1, by omega⟩
          rw [show c + 1 - 1 = c by omega, Nat.mul_add]
          omega
        simp [hu, hKK]
    have htl : L.s.tail = fillT K G.n (K * a) := by rw [hs]; rfl
    have htv : max L.s.tail 1 = max 1 (a - (G.n - 2)) := by
      rw [htl]
      unfold fillT
      split
      · rename_i h
        have : a = 0 := by
          rcases Nat.mul_eq_zero.1 h with h | h <;> omega
        omega
      · rw [hq]; omega
    have hT : tailL G L = some (max 1 (a + 1 - (G.n - 2))) := by
      unfold tailL
      rw [htv, hnew]
      split
      · rcases hlt with h | h
        · omega
        · rw [h]
          rw [if_pos rfl]
          congr 1
          omega
      · congr 1
        omega
    refine ⟨grownS L.s (max 1 (a + 1 - (G.n - 2))), by unfold baseS; rw [if_pos hnd, hT]; rfl, ?_⟩
    have hT1 : fillT K G.n (K * a + 1) = max 1 (a + 1 - (G.n - 2)) := by
      unfold fillT
      rw [if_neg (by omega), hq1]
    generalize hm : max 1 (a + 1 - (G.n - 2)) = m at hT1
    have hm1 : 1 ≤ m := by omega
    have hma : m ≤ a + 1 := by omega
    have hmt : fillT K G.n (K * a) ≤ m := by
      rw [← htl]
      omega
    have hmk : (m - 1) * K ≤ K * a := by
      rw [Nat.mul_comm K a]
      exact Nat.mul_le_mul_right _ (by omega)
    have hrec : L.s.recs.filter (fun x => decide (m ≤ x.1)) = recsAB K ev ((m - 1) * K) (K * a) := by
      rw [hs]
      exact recsAB_filter hK (Nat.mul_le_mul_right _ (by omega)) hmk rfl hm1
    have hnx : L.s.next = K * a + 1 := by rw [hs]; rfl
    have hdiv : K * a / K = a := Nat.mul_div_cancel_left _ hK
    unfold moreS grownS fillS
    simp only [hnew, hnx, hrec, hq1, hT1, LogS.mk.injEq, true_and]
    refine ⟨?_, behindN_add hi, ?_⟩
    · unfold fillU
      rw [if_neg (by omega), hq1, show a + 1 - 1 = a by omega]
      omega
    · rw [recsAB_snoc hmk]
      unfold recJ
      rw [hdiv]
  · rw [if_neg h0] at hq
    have hq1 : fillQ K (K * a + b + 1) = a + 1 := by
      unfold fillQ
      rw [show K * a + b + 1 + K - 1 = K * (a + 1) + b by rw [Nat.mul_add]; omega, Nat.mul_add_div hK, Nat.div_eq_of_lt hb]
    have hu : fillU K (K * a + b) = b := by
      unfold fillU
      rw [if_neg (by omega), hq, show a + 1 - 1 = a by omega]
      omega
    have hnd : needG G L.s = false := by
      unfold needG
      rw [hs]
      have e1 : (fillS K G.n ev (K * a + b)).newest = a + 1 := hq
      have e2 : (fillS K G.n ev (K * a + b)).used = b := hu
      rw [e1, e2, hKK]
      simp
      omega
    have hT1 : fillT K G.n (K * a + b + 1) = fillT K G.n (K * a + b) := by
      unfold fillT
      rw [if_neg (by omega), if_neg (by omega), hq, hq1]
    have hdiv : (K * a + b) / K = a := by rw [Nat.mul_add_div hK, Nat.div_eq_of_lt hb]; omega
    have htk : (fillT K G.n (K * a + b) - 1) * K ≤ K * a + b := by
      have h1 : fillT K G.n (K * a + b) - 1 ≤ a := by
        unfold fillT
        rw [if_neg (by omega), hq]
        omega
      have := Nat.mul_le_mul_right K h1
      rw [Nat.mul_comm a K] at this
      omega
    refine ⟨L.s, by unfold baseS; rw [if_neg (by rw [hnd]; decide)], ?_⟩
    rw [hs]
    unfold moreS fillS
    simp only [hq, hq1, hT1, hu, LogS.mk.injEq, true_and]
    refine ⟨?_, behindN_add hi, ?_⟩
    · unfold fillU
      rw [if_neg (by omega), hq1, show a + 1 - 1 = a by omega]
      omega
    · rw [recsAB_snoc htk]
      unfold recJ
      rw [hdiv]
/-- No room. -/
theorem fill_full {G : Geo} {L : LogP} (hN : 2 ≤ G.n) (hK : 1 ≤ G.slots) (hs : L.s = fillS G.slots G.n ev ((G.n - 1) * G.slots)) (ho : L.over = false) : needG G L.s = true ∧ tailL G L = none := by
  generalize hKK : G.slots = K at hK hs ⊢
  have hq : fillQ K ((G.n - 1) * K) = G.n - 1 := by
    have := fillQ_eq hK (a := G.n - 1) (b := 0) hK
    rw [if_pos rfl, Nat.add_zero, Nat.add_zero, Nat.mul_comm] at this
    exact this
  have hpos : 0 < (G.n - 1) * K := Nat.mul_pos (by omega) hK
  have hu : fillU K ((G.n - 1) * K) = K := by
    unfold fillU
    rw [if_neg (by omega), hq]
    obtain ⟨c, hc⟩ : ∃ c, G.n - 1 = c + 1 := ⟨G.n - 2, by omega⟩
    rw [hc, show c + 1 - 1 = c by omega, Nat.mul_comm (c + 1), Nat.mul_add]
    omega
  have hT : fillT K G.n ((G.n - 1) * K) = 1 := by
    unfold fillT
    rw [if_neg (by omega), hq]
    omega
  have e1 : L.s.newest = G.n - 1 := by rw [hs]; exact hq
  have e2 : L.s.used = K := by rw [hs]; exact hu
  have e3 : L.s.tail = 1 := by rw [hs]; exact hT
  refine ⟨by unfold needG; simp [e2, hKK], ?_⟩
  unfold tailL
  rw [e1, e3, if_pos (by omega), ho]
  rfl
theorem fillS_zero : fillS K N ev 0 = ⟨(0 + K - 1) / K, 0, 0, 1, []⟩ := by
  unfold fillS fillQ fillT fillU
  simp [recsAB]
end Go.Proofs.Ytkdadnlleepkfaa
