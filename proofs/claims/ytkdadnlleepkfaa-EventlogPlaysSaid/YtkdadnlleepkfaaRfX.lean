/- Joined texts. Numbers of bytes, as the reference reads them: Number, Blank, Slots; contracts. | The reference's log over its device: where it lies, base, header; contracts. | The reference's header: contract. | The reference's newest: contract. | The reference's Valid and Decode of events: contracts. | The reference's slot: contract. | The reference's of: the records of a sector; contract. | The reference's Records: contract. | The reference's nextID and place: contracts. | The reference's place: contract. | The reference's Get: contract. | The reference's end, Reserve, Open: contracts. -/
import Derived.Test.YtkdadnlleepkfaaEventlogOrder
import Derived.Test.YtkdadnlleepkfaaReJ
import Derived.BigGuardPart
namespace Go.Proofs.Ytkdadnlleepkfaa
open Go.RowKit
set_option linter.unusedVariables false
set_option linter.unusedSimpArgs false
/-- The number of bytes, the least significant one first. -/
def numL : List Int → Int
  | [] => 0
  | b :: l => b + 256 * numL l
theorem numL_bd {A : List Int} (h : Bytes A) : 0 ≤ numL A ∧ numL A < 256 ^ A.length := by
  induction A with
  | nil => simp [numL]
  | cons b l ih =>
    have hb := h 0
    have := ih (fun i => h (i + 1))
    simp only [List.getD_cons_zero] at hb
    rw [show numL (b :: l) = b + 256 * numL l from rfl, List.length_cons, Int.pow_succ]
    omega
theorem drop_one {A : List Int} {k : Nat} (h : k < A.length) : A.drop k = A.getD k 0 :: A.drop (k + 1) := by
  rw [List.drop_eq_getElem_cons h, List.getD_eq_getElem?_getD, List.getElem?_eq_getElem h]; rfl
theorem bytes_drop {A : List Int} (h : Bytes A) (k : Nat) : Bytes (A.drop k) := fun i => by
  have := h (k + i)
  simpa [List.getD_eq_getElem?_getD, List.getElem?_drop] using this
theorem p256_lt : ∀ m : Nat, m < 8 → (256 : Int) ^ m ≤ 72057594037927936 := by decide
set_option maxRecDepth 100000 in
set_option maxHeartbeats 1000000 in
theorem rNumber_ok (w : World) (v : Value) (A : List Int) (hv : Rd w v (u8s A)) (hb : Bytes A) (hl8 : A.length ≤ 8) :
    Calls Try.prog 87 #[v] w fun e w' => e = .returned (.int .u64 (numL A)) ∧ w = w' := by
  have HV := Lib.hid hv
  have HB := Lib.hid hb
  obtain ⟨ad, cap, rfl, h1, h2, _⟩ := hv.u8
  have h3 : cap ≤ 9223372036854775807 := h2
  clear hv hb h2
  go_enter Try.func87, Try.ntmps87
  go_wp2_with fail
  go_loopw [3, 4] (fun s i wr => ∃ k : Nat, k ≤ A.length ∧ i = .int .i64 ((k : Int) - 1) ∧ s = .int .u64 (numL (A.drop k)) ∧ wr = w) (fun _ i _ => ((intOf i) + 1).toNat)
  case atStart => exact ⟨A.length, Nat.le_refl _, rfl, by rw [List.drop_length]; rfl, rfl⟩
  case round =>
    obtain ⟨k, hk, rfl, rfl, rfl⟩ := hrel
    by_cases hlt : 1 ≤ k
    · obtain ⟨j, rfl⟩ : ∃ j, k = j + 1 := ⟨k - 1, by omega⟩
      obtain ⟨_, _, he, _, _, hc⟩ := HV.out.u8
      obtain ⟨bb, off, rfl, xj⟩ := hc j (by omega)
      injection he with he1 he2 he3
      subst he1 he3
      clear hc he2
      have hbj := HB.out j
      have HST := Lib.hid (show numL (A.drop j) = A.getD j 0 + 256 * numL (A.drop (j + 1)) by rw [drop_one (A := A) (k := j) (by omega)]; rfl)
      have hsb : 0 ≤ numL (A.drop (j + 1)) ∧ numL (A.drop (j + 1)) ≤ 72057594037927935 := by
        have := numL_bd (bytes_drop HB.out (j + 1))
        have hle := p256_lt (A.drop (j + 1)).length (by simp; omega)
        omega
      generalize A.getD j 0 = y at xj hbj HST
      generalize numL (A.drop (j + 1)) = s at hsb HST ⊢
      obtain ⟨hs0, hs1⟩ := hsb
      obtain ⟨hy0, hy1⟩ := hbj
      have e1 : ((j + 1 : Nat) : Int) - 1 = (j : Int) := by omega
      rw [e1]
      have i1 : (0 : Int) ≤ (j : Int) := by omega
      have i2 : (j : Int) < (A.length : Int) := by omega
      go_wp2_with fail
      exact ⟨⟨j, by omega, rfl, by rw [HST.out]; go_num, by first | rfl | trivial⟩, by simp only [intOf]; omega⟩
    · have hk0 : k = 0 := by omega
      subst hk0
      rw [List.drop_zero]
      generalize hs : numL A = s
      have HSA := Lib.hid hs
      clear hs
      go_wp2_with fail
      go_ret
      exact ⟨by rw [HSA.out]; rfl, rfl⟩
theorem num2 {A : List Int} (hb : Bytes A) {a : Nat} (h : a + 2 ≤ A.length) : numL (subA A a 2) = (le2 (fun i => (A.getD i 0).toNat) a : Nat) := by
  have e : subA A a 2 = [A.getD a 0, A.getD (a + 1) 0] := by
    unfold subA
    rw [drop_one (A := A) (k := a) (by omega), drop_one (A := A) (k := a + 1) (by omega)]
    rfl
  have h0 := hb a
  have h1 := hb (a + 1)
  rw [e]
  unfold le2
  simp only [numL]
  omega
theorem num4 {A : List Int} (hb : Bytes A) {a : Nat} (h : a + 4 ≤ A.length) : numL (subA A a 4) = (le4 (fun i => (A.getD i 0).toNat) a : Nat) := by
  have e : subA A a 4 = [A.getD a 0, A.getD (a + 1) 0, A.getD (a + 2) 0, A.getD (a + 3) 0] := by
    unfold subA
    rw [drop_one (A := A) (k := a) (by omega), drop_one (A := A) (k := a + 1) (by omega), drop_one (A := A) (k := a + 1 + 1) (by omega), drop_one (A := A) (k := a + 1 + 1 + 1) (by omega)]
    rfl
  have h0 := hb a
  have h1 := hb (a + 1)
  have h2 := hb (a + 2)
  have h3 := hb (a + 3)
  rw [e]
  unfold le4
  simp only [numL]
  omega
set_option maxRecDepth 100000 in
set_option maxHeartbeats 1000000 in
theorem rBlank_ok (w : World) (v : Value) (A : List Int) (hv : Rd w v (u8s A)) (hb : Bytes A) :
    Calls Try.prog 91 #[v] w fun e w' => e = .returned (.bool (blankL A)) ∧ w = w' := by
  have HV := Lib.hid hv
  have HB := Lib.hid hb
  obtain ⟨ad, cap, rfl, h1, h2, _⟩ := hv.u8
  have h3 : cap ≤ 9223372036854775807 := h2
  clear hv hb h2
  go_enter Try.func91, Try.ntmps91
  go_wp2_with fail
  go_loopw [3] (fun i wr => ∃ k : Nat, k ≤ A.length ∧ i = .int .i64 (k : Nat) ∧ Hid (∀ j, j < k → A.getD j 0 = 255) ∧ wr = w) (fun i _ => A.length - (intOf i).toNat)
  case atStart => exact ⟨0, Nat.zero_le _, rfl, fun j hj => by omega, rfl⟩
  case round =>
    obtain ⟨k, hk, rfl, hA, rfl⟩ := hrel
    have i0 : (0 : Int) ≤ (k : Int) := by omega
    by_cases hlt : k < A.length
    · obtain ⟨_, _, he, _, _, hc⟩ := HV.out.u8
      obtain ⟨bb, off, rfl, xj⟩ := hc k (by omega)
      injection he with he1 he2 he3
      subst he1 he3
      clear hc he2
      have i1 : (k : Int) < (A.length : Int) := by omega
      by_cases h255 : A.getD k 0 = 255
      · rw [h255] at xj
        have HK1 := Lib.hid (show ∀ j, j < k + 1 → A.getD j 0 = 255 from fun j hj => by
          rcases Nat.lt_or_ge j k with h | h
          · exact hA.out j h
          · rw [show j = k by omega]; exact h255)
        clear h255 hA
        go_wp2_with fail
        go_roundw
        case rel => exact ⟨k + 1, by omega, by go_num, HK1, by first | rfl | trivial⟩
        case measure => simp [intOf]; omega
      · have HBL := Lib.hid (show blankL A = false from by
          unfold blankL
          rw [List.all_eq_false]
          refine ⟨A.getD k 0, ?_, by simpa using h255⟩
          rw [List.getD_eq_getElem?_getD, List.getElem?_eq_getElem hlt]; simp)
        have hne : ((A.getD k 0) != 255) = true := by simpa using h255
        generalize A.getD k 0 = y at xj hne
        clear h255 hA
        go_wp2_with fail
        go_ret
        exact ⟨by rw [HBL.out]; rfl, rfl⟩
    · have HBL := Lib.hid (show blankL A = true from by
        unfold blankL
        rw [List.all_eq_true]
        intro x hx
        obtain ⟨i, hi, rfl⟩ := List.mem_iff_getElem.1 hx
        have := hA.out i (by omega)
        rw [List.getD_eq_getElem?_getD, List.getElem?_eq_getElem hi] at this
        simpa using this)
      have i1 : ¬ (k : Int) < (A.length : Int) := by omega
      clear hA
      go_wp2_with fail
      go_ret
      exact ⟨by rw [HBL.out]; rfl, rfl⟩
set_option maxRecDepth 100000 in
theorem rSlots_ok (w : World) (m : Nat) (h1 : 11 ≤ m) (h2 : m ≤ 100000) : Calls Try.prog 88 #[.int .i64 (m : Nat)] w fun e w' => e = .returned (.int .i64 ((m - 11) / 17 : Nat)) ∧ w = w' := by
  obtain ⟨k, rfl⟩ : ∃ k, m = k + 11 := ⟨m - 11, by omega⟩
  rw [Nat.add_sub_cancel]
  have HE := Lib.hid (show ((k : Nat) : Int) / 17 = ((k / 17 : Nat) : Int) from by omega)
  have e1 : ((k + 11 : Nat) : Int) - 11 = ((k : Nat) : Int) := by omega
  have e2 : (0 : Int) ≤ ((k + 11 : Nat) : Int) := by omega
  have e3 : ((k + 11 : Nat) : Int) ≤ 100000 := by omega
  go_enter Try.func88, Try.ntmps88
  go_wp2_with fail
  go_ret
  exact ⟨by rw [← HE.out, ← e1]; rfl, rfl⟩
end Go.Proofs.Ytkdadnlleepkfaa

namespace Go.Proofs.Ytkdadnlleepkfaa
open Go.RowKit
set_option linter.unusedVariables false
set_option linter.unusedSimpArgs false
/-- The reference's log as plain data. -/
structure RLog where
  over : Bool
  refused : Bool
  last : Nat
  held : Bool
  ended : Bool
def rlCells (pb : Nat) (G : Geo) (R : RLog) : Array Value := #[.pointer (some ⟨pb, 0, none⟩), .int .i64 (G.first : Nat), .int .i64 (G.n : Nat), .bool R.over, .bool R.refused, .int .i64 (R.last : Nat), .bool R.held, .bool R.ended]
/-- The reference's log lies at rb, over the device at p. -/
structure RefAt (w : World) (rb : Nat) (p : DevAt) (G : Geo) (D : Dev) (R : RLog) : Prop where
  blk : w.heap[rb]? = some (.cells (rlCells p.b G R) 114 (0, 0))
  dev : IsDev w p D
  apart : rb ∉ p.foot
  fit : Fits G D
section
variable {w w' : World} {rb : Nat} {p : DevAt} {G : Geo} {D : Dev} {R : RLog}
theorem RefAt.mods {S : List Nat} (h : RefAt w rb p G D R) (M : Mods S w w') (hS : ∀ x ∈ rb :: p.foot, x ∉ S) : RefAt w' rb p G D R :=
  ⟨M.heap h.blk (hS _ (by simp)), h.dev.mods M (fun x hx => hS x (by simp [hx])), h.apart, h.fit⟩
theorem RefAt.mods0 (h : RefAt w rb p G D R) (M : Mods [] w w') : RefAt w' rb p G D R := h.mods M (fun _ _ => by simp)
theorem RefAt.drewN (h : RefAt w rb p G D R) (n : Nat) : RefAt (w.drewN n) rb p G D R := h.mods0 (Mods.refl.drewN n)
theorem RefAt.c0 (h : RefAt w rb p G D R) : w.cell? ⟨rb, 0, none⟩ = some (.pointer (some ⟨p.b, 0, none⟩)) := by rw [cell_blk h.blk]; rfl
theorem RefAt.c1 (h : RefAt w rb p G D R) : w.cell? ⟨rb, 1, none⟩ = some (.int .i64 (G.first : Nat)) := by rw [cell_blk h.blk]; rfl
theorem RefAt.c2 (h : RefAt w rb p G D R) : w.cell? ⟨rb, 2, none⟩ = some (.int .i64 (G.n : Nat)) := by rw [cell_blk h.blk]; rfl
theorem RefAt.c3 (h : RefAt w rb p G D R) : w.cell? ⟨rb, 3, none⟩ = some (.bool R.over) := by rw [cell_blk h.blk]; rfl
theorem RefAt.c4 (h : RefAt w rb p G D R) : w.cell? ⟨rb, 4, none⟩ = some (.bool R.refused) := by rw [cell_blk h.blk]; rfl
theorem RefAt.c5 (h : RefAt w rb p G D R) : w.cell? ⟨rb, 5, none⟩ = some (.int .i64 (R.last : Nat)) := by rw [cell_blk h.blk]; rfl
theorem RefAt.c6 (h : RefAt w rb p G D R) : w.cell? ⟨rb, 6, none⟩ = some (.bool R.held) := by rw [cell_blk h.blk]; rfl
theorem RefAt.c7 (h : RefAt w rb p G D R) : w.cell? ⟨rb, 7, none⟩ = some (.bool R.ended) := by rw [cell_blk h.blk]; rfl
theorem RefAt.d0 (h : RefAt w rb p G D R) : w.cell? ⟨p.b, 0, none⟩ = some (.int .i64 (G.size : Nat)) := by rw [h.dev.c0, h.fit.size]
theorem RefAt.d1 (h : RefAt w rb p G D R) : w.cell? ⟨p.b, 1, none⟩ = some (.slice (some ⟨p.g, 0, none⟩) D.data.length p.cb) := h.dev.c1
/-- A piece of the device's bytes. -/
theorem RefAt.sub (h : RefAt w rb p G D R) {a m cap : Nat} (hm : a + m ≤ D.data.length) (hc : m ≤ cap) (hM : cap ≤ 9223372036854775807) : Rd w (.slice (some ⟨p.g, a, none⟩) m cap) (u8s (subA D.data a m)) := by
  have := rd_sub (W := w) (bb := p.g) (off := 0) (cap := cap) (A := D.data) (a := a) (m := m) (fun i hi => by rw [Nat.zero_add]; exact h.dev.at hi) hm hc hM
  rwa [Nat.zero_add] at this
theorem RefAt.cap (h : RefAt w rb p G D R) : D.data.length ≤ p.cb ∧ p.cb ≤ 9223372036854775807 := by
  obtain ⟨_, _, _, h3, h4, _⟩ := h.dev.dat
  rw [u8s_length] at h3
  exact ⟨h3, h4⟩
theorem RefAt.geo (h : RefAt w rb p G D R) : G.first + G.n ≤ 16 ∧ 64 ≤ G.size ∧ G.size ≤ 1024 ∧ 2 ≤ G.n ∧ D.data.length ≤ 16384 := by
  have h1 := h.fit.sec
  have h2 := h.fit.ok.wl
  have h3 := h.fit.size
  have h4 := h.fit.s64
  have h5 := h.fit.ok.s1
  have h6 := h.fit.n2
  have h7 := h.fit.ok.len
  omega
end
theorem quietDrew {P : Program} {f : FuncId} {args : Array Value} {w : World} {n : Nat} {v : Value}
    (h : Calls P f args (w.drewN n) fun e w' => e = .returned v ∧ ∃ m, w' = (w.drewN n).drewN m) : Calls P f args (w.drewN n) fun e w'' => e = .returned v ∧ ∃ m, w'' = w.drewN m := Calls.quiet_of h
set_option maxRecDepth 100000 in
set_option maxHeartbeats 2000000 in
theorem rBase_ok (w : World) (rb : Nat) (p : DevAt) (G : Geo) (D : Dev) (R : RLog) (h : RefAt w rb p G D R) (j : Nat) (hj : j < G.n) :
    Calls Try.prog 73 #[.pointer (some ⟨rb, 0, none⟩), .int .i64 (j : Nat)] w fun e w' => e = .returned (.int .i64 (G.at j : Nat)) ∧ ∃ m, w' = w.drewN m := by
  obtain ⟨g1, g2, g3, g4, g5⟩ := h.geo
  have c0 := h.c0
  have c1 := h.c1
  have d0 := h.d0
  have HE := Lib.hid (show ((G.at j : Nat) : Int) = ((G.first : Int) + (j : Int)) * (G.size : Int) from by unfold Geo.at; simp [Int.natCast_mul])
  have b1 : (0 : Int) ≤ ((G.first : Nat) : Int) + ((j : Nat) : Int) := by omega
  have b2 : ((G.first : Nat) : Int) + ((j : Nat) : Int) ≤ 16 := by omega
  have b3 : ((G.size : Nat) : Int) ≤ 1024 := by omega
  have b4 : (0 : Int) ≤ ((G.size : Nat) : Int) := by omega
  have HM := Lib.hid (show IntKind.i64.wrap ((((G.first : Nat) : Int) + ((j : Nat) : Int)) * ((G.size : Nat) : Int)) = (((G.first : Nat) : Int) + ((j : Nat) : Int)) * ((G.size : Nat) : Int) from by
    have h1 : 0 ≤ (((G.first : Nat) : Int) + ((j : Nat) : Int)) * ((G.size : Nat) : Int) := Int.mul_nonneg b1 b4
    have h2 : (((G.first : Nat) : Int) + ((j : Nat) : Int)) * ((G.size : Nat) : Int) ≤ 16 * 1024 := Int.mul_le_mul b2 b3 b4 (by omega)
    exact IntWalk.i64_in _ (by omega))
  rw [HE.out]
  generalize ((G.first : Nat) : Int) = x at c1 HM b1 b2 ⊢
  generalize ((G.size : Nat) : Int) = z at d0 HM b3 b4 ⊢
  clear h g1 g2 g3 g4 g5 HE
  have hm := HM.out
  have b0 : (0 : Int) ≤ ((j : Nat) : Int) := by omega
  go_enter Try.func73, Try.ntmps73
  go_wp2_with fail
  go_quiet (fail)
  go_wp2_with fail
  go_ret
  exact ⟨rfl, _, rfl⟩
end Go.Proofs.Ytkdadnlleepkfaa

namespace Go.Proofs.Ytkdadnlleepkfaa
open Go.RowKit
set_option linter.unusedVariables false
set_option linter.unusedSimpArgs false
set_option maxRecDepth 100000
/-- The number and the tail of sector j; 0: its header is not valid. -/
def hdQ (b : Nat → Nat) (G : Geo) (j : Nat) : Nat × Nat := match hd b G j with | some h => (h.q, h.t) | none => (0, 0)
theorem hdQ_is (b : Nat → Nat) (G : Geo) (j : Nat) {x q t i : Nat} (hx : b (G.at j + 10) = x) (hq : le4 b (G.at j) = q) (ht : le4 b (G.at j + 4) = t) (hi : le2 b (G.at j + 8) = i) :
    hdQ b G j = if x = 0 ∧ okHd G.n j ⟨q, t, i⟩ then (q, t) else (0, 0) := by
  unfold hdQ hd rawHd
  rw [hx, hq, ht, hi]
  split
  · rename_i h e
    split at e
    · rename_i hc
      injection e with e
      rw [if_pos hc, ← e]
    · cases e
  · rename_i e
    split at e
    · cases e
    · rename_i hc
      rw [if_neg hc]
set_option maxRecDepth 100000 in
set_option maxHeartbeats 8000000 in
theorem rHeader_ok (w : World) (rb : Nat) (p : DevAt) (G : Geo) (D : Dev) (R : RLog) (h : RefAt w rb p G D R) (j : Nat) (hj : j < G.n) :
    Calls Try.prog 90 #[.pointer (some ⟨rb, 0, none⟩), .int .i64 (j : Nat)] w fun e w' => e = .returned (.tuple #[.int .i64 ((hdQ (byt D) G j).1 : Nat), .int .i64 ((hdQ (byt D) G j).2 : Nat)]) ∧ ∃ m, w' = w.drewN m := by
  obtain ⟨g1, g2, g3, g4, g5⟩ := h.geo
  obtain ⟨k1, k2⟩ := h.cap
  have hsec := h.fit.sect hj
  obtain ⟨a, ha⟩ : ∃ a, a = G.at j := ⟨_, rfl⟩
  have HB := Lib.hid (fun n => rBase_ok (w.drewN n) rb p G D R (h.drewN n) j hj)
  have HBY := Lib.hid h.fit.ok.byt
  rw [← ha] at hsec HB
  obtain ⟨c, hc⟩ : ∃ c, p.cb = a + c := ⟨p.cb - a, by omega⟩
  have HSB := Lib.hid (fun n o m (hom : o + m ≤ 11) => show Rd (w.drewN n) (.slice (some ⟨p.g, a + o, none⟩) m (c - o)) (u8s (subA D.data (a + o) m)) from (h.drewN n).sub (by omega) (by omega) (by omega))
  have x10 := (h.dev.at (i := a + 10) (by omega))
  have y10 := byt_int h.fit.ok (a + 10)
  obtain ⟨x, hx⟩ : ∃ x, x = byt D (a + 10) := ⟨_, rfl⟩
  obtain ⟨q, hq⟩ : ∃ q, q = le4 (byt D) a := ⟨_, rfl⟩
  obtain ⟨t, ht⟩ : ∃ t, t = le4 (byt D) (a + 4) := ⟨_, rfl⟩
  obtain ⟨i, hi⟩ : ∃ i, i = le2 (byt D) (a + 8) := ⟨_, rfl⟩
  have HQ := Lib.hid (hdQ_is (byt D) G j (x := x) (q := q) (t := t) (i := i) (by rw [hx, ha]) (by rw [hq, ha]) (by rw [ht, ha]) (by rw [hi, ha]))
  have hq32 : q < 4294967296 := by rw [hq]; unfold le4; have := byt_lt h.fit.ok a; have := byt_lt h.fit.ok (a + 1); have := byt_lt h.fit.ok (a + 2); have := byt_lt h.fit.ok (a + 3); omega
  have ht32 : t < 4294967296 := by rw [ht]; unfold le4; have := byt_lt h.fit.ok (a + 4); have := byt_lt h.fit.ok (a + 4 + 1); have := byt_lt h.fit.ok (a + 4 + 2); have := byt_lt h.fit.ok (a + 4 + 3); omega
  have hi16 : i < 65536 := by rw [hi]; unfold le2; have := byt_lt h.fit.ok (a + 8); have := byt_lt h.fit.ok (a + 8 + 1); omega
  have hx8 : x < 256 := by rw [hx]; exact byt_lt h.fit.ok _
  have HN1 := Lib.hid (fun n => show Calls Try.prog 87 #[.slice (some ⟨p.g, a, none⟩) 4 c] (w.drewN n) fun e w' => e = .returned (.int .u64 (q : Nat)) ∧ w.drewN n = w' from by
    have h1 := rNumber_ok (w.drewN n) _ _ (HSB.out n 0 4 (by omega)) (subA_bytes HBY.out) (by rw [subA_len (by omega)]; omega)
    rw [num4 HBY.out (by omega)] at h1
    rw [hq]
    exact h1)
  have HN2 := Lib.hid (fun n => show Calls Try.prog 87 #[.slice (some ⟨p.g, a + 4, none⟩) 4 (c - 4)] (w.drewN n) fun e w' => e = .returned (.int .u64 (t : Nat)) ∧ w.drewN n = w' from by
    have h1 := rNumber_ok (w.drewN n) _ _ (HSB.out n 4 4 (by omega)) (subA_bytes HBY.out) (by rw [subA_len (by omega)]; omega)
    rw [num4 HBY.out (by omega)] at h1
    rw [ht]
    exact h1)
  have HN3 := Lib.hid (fun n => show Calls Try.prog 87 #[.slice (some ⟨p.g, a + 8, none⟩) 2 (c - 8)] (w.drewN n) fun e w' => e = .returned (.int .u64 (i : Nat)) ∧ w.drewN n = w' from by
    have h1 := rNumber_ok (w.drewN n) _ _ (HSB.out n 8 2 (by omega)) (subA_bytes HBY.out) (by rw [subA_len (by omega)]; omega)
    rw [num2 HBY.out (by omega)] at h1
    rw [hi]
    exact h1)
  have c0 := h.c0
  have d1 := h.d1
  have HC2 := Lib.hid h.c2
  rw [y10, ← hx] at x10
  have HX10 := Lib.hid x10
  obtain ⟨n, hn⟩ : ∃ n, n = G.n := ⟨_, rfl⟩
  rw [← hn] at HC2 HQ hj g4 g1
  have n16 : n ≤ 16 := by omega
  generalize p.cb = pcb at d1 hc k1 k2
  subst hc
  have e1 : 11 ≤ c := by omega
  have e2 : ((a : Nat) : Int) + 11 ≤ ((a + c : Nat) : Int) := by omega
  have e3 : (0 : Int) ≤ ((a : Nat) : Int) := by omega
  have e4 : ((a : Nat) : Int) ≤ 16384 := by omega
  have e5 : ¬ c = 0 := by omega
  have e6 : a + 11 ≤ a + c := by omega
  clear hx hq ht hi y10 HSB h ha hn g1 g2 g3 g5 hsec x10
  go_enter Try.func90, Try.ntmps90
  go_wp2_with fail
  go_quiet ((go_at_call 73; exact Calls.quiet_of (HB.out _)))
  rw [Nat.add_sub_cancel_left]
  go_wp2_with fail
  refine (HN1.out _).mono ?_
  rintro e w' ⟨rfl, rfl⟩
  have v1 : ((q : Nat) : Int) < 4294967296 := by omega
  have v2 : (0 : Int) ≤ ((q : Nat) : Int) := by omega
  have v3 : ((t : Nat) : Int) < 4294967296 := by omega
  have v4 : (0 : Int) ≤ ((t : Nat) : Int) := by omega
  have v5 : ((i : Nat) : Int) < 65536 := by omega
  have v6 : (0 : Int) ≤ ((i : Nat) : Int) := by omega
  have v7 : ¬ c = 4 := by omega
  have v8 : ¬ c = 8 := by omega
  go_wp2_with fail
  refine (HN2.out _).mono ?_
  rintro e w' ⟨rfl, rfl⟩
  go_wp2_with fail
  refine (HN3.out _).mono ?_
  rintro e w' ⟨rfl, rfl⟩
  have x10 := (Mods.refl (S := [])).drewN nq |>.cell HX10.out (by simp)
  have c2 := (Mods.refl (S := [])).drewN nq |>.cell HC2.out (by simp)
  generalize hw3 : w.drewN nq = w3 at x10 c2 ⊢
  have HW3 := Lib.hid (show ∃ m, w3 = w.drewN m from ⟨nq, hw3.symm⟩)
  clear hw3 HN1 HN2 HN3 HB HX10 HC2 HBY hx8
  have z2 : (2 : Int) ≤ (n : Int) := by omega
  have z3 : (n : Int) ≤ 16 := by omega
  have z4 : ¬ (n : Int) = 0 := by omega
  by_cases a1 : x = 0
  rotate_left 1
  · have d1 : (((x : Nat) : Int) != 0) = true := by simpa using a1
    have HV := Lib.hid (show hdQ (byt D) G j = (0, 0) from by rw [HQ.out, if_neg (fun hc => a1 hc.1)])
    clear a1 HQ
    go_wp2_with fail
    go_ret2
    exact ⟨by rw [HV.out]; rfl, HW3.out⟩
  have d1 : (((x : Nat) : Int) != 0) = false := by simp [a1]
  by_cases a2 : 1 ≤ q
  rotate_left 1
  · have d2 : decide (((q : Nat) : Int) < 1) = true := decide_eq_true (by omega)
    have HV := Lib.hid (show hdQ (byt D) G j = (0, 0) from by rw [HQ.out, if_neg (fun hc => a2 hc.2.1)])
    clear a1 a2 HQ
    go_wp2_with fail
    go_ret2
    exact ⟨by rw [HV.out]; rfl, HW3.out⟩
  have d2 : decide (((q : Nat) : Int) < 1) = false := decide_eq_false (by omega)
  have b2 : (1 : Int) ≤ ((q : Nat) : Int) := by omega
  by_cases a3 : q ≤ 2147483648
  rotate_left 1
  · have d3 : decide ((2147483648 : Int) < ((q : Nat) : Int)) = true := decide_eq_true (by omega)
    have HV := Lib.hid (show hdQ (byt D) G j = (0, 0) from by rw [HQ.out, if_neg (fun hc => a3 hc.2.2.1)])
    clear a1 a2 a3 HQ
    go_wp2_with fail
    go_ret2
    exact ⟨by rw [HV.out]; rfl, HW3.out⟩
  have d3 : decide ((2147483648 : Int) < ((q : Nat) : Int)) = false := decide_eq_false (by omega)
  obtain ⟨r, hr⟩ : ∃ r, r = (q - 1) % n := ⟨_, rfl⟩
  have hT : (((q : Nat) : Int) - 1) % ((n : Nat) : Int) = ((r : Nat) : Int) := by rw [hr, Int.natCast_emod]; congr 1; omega
  have hT2 : (((q : Nat) : Int) - 1).tmod ((n : Nat) : Int) = ((r : Nat) : Int) := by rw [Int.tmod_eq_emod_of_nonneg (by omega)]; exact hT
  have HRR := Lib.hid hr
  clear hr
  by_cases a4 : r = j
  rotate_left 1
  · have d4 : (((r : Nat) : Int) != ((j : Nat) : Int)) = true := by simp; omega
    have HV := Lib.hid (show hdQ (byt D) G j = (0, 0) from by rw [HQ.out, if_neg (fun hc => a4 (HRR.out.trans hc.2.2.2.1))])
    clear a1 a2 a3 a4 HQ
    go_wp2_with fail
    go_ret2
    exact ⟨by rw [HV.out]; rfl, HW3.out⟩
  have d4 : (((r : Nat) : Int) != ((j : Nat) : Int)) = false := by simp [a4]
  by_cases a5 : 1 ≤ t
  rotate_left 1
  · have d5 : decide (((t : Nat) : Int) < 1) = true := decide_eq_true (by omega)
    have HV := Lib.hid (show hdQ (byt D) G j = (0, 0) from by rw [HQ.out, if_neg (fun hc => a5 hc.2.2.2.2.1)])
    clear a1 a2 a3 a4 a5 HQ
    go_wp2_with fail
    go_ret2
    exact ⟨by rw [HV.out]; rfl, HW3.out⟩
  have d5 : decide (((t : Nat) : Int) < 1) = false := decide_eq_false (by omega)
  by_cases a6 : t ≤ q
  rotate_left 1
  · have d6 : decide (((q : Nat) : Int) < ((t : Nat) : Int)) = true := decide_eq_true (by omega)
    have d6' : decide (q < t) = true := decide_eq_true (by omega)
    have HV := Lib.hid (show hdQ (byt D) G j = (0, 0) from by rw [HQ.out, if_neg (fun hc => a6 hc.2.2.2.2.2.1)])
    clear a1 a2 a3 a4 a5 a6 HQ
    go_wp2_with fail
    go_ret2
    exact ⟨by rw [HV.out]; rfl, HW3.out⟩
  have d6 : decide (((q : Nat) : Int) < ((t : Nat) : Int)) = false := decide_eq_false (by omega)
  have d6' : decide (q < t) = false := decide_eq_false (by omega)
  by_cases a7 : q - t ≤ n - 2
  rotate_left 1
  · have d7 : decide (((n : Nat) : Int) - 2 < ((q : Nat) : Int) - ((t : Nat) : Int)) = true := decide_eq_true (by omega)
    have HV := Lib.hid (show hdQ (byt D) G j = (0, 0) from by rw [HQ.out, if_neg (fun hc => a7 hc.2.2.2.2.2.2.1)])
    clear a1 a2 a3 a4 a5 a6 a7 HQ
    go_wp2_with fail
    go_ret2
    exact ⟨by rw [HV.out]; rfl, HW3.out⟩
  have d7 : decide (((n : Nat) : Int) - 2 < ((q : Nat) : Int) - ((t : Nat) : Int)) = false := decide_eq_false (by omega)
  by_cases a8 : 1 ≤ i
  rotate_left 1
  · have d8 : decide (((i : Nat) : Int) < 1) = true := decide_eq_true (by omega)
    have HV := Lib.hid (show hdQ (byt D) G j = (0, 0) from by rw [HQ.out, if_neg (fun hc => a8 hc.2.2.2.2.2.2.2.1)])
    clear a1 a2 a3 a4 a5 a6 a7 a8 HQ
    go_wp2_with fail
    go_ret2
    exact ⟨by rw [HV.out]; rfl, HW3.out⟩
  have d8 : decide (((i : Nat) : Int) < 1) = false := decide_eq_false (by omega)
  by_cases a9 : i ≤ 65534
  rotate_left 1
  · have d9 : decide ((65534 : Int) < ((i : Nat) : Int)) = true := decide_eq_true (by omega)
    have HV := Lib.hid (show hdQ (byt D) G j = (0, 0) from by rw [HQ.out, if_neg (fun hc => a9 hc.2.2.2.2.2.2.2.2)])
    clear a1 a2 a3 a4 a5 a6 a7 a8 a9 HQ
    go_wp2_with fail
    go_ret2
    exact ⟨by rw [HV.out]; rfl, HW3.out⟩
  have d9 : decide ((65534 : Int) < ((i : Nat) : Int)) = false := decide_eq_false (by omega)
  have HV := Lib.hid (show hdQ (byt D) G j = (q, t) from by rw [HQ.out, if_pos ⟨a1, a2, a3, HRR.out.symm.trans a4, a5, a6, a7, a8, a9⟩])
  clear a1 a2 a3 a4 a5 a6 a7 a8 a9 HQ
  go_wp2_with fail
  go_ret2
  exact ⟨by rw [HV.out]; rfl, HW3.out⟩
end Go.Proofs.Ytkdadnlleepkfaa

namespace Go.Proofs.Ytkdadnlleepkfaa
open Go.RowKit
set_option linter.unusedVariables false
set_option linter.unusedSimpArgs false
set_option maxRecDepth 100000
theorem newK_step (b : Nat → Nat) (G : Geo) (k : Nat) : newK b G (k + 1) = if (newK b G k).1 < (hdQ b G k).1 then hdQ b G k else newK b G k := by
  unfold hdQ
  cases e : hd b G k with
  | none => simp only [newK, e]; rw [if_neg (by simp)]
  | some h => simp only [newK, e]
set_option maxHeartbeats 2000000 in
theorem rNewest_ok (w : World) (rb : Nat) (p : DevAt) (G : Geo) (D : Dev) (R : RLog) (h : RefAt w rb p G D R) :
    Calls Try.prog 70 #[.pointer (some ⟨rb, 0, none⟩)] w fun e w' => e = .returned (.tuple #[.int .i64 ((newS (byt D) G).1 : Nat), .int .i64 ((newS (byt D) G).2 : Nat)]) ∧ ∃ m, w' = w.drewN m := by
  obtain ⟨g1, g2, g3, g4, g5⟩ := h.geo
  have H := Lib.hid h
  have HN := Lib.hid (show newS (byt D) G = newK (byt D) G G.n from rfl)
  have n16 : G.n ≤ 16 := by omega
  clear h g1 g2 g3 g5
  go_enter Try.func70, Try.ntmps70
  go_wp2_with fail
  go_loopw [4, 5, 6] (fun q t j wr => ∃ k : Nat, k ≤ G.n ∧ j = .int .i64 (k : Nat) ∧ q = .int .i64 ((newK (byt D) G k).1 : Nat) ∧ t = .int .i64 ((newK (byt D) G k).2 : Nat) ∧ ∃ m, wr = w.drewN m) (fun _ _ j _ => G.n - (intOf j).toNat)
  case atStart => exact ⟨0, Nat.zero_le _, rfl, rfl, rfl, 0, rfl⟩
  case round =>
    obtain ⟨k, hk, rfl, rfl, rfl, m, rfl⟩ := hrel
    have c2 := (H.out.drewN m).c2
    have k0 : (0 : Int) ≤ ((k : Nat) : Int) := by omega
    have k16 : ((k : Nat) : Int) ≤ 16 := by omega
    by_cases hlt : k < G.n
    · have i1 : ((k : Nat) : Int) < ((G.n : Nat) : Int) := by omega
      have HH := Lib.hid (rHeader_ok (w.drewN m) rb p G D R (H.out.drewN m) k hlt)
      have HS := Lib.hid (newK_step (byt D) G k)
      generalize newK (byt D) G k = x at HS ⊢
      generalize hdQ (byt D) G k = y at HH HS
      obtain ⟨x1, x2⟩ := x
      obtain ⟨y1, y2⟩ := y
      simp only at HH HS ⊢
      go_wp2_with fail
      refine HH.out.mono ?_
      rintro e w' ⟨rfl, m2, rfl⟩
      by_cases hxy : x1 < y1
      · have d1 : decide (((x1 : Nat) : Int) < ((y1 : Nat) : Int)) = true := decide_eq_true (by omega)
        have d2 : decide (x1 < y1) = true := decide_eq_true hxy
        have d3 : ((x1 : Nat) : Int) < ((y1 : Nat) : Int) := by omega
        have HS2 := Lib.hid (HS.out.trans (if_pos hxy))
        go_wp2_with fail
        go_roundw
        case rel => exact ⟨k + 1, by omega, by go_num, by rw [HS2.out], by rw [HS2.out], m + m2, by first | rfl | rw [World.drewN_drewN]⟩
        case measure => simp [intOf]; omega
      · have d1 : decide (((x1 : Nat) : Int) < ((y1 : Nat) : Int)) = false := decide_eq_false (by omega)
        have d2 : decide (x1 < y1) = false := decide_eq_false hxy
        have d3 : ¬ ((x1 : Nat) : Int) < ((y1 : Nat) : Int) := by omega
        have HS2 := Lib.hid (HS.out.trans (if_neg hxy))
        go_wp2_with fail
        go_roundw
        case rel => exact ⟨k + 1, by omega, by go_num, by rw [HS2.out], by rw [HS2.out], m + m2, by first | rfl | rw [World.drewN_drewN]⟩
        case measure => simp [intOf]; omega
    · have i1 : ¬ ((k : Nat) : Int) < ((G.n : Nat) : Int) := by omega
      have hkn : G.n = k := by omega
      rw [hkn] at HN
      generalize newK (byt D) G k = x at HN ⊢
      clear hkn
      go_wp2_with fail
      go_ret2
      exact ⟨by rw [HN.out]; rfl, m, rfl⟩
end Go.Proofs.Ytkdadnlleepkfaa

namespace Go.Proofs.Ytkdadnlleepkfaa
open Go.RowKit
set_option linter.unusedVariables false
set_option linter.unusedSimpArgs false
set_option maxRecDepth 100000
theorem rValid_ok (w : World) (e : Evt) :
    Calls Try.prog 67 #[.agg e.cells.toArray] w fun en w' => en = .returned (.bool (validE e)) ∧ Mods [] w w' := by
  have M0 := Lib.hid ((Mods.refl (S := []) (w := w)).alloc (.cells e.cells.toArray 37))
  have B0 := Lib.hid (EvBox.new w e)
  obtain ⟨c0, c1, _, _, _, c5, _⟩ := B0.out.cs
  have HV := Lib.hid (validE_iff e)
  generalize hv : validE e = r at HV ⊢
  clear hv
  by_cases h1 : e.id.val ≤ 65534
  · have d1 : decide ((e.id.val : Int) ≤ 65534) = true := decide_eq_true (by omega)
    by_cases h2 : e.time.val ≤ 4294967294
    · have d2 : decide ((e.time.val : Int) ≤ 4294967294) = true := decide_eq_true (by omega)
      by_cases h3 : e.typ.val ≤ 127
      · have d3 : decide ((e.typ.val : Int) ≤ 127) = true := decide_eq_true (by omega)
        have HR := Lib.hid (HV.out.2 ⟨h1, h2, h3⟩)
        clear h1 h2 h3
        go_enter Try.func67, Try.ntmps67
        go_wp2_with fail
        go_ret
        exact ⟨ret_bool HR.out.symm, M0.out⟩
      · have d3 : decide ((e.typ.val : Int) ≤ 127) = false := decide_eq_false (by omega)
        have HR := Lib.hid (show r = false by cases r with | false => rfl | true => exact absurd (HV.out.1 rfl).2.2 h3)
        clear h1 h2 h3
        go_enter Try.func67, Try.ntmps67
        go_wp2_with fail
        go_ret
        exact ⟨ret_bool HR.out.symm, M0.out⟩
    · have d2 : decide ((e.time.val : Int) ≤ 4294967294) = false := decide_eq_false (by omega)
      have HR := Lib.hid (show r = false by cases r with | false => rfl | true => exact absurd (HV.out.1 rfl).2.1 h2)
      clear h1 h2
      go_enter Try.func67, Try.ntmps67
      go_wp2_with fail
      go_ret
      exact ⟨ret_bool HR.out.symm, M0.out⟩
  · have d1 : decide ((e.id.val : Int) ≤ 65534) = false := decide_eq_false (by omega)
    have HR := Lib.hid (show r = false by cases r with | false => rfl | true => exact absurd (HV.out.1 rfl).1 h1)
    clear h1
    go_enter Try.func67, Try.ntmps67
    go_wp2_with fail
    go_ret
    exact ⟨ret_bool HR.out.symm, M0.out⟩

theorem raw_ref (f : Nat → Nat) (hn : ∀ i, f i < 256) :
    (#[.int .u16 ((f 0 + 256 * f 1 : Nat) : Int), .int .u32 ((f 3 + 256 * f 4 + 65536 * f 5 + 16777216 * f 6 : Nat) : Int), .int .u16 ((f 7 + 256 * f 8 : Nat) : Int), .int .u8 (f 10 : Nat), .int .u8 (f 11 : Nat), .int .u8 ((f 12 % 128 : Nat) : Int), .bool (decide (128 ≤ f 12)), .int .u8 (f 13 : Nat), .int .u8 (f 14 : Nat), .int .u8 (f 15 : Nat)] : Array Value) = (rawEv f).cells.toArray := by
  have h0 := hn 0
  have h1 := hn 1
  have h3 := hn 3
  have h4 := hn 4
  have h5 := hn 5
  have h6 := hn 6
  have h7 := hn 7
  have h8 := hn 8
  have h10 := hn 10
  have h11 := hn 11
  have h12 := hn 12
  have h13 := hn 13
  have h14 := hn 14
  have h15 := hn 15
  have e1 : (f 0 + 256 * f 1) % 65536 = f 0 + 256 * f 1 := by omega
  have e2 : (f 3 + 256 * f 4 + 65536 * f 5 + 16777216 * f 6) % 4294967296 = f 3 + 256 * f 4 + 65536 * f 5 + 16777216 * f 6 := by omega
  have e3 : (f 7 + 256 * f 8) % 65536 = f 7 + 256 * f 8 := by omega
  have e4 : f 10 % 256 = f 10 := by omega
  have e5 : f 11 % 256 = f 11 := by omega
  have e6 : f 12 % 128 % 256 = f 12 % 128 := by omega
  have e7 : f 13 % 256 = f 13 := by omega
  have e8 : f 14 % 256 = f 14 := by omega
  have e9 : f 15 % 256 = f 15 := by omega
  unfold rawEv Evt.cells
  simp only [f16, f32, f8, e1, e2, e3, e4, e5, e6, e7, e8, e9]
set_option maxHeartbeats 8000000 in
theorem rDecode_ok (w : World) (v : Value) (A : List Int) (hv : Rd w v (u8s A)) (hb : Bytes A) (hl : A.length = 16) :
    Calls Try.prog 103 #[v] w fun e w' => DecE w (fun i => (A.getD i 0).toNat) e w' := by
  have HV := Lib.hid hv
  have HBY := Lib.hid hb
  have HL := Lib.hid hl
  obtain ⟨ad, cap, rfl, h1, h2, hc⟩ := hv.u8
  obtain ⟨bb, off, rfl, x0⟩ := hc 0 (by omega)
  have hx : ∀ i, i < 16 → w.cell? ⟨bb, off + i, none⟩ = some (.int .u8 ((A.getD i 0).toNat : Nat)) := fun i hi => by
    obtain ⟨b', o', he, hx⟩ := hc i (by omega)
    cases he
    have := hb i
    rw [hx, show ((A.getD i 0).toNat : Int) = A.getD i 0 by omega]
  have hn : ∀ i, (A.getD i 0).toNat < 256 := fun i => by have := hb i; omega
  rw [hl] at h1 ⊢
  clear hc hv hb hl x0
  generalize hf : (fun i => (A.getD i 0).toNat) = f
  have HFA := Lib.hid hf
  have hx : ∀ i, i < 16 → w.cell? ⟨bb, off + i, none⟩ = some (.int .u8 (f i : Nat)) := by rw [← hf]; exact hx
  have hn : ∀ i, f i < 256 := by rw [← hf]; exact hn
  clear hf
  have HX := Lib.hid hx
  have HN := Lib.hid hn
  clear hx hn
  have M0 := Lib.hid ((Mods.refl (S := []) (w := w)).alloc (.cells (zE).cells.toArray 37))
  have B0 := Lib.hid (EvBox.new w zE)
  have M0 : Hid (Mods [] w (w.alloc (.cells #[.int .u16 0, .int .u32 0, .int .u16 0, .int .u8 0, .int .u8 0, .int .u8 0, .bool false, .int .u8 0, .int .u8 0, .int .u8 0] 37))) := M0
  have B0 : Hid ((w.alloc (.cells #[.int .u16 0, .int .u32 0, .int .u16 0, .int .u8 0, .int .u8 0, .int .u8 0, .bool false, .int .u8 0, .int .u8 0, .int .u8 0] 37)).heap[w.heap.size]? = some (.cells #[.int .u16 0, .int .u32 0, .int .u16 0, .int .u8 0, .int .u8 0, .int .u8 0, .bool false, .int .u8 0, .int .u8 0, .int .u8 0] 37 (0, 0))) := B0
  have h2 : cap ≤ 9223372036854775807 := h2
  go_enter Try.func103, Try.ntmps103
  go_upto_region 1 with (fail)
  generalize w.alloc (.cells #[.int .u16 0, .int .u32 0, .int .u16 0, .int .u8 0, .int .u8 0, .int .u8 0, .bool false, .int .u8 0, .int .u8 0, .int .u8 0] 37) = w0 at B0 M0 ⊢
  generalize hg0 : w.heap.size = g0 at B0 ⊢
  have HG0 := Lib.hid (Nat.le_of_eq hg0)
  clear hg0
  have HSB := Lib.hid (fun W (M : Mods [] w0 W) o m (hom : o + m ≤ 16) => show Rd W (.slice (some ⟨bb, off + o, none⟩) m (cap - o)) (u8s (subA A o m)) from by
    have hr := (HV.out.mods0 (M0.out.trans M)).u8
    obtain ⟨_, _, he, _, _, hx⟩ := hr
    injection he with he1 he2 he3
    subst he1 he3
    refine rd_sub (fun i hi => ?_) (by rw [HL.out]; omega) (by omega) (by omega)
    obtain ⟨b', o', he, hx⟩ := hx i hi
    cases he
    exact hx)
  have HXM := Lib.hid (fun W (M : Mods [] w0 W) i (hi : i < 16) => M.cell (M0.out.cell (HX.out i hi) (by simp)) (by simp))
  have x2 := HXM.out w0 Mods.refl 2 (by omega)
  have x9 := HXM.out w0 Mods.refl 9 (by omega)
  have HNN := Lib.hid (fun W (M : Mods [] w0 W) => show
      Calls Try.prog 87 #[.slice (some ⟨bb, off, none⟩) 2 cap] W (fun e w' => e = .returned (.int .u64 ((f 0 + 256 * f 1 : Nat) : Int)) ∧ W = w') ∧
      Calls Try.prog 87 #[.slice (some ⟨bb, off + 3, none⟩) 4 (cap - 3)] W (fun e w' => e = .returned (.int .u64 ((f 3 + 256 * f 4 + 65536 * f 5 + 16777216 * f 6 : Nat) : Int)) ∧ W = w') ∧
      Calls Try.prog 87 #[.slice (some ⟨bb, off + 7, none⟩) 2 (cap - 7)] W (fun e w' => e = .returned (.int .u64 ((f 7 + 256 * f 8 : Nat) : Int)) ∧ W = w') from by
    have k1 := rNumber_ok W _ _ (HSB.out W M 0 2 (by omega)) (subA_bytes HBY.out) (by rw [subA_len (by rw [HL.out]; omega)]; omega)
    have k2 := rNumber_ok W _ _ (HSB.out W M 3 4 (by omega)) (subA_bytes HBY.out) (by rw [subA_len (by rw [HL.out]; omega)]; omega)
    have k3 := rNumber_ok W _ _ (HSB.out W M 7 2 (by omega)) (subA_bytes HBY.out) (by rw [subA_len (by rw [HL.out]; omega)]; omega)
    rw [num2 HBY.out (by rw [HL.out]; omega), HFA.out] at k1 k3
    rw [num4 HBY.out (by rw [HL.out]; omega), HFA.out] at k2
    exact ⟨k1, k2, k3⟩)
  by_cases hg : f 2 = 2 ∧ f 9 = 4
  · have d2 : (((f 2 : Nat) : Int) != 2) = false := by simp [hg.1]
    have d9 : (((f 9 : Nat) : Int) != 4) = false := by simp [hg.2]
    have HG := Lib.hid hg
    clear hg
    have hc3 : ¬ cap = 3 := by omega
    have ic2 : (2 : Int) ≤ ((cap : Nat) : Int) := by omega
    have ic7 : (7 : Int) ≤ ((cap : Nat) : Int) := by omega
    have ic9 : (9 : Int) ≤ ((cap : Nat) : Int) := by omega
    have hc7 : ¬ cap = 7 := by omega
    go_wp2_with fail
    try dsimp only [Act.put]
    clear x2 x9 d2 d9
    obtain ⟨n0, hn0⟩ : ∃ n0, n0 = f 0 + 256 * f 1 := ⟨_, rfl⟩
    obtain ⟨n3, hn3⟩ : ∃ n3, n3 = f 3 + 256 * f 4 + 65536 * f 5 + 16777216 * f 6 := ⟨_, rfl⟩
    obtain ⟨n7, hn7⟩ : ∃ n7, n7 = f 7 + 256 * f 8 := ⟨_, rfl⟩
    have HRF := Lib.hid (raw_ref f HN.out)
    have b0 : n0 < 65536 := by rw [hn0]; have := HN.out 0; have := HN.out 1; omega
    have b3 : n3 < 4294967296 := by rw [hn3]; have := HN.out 3; have := HN.out 4; have := HN.out 5; have := HN.out 6; omega
    have b7 : n7 < 65536 := by rw [hn7]; have := HN.out 7; have := HN.out 8; omega
    have c0 : IntKind.u16.wrap ((n0 : Nat) : Int) = ((n0 : Nat) : Int) := by rw [IntKind.wrap_u16]; omega
    have c3 : IntKind.u32.wrap ((n3 : Nat) : Int) = ((n3 : Nat) : Int) := by rw [IntKind.wrap_u32']; omega
    have c7 : IntKind.u16.wrap ((n7 : Nat) : Int) = ((n7 : Nat) : Int) := by rw [IntKind.wrap_u16]; omega
    rw [← hn0, ← hn3, ← hn7] at HRF
    simp only [← hn0, ← hn3, ← hn7] at HNN
    clear hn0 hn3 hn7 b0 b3 b7
    obtain ⟨n12, hn12⟩ : ∃ n12, n12 = f 12 % 128 := ⟨_, rfl⟩
    obtain ⟨d12, hd12⟩ : ∃ d12, d12 = decide (128 ≤ f 12) := ⟨_, rfl⟩
    have c12 : ((f 12 : Nat) : Int) % 128 = ((n12 : Nat) : Int) := by rw [hn12]; omega
    have c12t : ((f 12 : Nat) : Int).tmod 128 = ((n12 : Nat) : Int) := by rw [Int.tmod_eq_emod_of_nonneg (by omega)]; exact c12
    have c12d : decide ((128 : Int) ≤ ((f 12 : Nat) : Int)) = d12 := by rw [hd12, Bool.eq_iff_iff, decide_eq_true_eq, decide_eq_true_eq]; omega
    rw [← hn12, ← hd12] at HRF
    clear hn12 hd12
    refine heldStart (S := fun W => Mods [] w0 W) 39 rfl (by kernel_rfl) Mods.refl.drew (fun hHeld => ?_)
    refine takeD (i := 0) (d := 25) (v := ?_) rfl rfl (by kernel_rfl) (by kernel_rfl) (by kernel_rfl) (fun _ _ _ h => h) (Or.inl ⟨by rfl, ?_⟩) hHeld ?_
    rotate_left 1
    · (intro w hSw; (try dsimp only at hSw); go_simp; (try with_reducible rfl))
    simp only [List.setIfInBounds_toArray, List.set_cons_zero, List.set_cons_succ]
    refine takeD (i := 1) (d := 26) (v := ?_) rfl rfl (by kernel_rfl) (by kernel_rfl) (by kernel_rfl) (fun _ _ _ h => h) (Or.inl ⟨by rfl, ?_⟩) hHeld ?_
    rotate_left 1
    · (intro w hSw; (try dsimp only at hSw); go_simp; (try with_reducible rfl))
    simp only [List.setIfInBounds_toArray, List.set_cons_zero, List.set_cons_succ]
    refine takeD (i := 4) (d := 29) (v := ?_) rfl rfl (by kernel_rfl) (by kernel_rfl) (by kernel_rfl) (fun _ _ _ h => h) (Or.inl ⟨by rfl, ?_⟩) hHeld ?_
    rotate_left 1
    · (intro w hSw; (try dsimp only at hSw); go_simp; (try with_reducible rfl))
    simp only [List.setIfInBounds_toArray, List.set_cons_zero, List.set_cons_succ]
    refine takeD (i := 5) (d := 30) (v := ?_) rfl rfl (by kernel_rfl) (by kernel_rfl) (by kernel_rfl) (fun _ _ _ h => h) (Or.inl ⟨by rfl, ?_⟩) hHeld ?_
    rotate_left 1
    · (intro w hSw; (try dsimp only at hSw); go_simp; (try with_reducible rfl))
    simp only [List.setIfInBounds_toArray, List.set_cons_zero, List.set_cons_succ]
    refine takeD (i := 8) (d := 33) (v := ?_) rfl rfl (by kernel_rfl) (by kernel_rfl) (by kernel_rfl) (fun _ _ _ h => h) (Or.inl ⟨by rfl, ?_⟩) hHeld ?_
    rotate_left 1
    · (intro w hSw; (try dsimp only at hSw); go_simp; (try with_reducible rfl))
    simp only [List.setIfInBounds_toArray, List.set_cons_zero, List.set_cons_succ]
    refine takeD (i := 9) (d := 34) (v := ?_) rfl rfl (by kernel_rfl) (by kernel_rfl) (by kernel_rfl) (fun _ _ _ h => h) (Or.inl ⟨by rfl, ?_⟩) hHeld ?_
    rotate_left 1
    · (intro w hSw; (try dsimp only at hSw); go_simp; (try with_reducible rfl))
    simp only [List.setIfInBounds_toArray, List.set_cons_zero, List.set_cons_succ]
    refine takeD (i := 12) (d := 37) (v := ?_) rfl rfl (by kernel_rfl) (by kernel_rfl) (by kernel_rfl) (fun _ _ _ h => h) (Or.inl ⟨by rfl, ?_⟩) hHeld ?_
    rotate_left 1
    · (intro w hSw; (try dsimp only at hSw); go_simp; (try with_reducible rfl))
    simp only [List.setIfInBounds_toArray, List.set_cons_zero, List.set_cons_succ]
    refine takeD (i := 13) (d := 38) (v := ?_) rfl rfl (by kernel_rfl) (by kernel_rfl) (by kernel_rfl) (fun _ _ _ h => h) (Or.inl ⟨by rfl, ?_⟩) hHeld ?_
    rotate_left 1
    · (intro w hSw; (try dsimp only at hSw); go_simp; (try with_reducible rfl))
    simp only [List.setIfInBounds_toArray, List.set_cons_zero, List.set_cons_succ]
    refine takeD (i := 14) (d := 39) (v := .int .u8 (f 10 : Nat)) rfl rfl (by kernel_rfl) (by kernel_rfl) (by kernel_rfl) (fun _ _ _ h => h) (Or.inl ⟨by rfl, fun w hSw => ?_⟩) hHeld ?_
    · have cst := HXM.out w hSw 10 (by omega)
      try rw [Nat.add_zero] at cst
      go_simp
    simp only [List.setIfInBounds_toArray, List.set_cons_zero, List.set_cons_succ]
    refine takeD (i := 15) (d := 40) (v := ?_) rfl rfl (by kernel_rfl) (by kernel_rfl) (by kernel_rfl) (fun _ _ _ h => h) (Or.inl ⟨by rfl, ?_⟩) hHeld ?_
    rotate_left 1
    · (intro w hSw; (try dsimp only at hSw); go_simp; (try with_reducible rfl))
    simp only [List.setIfInBounds_toArray, List.set_cons_zero, List.set_cons_succ]
    refine takeD (i := 16) (d := 41) (v := ?_) rfl rfl (by kernel_rfl) (by kernel_rfl) (by kernel_rfl) (fun _ _ _ h => h) (Or.inl ⟨by rfl, ?_⟩) hHeld ?_
    rotate_left 1
    · (intro w hSw; (try dsimp only at hSw); go_simp; (try with_reducible rfl))
    simp only [List.setIfInBounds_toArray, List.set_cons_zero, List.set_cons_succ]
    refine takeD (i := 17) (d := 42) (v := .int .u8 (f 11 : Nat)) rfl rfl (by kernel_rfl) (by kernel_rfl) (by kernel_rfl) (fun _ _ _ h => h) (Or.inl ⟨by rfl, fun w hSw => ?_⟩) hHeld ?_
    · have cst := HXM.out w hSw 11 (by omega)
      try rw [Nat.add_zero] at cst
      go_simp
    simp only [List.setIfInBounds_toArray, List.set_cons_zero, List.set_cons_succ]
    refine takeD (i := 18) (d := 43) (v := ?_) rfl rfl (by kernel_rfl) (by kernel_rfl) (by kernel_rfl) (fun _ _ _ h => h) (Or.inl ⟨by rfl, ?_⟩) hHeld ?_
    rotate_left 1
    · (intro w hSw; (try dsimp only at hSw); go_simp; (try with_reducible rfl))
    simp only [List.setIfInBounds_toArray, List.set_cons_zero, List.set_cons_succ]
    refine takeD (i := 19) (d := 44) (v := ?_) rfl rfl (by kernel_rfl) (by kernel_rfl) (by kernel_rfl) (fun _ _ _ h => h) (Or.inl ⟨by rfl, ?_⟩) hHeld ?_
    rotate_left 1
    · (intro w hSw; (try dsimp only at hSw); go_simp; (try with_reducible rfl))
    simp only [List.setIfInBounds_toArray, List.set_cons_zero, List.set_cons_succ]
    refine takeD (i := 20) (d := 45) (v := .int .u8 (f 12 : Nat)) rfl rfl (by kernel_rfl) (by kernel_rfl) (by kernel_rfl) (fun _ _ _ h => h) (Or.inl ⟨by rfl, fun w hSw => ?_⟩) hHeld ?_
    · have cst := HXM.out w hSw 12 (by omega)
      try rw [Nat.add_zero] at cst
      go_simp
    simp only [List.setIfInBounds_toArray, List.set_cons_zero, List.set_cons_succ]
    refine takeD (i := 21) (d := 46) (v := .int .u8 (n12 : Nat)) rfl rfl (by kernel_rfl) (by kernel_rfl) (by kernel_rfl) (fun _ _ _ h => h) (Or.inl ⟨by rfl, fun w hSw => ?_⟩) hHeld ?_
    · (try dsimp only at hSw)
      go_simp
      try simp only [c12, c12t, c12d]
    simp only [List.setIfInBounds_toArray, List.set_cons_zero, List.set_cons_succ]
    refine takeD (i := 22) (d := 47) (v := ?_) rfl rfl (by kernel_rfl) (by kernel_rfl) (by kernel_rfl) (fun _ _ _ h => h) (Or.inl ⟨by rfl, ?_⟩) hHeld ?_
    rotate_left 1
    · (intro w hSw; (try dsimp only at hSw); go_simp; (try with_reducible rfl))
    simp only [List.setIfInBounds_toArray, List.set_cons_zero, List.set_cons_succ]
    refine takeD (i := 23) (d := 48) (v := ?_) rfl rfl (by kernel_rfl) (by kernel_rfl) (by kernel_rfl) (fun _ _ _ h => h) (Or.inl ⟨by rfl, ?_⟩) hHeld ?_
    rotate_left 1
    · (intro w hSw; (try dsimp only at hSw); go_simp; (try with_reducible rfl))
    simp only [List.setIfInBounds_toArray, List.set_cons_zero, List.set_cons_succ]
    refine takeD (i := 24) (d := 49) (v := .int .u8 (f 12 : Nat)) rfl rfl (by kernel_rfl) (by kernel_rfl) (by kernel_rfl) (fun _ _ _ h => h) (Or.inl ⟨by rfl, fun w hSw => ?_⟩) hHeld ?_
    · have cst := HXM.out w hSw 12 (by omega)
      try rw [Nat.add_zero] at cst
      go_simp
    simp only [List.setIfInBounds_toArray, List.set_cons_zero, List.set_cons_succ]
    refine takeD (i := 25) (d := 50) (v := .bool d12) rfl rfl (by kernel_rfl) (by kernel_rfl) (by kernel_rfl) (fun _ _ _ h => h) (Or.inl ⟨by rfl, fun w hSw => ?_⟩) hHeld ?_
    · (try dsimp only at hSw)
      go_simp
      try simp only [c12, c12t, c12d]
    simp only [List.setIfInBounds_toArray, List.set_cons_zero, List.set_cons_succ]
    refine takeD (i := 26) (d := 51) (v := ?_) rfl rfl (by kernel_rfl) (by kernel_rfl) (by kernel_rfl) (fun _ _ _ h => h) (Or.inl ⟨by rfl, ?_⟩) hHeld ?_
    rotate_left 1
    · (intro w hSw; (try dsimp only at hSw); go_simp; (try with_reducible rfl))
    simp only [List.setIfInBounds_toArray, List.set_cons_zero, List.set_cons_succ]
    refine takeD (i := 27) (d := 52) (v := ?_) rfl rfl (by kernel_rfl) (by kernel_rfl) (by kernel_rfl) (fun _ _ _ h => h) (Or.inl ⟨by rfl, ?_⟩) hHeld ?_
    rotate_left 1
    · (intro w hSw; (try dsimp only at hSw); go_simp; (try with_reducible rfl))
    simp only [List.setIfInBounds_toArray, List.set_cons_zero, List.set_cons_succ]
    refine takeD (i := 28) (d := 53) (v := .int .u8 (f 13 : Nat)) rfl rfl (by kernel_rfl) (by kernel_rfl) (by kernel_rfl) (fun _ _ _ h => h) (Or.inl ⟨by rfl, fun w hSw => ?_⟩) hHeld ?_
    · have cst := HXM.out w hSw 13 (by omega)
      try rw [Nat.add_zero] at cst
      go_simp
    simp only [List.setIfInBounds_toArray, List.set_cons_zero, List.set_cons_succ]
    refine takeD (i := 29) (d := 54) (v := ?_) rfl rfl (by kernel_rfl) (by kernel_rfl) (by kernel_rfl) (fun _ _ _ h => h) (Or.inl ⟨by rfl, ?_⟩) hHeld ?_
    rotate_left 1
    · (intro w hSw; (try dsimp only at hSw); go_simp; (try with_reducible rfl))
    simp only [List.setIfInBounds_toArray, List.set_cons_zero, List.set_cons_succ]
    refine takeD (i := 30) (d := 55) (v := ?_) rfl rfl (by kernel_rfl) (by kernel_rfl) (by kernel_rfl) (fun _ _ _ h => h) (Or.inl ⟨by rfl, ?_⟩) hHeld ?_
    rotate_left 1
    · (intro w hSw; (try dsimp only at hSw); go_simp; (try with_reducible rfl))
    simp only [List.setIfInBounds_toArray, List.set_cons_zero, List.set_cons_succ]
    refine takeD (i := 31) (d := 56) (v := .int .u8 (f 14 : Nat)) rfl rfl (by kernel_rfl) (by kernel_rfl) (by kernel_rfl) (fun _ _ _ h => h) (Or.inl ⟨by rfl, fun w hSw => ?_⟩) hHeld ?_
    · have cst := HXM.out w hSw 14 (by omega)
      try rw [Nat.add_zero] at cst
      go_simp
    simp only [List.setIfInBounds_toArray, List.set_cons_zero, List.set_cons_succ]
    refine takeD (i := 32) (d := 57) (v := ?_) rfl rfl (by kernel_rfl) (by kernel_rfl) (by kernel_rfl) (fun _ _ _ h => h) (Or.inl ⟨by rfl, ?_⟩) hHeld ?_
    rotate_left 1
    · (intro w hSw; (try dsimp only at hSw); go_simp; (try with_reducible rfl))
    simp only [List.setIfInBounds_toArray, List.set_cons_zero, List.set_cons_succ]
    refine takeD (i := 33) (d := 58) (v := ?_) rfl rfl (by kernel_rfl) (by kernel_rfl) (by kernel_rfl) (fun _ _ _ h => h) (Or.inl ⟨by rfl, ?_⟩) hHeld ?_
    rotate_left 1
    · (intro w hSw; (try dsimp only at hSw); go_simp; (try with_reducible rfl))
    simp only [List.setIfInBounds_toArray, List.set_cons_zero, List.set_cons_succ]
    refine takeD (i := 34) (d := 59) (v := .int .u8 (f 15 : Nat)) rfl rfl (by kernel_rfl) (by kernel_rfl) (by kernel_rfl) (fun _ _ _ h => h) (Or.inl ⟨by rfl, fun w hSw => ?_⟩) hHeld ?_
    · have cst := HXM.out w hSw 15 (by omega)
      try rw [Nat.add_zero] at cst
      go_simp
    simp only [List.setIfInBounds_toArray, List.set_cons_zero, List.set_cons_succ]
    refine takeD (i := 35) (d := 60) (v := ?_) rfl rfl (by kernel_rfl) (by kernel_rfl) (by kernel_rfl) (fun _ _ _ h => h) (Or.inl ⟨by rfl, ?_⟩) hHeld ?_
    rotate_left 1
    · (intro w hSw; (try dsimp only at hSw); go_simp; (try with_reducible rfl))
    simp only [List.setIfInBounds_toArray, List.set_cons_zero, List.set_cons_succ]
    refine (bothV_step (T := 37) (z := #[.int .u16 0, .int .u32 0, .int .u16 0, .int .u8 0, .int .u8 0, .int .u8 0, .bool false, .int .u8 0, .int .u8 0, .int .u8 0]) (vA := fun g => .pointer (some ⟨g, 0, none⟩)) (iA := 37) (dA := 4) (df := []) (B := w0.heap.size) rfl rfl rfl (fun _ _ _ => rfl) hHeld.size (i := 2) (d := 27) rfl (by decide) (by decide) (by kernel_rfl) (by kernel_rfl) (fun W M => hHeld.comp0 M) (J := fun u W => u = (.int .u64 (n0 : Nat)) ∧ Mods [] w0 W) (fun _ _ h => h.2) ?_ ?_).1
    · intro W t' M ht K F hK
      have HC := Lib.hid ((HNN.out W (hHeld.comp0 M)).1)
      have MW := Lib.hid (hHeld.comp0 M)
      rcases ht with rfl | ⟨x, rfl⟩
      all_goals
        go_simp
        go_wp2_with (go_at_call 87; refine HC.out.mono ?_; rintro e W' ⟨rfl, rfl⟩)
        exact hK _ W ⟨rfl, MW.out⟩ (fun g hg => hg)
    rintro _ W2 ⟨rfl, hHeld⟩
    simp only [List.setIfInBounds_toArray, List.set_cons_zero, List.set_cons_succ]
    refine bothV_take (i := 3) (d := 28) (v := (.int .u16 (n0 : Nat))) rfl rfl (by decide) (by decide) (by kernel_rfl) (by kernel_rfl) (by kernel_rfl) (by kernel_rfl) (by kernel_rfl) (fun _ _ _ h => h) (fun t' ht => ?_) hHeld ?_
    · rcases ht with rfl | ⟨x, rfl⟩
      all_goals
        refine Or.inl ⟨by rfl, fun w hSw => ?_⟩
        go_simp
        try simp only [c0, c3, c7]
    simp only [List.setIfInBounds_toArray, List.set_cons_zero, List.set_cons_succ]
    refine (bothV_step (T := 37) (z := #[.int .u16 0, .int .u32 0, .int .u16 0, .int .u8 0, .int .u8 0, .int .u8 0, .bool false, .int .u8 0, .int .u8 0, .int .u8 0]) (vA := fun g => .pointer (some ⟨g, 0, none⟩)) (iA := 37) (dA := 4) (df := []) (B := w0.heap.size) rfl rfl rfl (fun _ _ _ => rfl) hHeld.size (i := 6) (d := 31) rfl (by decide) (by decide) (by kernel_rfl) (by kernel_rfl) (fun W M => hHeld.comp0 M) (J := fun u W => u = (.int .u64 (n3 : Nat)) ∧ Mods [] w0 W) (fun _ _ h => h.2) ?_ ?_)
    · intro W t' M ht K F hK
      have HC := Lib.hid ((HNN.out W (hHeld.comp0 M)).2.1)
      have MW := Lib.hid (hHeld.comp0 M)
      rcases ht with rfl | ⟨x, rfl⟩
      all_goals
        go_simp
        go_wp2_with (go_at_call 87; refine HC.out.mono ?_; rintro e W' ⟨rfl, rfl⟩)
        exact hK _ W ⟨rfl, MW.out⟩ (fun g hg => hg)
    rintro _ W6 ⟨rfl, hHeld⟩
    simp only [List.setIfInBounds_toArray, List.set_cons_zero, List.set_cons_succ]
    refine bothV_take (i := 7) (d := 32) (v := (.int .u32 (n3 : Nat))) rfl rfl (by decide) (by decide) (by kernel_rfl) (by kernel_rfl) (by kernel_rfl) (by kernel_rfl) (by kernel_rfl) (fun _ _ _ h => h) (fun t' ht => ?_) hHeld ?_
    · rcases ht with rfl | ⟨x, rfl⟩
      all_goals
        refine Or.inl ⟨by rfl, fun w hSw => ?_⟩
        go_simp
        try simp only [c0, c3, c7]
    simp only [List.setIfInBounds_toArray, List.set_cons_zero, List.set_cons_succ]
    refine (bothV_step (T := 37) (z := #[.int .u16 0, .int .u32 0, .int .u16 0, .int .u8 0, .int .u8 0, .int .u8 0, .bool false, .int .u8 0, .int .u8 0, .int .u8 0]) (vA := fun g => .pointer (some ⟨g, 0, none⟩)) (iA := 37) (dA := 4) (df := []) (B := w0.heap.size) rfl rfl rfl (fun _ _ _ => rfl) hHeld.size (i := 10) (d := 35) rfl (by decide) (by decide) (by kernel_rfl) (by kernel_rfl) (fun W M => hHeld.comp0 M) (J := fun u W => u = (.int .u64 (n7 : Nat)) ∧ Mods [] w0 W) (fun _ _ h => h.2) ?_ ?_)
    · intro W t' M ht K F hK
      have HC := Lib.hid ((HNN.out W (hHeld.comp0 M)).2.2)
      have MW := Lib.hid (hHeld.comp0 M)
      rcases ht with rfl | ⟨x, rfl⟩
      all_goals
        go_simp
        go_wp2_with (go_at_call 87; refine HC.out.mono ?_; rintro e W' ⟨rfl, rfl⟩)
        exact hK _ W ⟨rfl, MW.out⟩ (fun g hg => hg)
    rintro _ W10 ⟨rfl, hHeld⟩
    simp only [List.setIfInBounds_toArray, List.set_cons_zero, List.set_cons_succ]
    refine bothV_take (i := 11) (d := 36) (v := (.int .u16 (n7 : Nat))) rfl rfl (by decide) (by decide) (by kernel_rfl) (by kernel_rfl) (by kernel_rfl) (by kernel_rfl) (by kernel_rfl) (fun _ _ _ h => h) (fun t' ht => ?_) hHeld ?_
    · rcases ht with rfl | ⟨x, rfl⟩
      all_goals
        refine Or.inl ⟨by rfl, fun w hSw => ?_⟩
        go_simp
        try simp only [c0, c3, c7]
    simp only [List.setIfInBounds_toArray, List.set_cons_zero, List.set_cons_succ]
    refine bothV_take (i := 36) (d := 61) (v := (.agg #[.int .u16 (n0 : Nat), .int .u32 (n3 : Nat), .int .u16 (n7 : Nat), .int .u8 (f 10 : Nat), .int .u8 (f 11 : Nat), .int .u8 (n12 : Nat), .bool d12, .int .u8 (f 13 : Nat), .int .u8 (f 14 : Nat), .int .u8 (f 15 : Nat)])) rfl rfl (by decide) (by decide) (by kernel_rfl) (by kernel_rfl) (by kernel_rfl) (by kernel_rfl) (by kernel_rfl) (fun _ _ _ h => h) (fun t' ht => ?_) hHeld ?_
    · rcases ht with rfl | ⟨x, rfl⟩
      all_goals
        refine Or.inl ⟨by rfl, fun w hSw => ?_⟩
        go_simp
        try rfl
    simp only [List.setIfInBounds_toArray, List.set_cons_zero, List.set_cons_succ]
    refine bothV_last (T := 37) (z := #[.int .u16 0, .int .u32 0, .int .u16 0, .int .u8 0, .int .u8 0, .int .u8 0, .bool false, .int .u8 0, .int .u8 0, .int .u8 0]) (vA := fun g => .pointer (some ⟨g, 0, none⟩)) (iA := 37) (dA := 4) (df := []) (B := w0.heap.size) rfl rfl rfl (fun _ _ _ => rfl) hHeld.size (by kernel_rfl) (fun W M => hHeld.comp0 M) (fun W4 g M4 hgb hg => ?_)
    replace hHeld := hHeld.comp0 M4
    have HGG := Lib.hid (show w0.heap.size ≤ g from hgb)
    try dsimp only
    refine wpAnyH_ready (rs := [38]) (by kernel_rfl) (by simp) ?_
    refine AllReadyH.cons rfl (fun K hK => ?_) AllReadyH.nil
    refine exec_store (cs := #[.int .u16 (n0 : Nat), .int .u32 (n3 : Nat), .int .u16 (n7 : Nat), .int .u8 (f 10 : Nat), .int .u8 (f 11 : Nat), .int .u8 (n12 : Nat), .bool d12, .int .u8 (f 13 : Nat), .int .u8 (f 14 : Nat), .int .u8 (f 15 : Nat)]) rfl rfl rfl hg rfl rfl rfl Try.sizeEv (by simp [Value.oneCell']) (fun w3 R3 M3 => ?_)
    have HM3 := Lib.hid (show Mods [] w0 w3 from hHeld.comp M3 (fun y hy => .inr (by simp at hy; omega)))
    rw [HRF.out] at R3
    have R3 : w3.heap[g]? = some (.cells (rawEv f).cells.toArray 37 (0, 0)) := R3
    have HR3 := Lib.hid R3
    clear hHeld
    refine hK.out _ _ HM3.out (fun hHeld => ?_)
    clear hHeld hK K R3 M3 hg
    refine wpAnyH_done (by kernel_rfl) ?_ _
    have HB3 := Lib.hid (HM3.out.heap B0.out (by simp))
    have HD := Lib.hid (show decEv f = if validE (rawEv f) then some (rawEv f) else none from by unfold decEv; rw [if_pos HG.out])
    generalize rawEv f = X at HR3 HD
    clear HRF HNN c0 c3 c7 c12 c12t c12d
    go_wp2_with (refine wpList_load_row rfl 37 (.tmp 4) rfl g (by rfl) _ _ _ _ HR3.out Try.underlying37 rfl Try.sizeEv ?_)
    refine (rValid_ok w3 X).mono ?_
    rintro e w5 ⟨rfl, M5⟩
    have HM5 := Lib.hid (HM3.out.trans M5)
    have HB5 := Lib.hid (M5.heap HB3.out (by simp))
    have HR5 := Lib.hid (M5.heap HR3.out (by simp))
    clear M5
    generalize hv : validE X = r at HD ⊢
    clear hv
    cases r with
    | false =>
      go_wp2_with (refine wpList_store_row (cs := zE.cells.toArray) rfl 37 (.tmp 2) (.tmp 65) rfl HB5.out (by rfl) (by rfl) rfl Try.sizeEv (Evt.one zE) ?_; intro wz Rz Mz)
      refine bodyPost_ret (results_cell_row2 rfl _ _ g0 _ _ _ _ rfl Rz Try.underlying37 rfl Try.sizeEv) rfl ?_
      exact ⟨zE, 1, rfl, by rw [HD.out]; rfl, (M0.out.trans HM5.out).comp Mz (fun k hk => by simp at hk; subst hk; exact .inr HG0.out)⟩
    | true =>
      go_wp2_with (first
        | (refine wpList_load_row rfl 37 (.tmp 4) rfl g (by rfl) _ _ _ _ HR5.out Try.underlying37 rfl Try.sizeEv ?_)
        | (refine wpList_store_row (cs := X.cells.toArray) rfl 37 (.tmp 2) (.tmp 66) rfl HB5.out (by rfl) (by rfl) rfl Try.sizeEv (Evt.one X) ?_; intro wz Rz Mz))
      refine bodyPost_ret (results_cell_row2 rfl _ _ g0 _ _ _ _ rfl Rz Try.underlying37 rfl Try.sizeEv) rfl ?_
      exact ⟨X, 0, rfl, by rw [HD.out]; rfl, (M0.out.trans HM5.out).comp Mz (fun k hk => by simp at hk; subst hk; exact .inr HG0.out)⟩
  · have HD := Lib.hid (show decEv f = none from if_neg hg)
    by_cases h2' : f 2 = 2
    · have d2 : (((f 2 : Nat) : Int) != 2) = false := by simp [h2']
      have d9 : (((f 9 : Nat) : Int) != 4) = true := by
        have : f 9 ≠ 4 := fun h => hg ⟨h2', h⟩
        simp
        omega
      clear hg h2'
      go_wp2_with (refine wpList_store_row (cs := zE.cells.toArray) rfl 37 (.tmp 2) (.tmp 24) rfl B0.out (by rfl) (by rfl) rfl Try.sizeEv (Evt.one zE) ?_; intro wz Rz Mz)
      refine bodyPost_ret (results_cell_row2 rfl _ _ g0 _ _ _ _ rfl Rz Try.underlying37 rfl Try.sizeEv) rfl ?_
      exact ⟨zE, 6, rfl, by rw [HD.out]; rfl, M0.out.comp Mz (fun k hk => by simp at hk; subst hk; exact .inr HG0.out)⟩
    · have d2 : (((f 2 : Nat) : Int) != 2) = true := by
        simp
        omega
      clear hg h2'
      go_wp2_with (refine wpList_store_row (cs := zE.cells.toArray) rfl 37 (.tmp 2) (.tmp 24) rfl B0.out (by rfl) (by rfl) rfl Try.sizeEv (Evt.one zE) ?_; intro wz Rz Mz)
      refine bodyPost_ret (results_cell_row2 rfl _ _ g0 _ _ _ _ rfl Rz Try.underlying37 rfl Try.sizeEv) rfl ?_
      exact ⟨zE, 6, rfl, by rw [HD.out]; rfl, M0.out.comp Mz (fun k hk => by simp at hk; subst hk; exact .inr HG0.out)⟩
end Go.Proofs.Ytkdadnlleepkfaa

namespace Go.Proofs.Ytkdadnlleepkfaa
open Go.RowKit
set_option linter.unusedVariables false
set_option linter.unusedSimpArgs false
set_option maxRecDepth 100000
/-- What slot gives. -/
def SlotE (w : World) (b : Nat → Nat) (a : Nat) (e : Ending) (w' : World) : Prop :=
  ∃ (x : Evt) (ok : Bool), e = .returned (.tuple #[.agg x.cells.toArray, .bool ok, .bool (freeAt b a)]) ∧ (evAt b a = if ok then some x else none) ∧ Mods [] w w'
set_option maxHeartbeats 8000000 in
theorem rSlot_ok (w : World) (rb : Nat) (p : DevAt) (G : Geo) (D : Dev) (R : RLog) (h : RefAt w rb p G D R) (j i : Nat) (hj : j < G.n) (hi : i < G.slots) :
    Calls Try.prog 89 #[.pointer (some ⟨rb, 0, none⟩), .int .i64 (j : Nat), .int .i64 (i : Nat)] w fun e w' => SlotE w (byt D) (G.slot j i) e w' := by
  obtain ⟨g1, g2, g3, g4, g5⟩ := h.geo
  obtain ⟨k1, k2⟩ := h.cap
  have hsec := h.fit.sect hj
  have hsl := slot_in h.fit.geo hi j
  obtain ⟨a, ha⟩ : ∃ a, a = G.slot j i := ⟨_, rfl⟩
  have HE := Lib.hid (show ((G.at j : Nat) : Int) + 11 + 17 * ((i : Nat) : Int) = ((a : Nat) : Int) from by rw [ha]; unfold Geo.slot; omega)
  rw [← ha] at hsl ⊢
  obtain ⟨b, hb⟩ : ∃ b, b = G.at j := ⟨_, rfl⟩
  have HB := Lib.hid (fun W (M : Mods [] w W) => rBase_ok W rb p G D R (h.mods0 M) j hj)
  rw [← hb] at HB HE hsl hsec
  obtain ⟨c, hc⟩ : ∃ c, p.cb = a + c := ⟨p.cb - a, by omega⟩
  have HBY := Lib.hid h.fit.ok.byt
  have HSB := Lib.hid (fun W (M : Mods [] w W) m (hm : m ≤ 17) => show Rd W (.slice (some ⟨p.g, a, none⟩) m c) (u8s (subA D.data a m)) from (h.mods0 M).sub (by omega) (by omega) (by omega))
  have HLA := Lib.hid (show ∀ m, m ≤ 17 → (subA D.data a m).length = m from fun m hm => subA_len (by omega))
  have HBL := Lib.hid (show blankL (subA D.data a 17) = freeAt (byt D) a from blank_sub h.fit.ok.byt (by omega))
  have HC := Lib.hid (fun W (M : Mods [] w W) => And.intro (h.mods0 M).c0 (And.intro (h.mods0 M).d1 ((h.mods0 M).dev.at (i := a + 16) (by omega))))
  obtain ⟨x16, hx16⟩ : ∃ x16, x16 = byt D (a + 16) := ⟨_, rfl⟩
  rw [byt_int h.fit.ok (a + 16), ← hx16] at HC
  have HX16 := Lib.hid hx16
  have M0 := Lib.hid ((Mods.refl (S := []) (w := w)).alloc (.cells #[.int .u16 0, .int .u32 0, .int .u16 0, .int .u8 0, .int .u8 0, .int .u8 0, .bool false, .int .u8 0, .int .u8 0, .int .u8 0] 37))
  have B0 := Lib.hid (heap_alloc_new w (.cells #[.int .u16 0, .int .u32 0, .int .u16 0, .int .u8 0, .int .u8 0, .int .u8 0, .bool false, .int .u8 0, .int .u8 0, .int .u8 0] 37))
  have e1 : 17 ≤ c := by omega
  have e2 : ((a : Nat) : Int) + 17 ≤ ((a + c : Nat) : Int) := by omega
  have e3 : (0 : Int) ≤ ((a : Nat) : Int) := by omega
  have e4 : ((a : Nat) : Int) ≤ 16384 := by omega
  have e5 : ¬ c = 0 := by omega
  have e6 : a + 17 ≤ a + c := by omega
  have e7 : (0 : Int) ≤ ((b : Nat) : Int) := by omega
  have e8 : ((b : Nat) : Int) ≤ 16384 := by omega
  have e9 : (0 : Int) ≤ ((i : Nat) : Int) := by omega
  have e10 : ((i : Nat) : Int) ≤ 1000 := by have := hsl.2; have h1 := hi; unfold Geo.slots at h1; omega
  generalize p.cb = pcb at HC hc k1 k2
  subst hc
  clear hx16 h ha hb g1 g2 g3 g4 g5 hsec hsl hj hi
  go_enter Try.func89, Try.ntmps89
  go_upto_region 1 with (fail)
  generalize w.alloc (.cells #[.int .u16 0, .int .u32 0, .int .u16 0, .int .u8 0, .int .u8 0, .int .u8 0, .bool false, .int .u8 0, .int .u8 0, .int .u8 0] 37) = w0 at B0 M0 ⊢
  generalize hg0 : w.heap.size = g0 at B0 ⊢
  have HG0 := Lib.hid (Nat.le_of_eq hg0)
  clear hg0
  go_wp2_with fail
  refine (HB.out w0 M0.out).mono ?_
  rintro e w1 ⟨rfl, m1, rfl⟩
  have M1 := Lib.hid (M0.out.drewN m1)
  have B1 := Lib.hid (show (w0.drewN m1).heap[g0]? = some (.cells #[.int .u16 0, .int .u32 0, .int .u16 0, .int .u8 0, .int .u8 0, .int .u8 0, .bool false, .int .u8 0, .int .u8 0, .int .u8 0] 37 (0, 0)) from B0.out)
  generalize w0.drewN m1 = w1 at M1 B1 ⊢
  obtain ⟨c0, d1, d16⟩ := HC.out w1 M1.out
  clear M0 B0 HB
  go_upto_region 2 with (fail)
  rw [HE.out]
  go_upto_region 3 with (fail)
  rw [Nat.add_sub_cancel_left]
  have HBK := Lib.hid (rBlank_ok w1 _ _ (HSB.out w1 M1.out 17 (by omega)) (subA_bytes HBY.out))
  rw [HBL.out] at HBK
  by_cases hfr : freeAt (byt D) a = true
  · have HFR := Lib.hid hfr
    have HEV := Lib.hid (evAt_free hfr)
    rw [hfr] at HBK
    clear hfr
    go_wp2_with fail
    refine HBK.out.mono ?_
    rintro e w' ⟨rfl, rfl⟩
    go_wp2_with (refine wpList_store_row (cs := zE.cells.toArray) rfl 37 (.tmp 6) (.tmp 33) rfl B1.out (by rfl) (by rfl) rfl Try.sizeEv (Evt.one zE) ?_; intro wz Rz Mz)
    refine bodyPost_ret (results_cell_row3 rfl _ _ g0 _ _ _ _ rfl Rz Try.underlying37 rfl Try.sizeEv) rfl ?_
    exact ⟨zE, false, by rw [HFR.out]; rfl, HEV.out, M1.out.comp Mz (fun k hk => by simp at hk; subst hk; exact .inr HG0.out)⟩
  · have hfr : freeAt (byt D) a = false := by simpa using hfr
    have HFR := Lib.hid hfr
    rw [hfr] at HBK
    clear hfr
    by_cases h16 : x16 = 0
    · have hne : (((x16 : Nat) : Int) != 0) = false := by simp [h16]
      have h16' := HX16.out.symm.trans h16
      have H16 := Lib.hid h16'
      clear h16 h16'
      go_wp2_with fail
      refine HBK.out.mono ?_
      rintro e w' ⟨rfl, rfl⟩
      go_upto_region 7 with (fail)
      have HDE := Lib.hid (rDecode_ok w1 _ _ (HSB.out w1 M1.out 16 (by omega)) (subA_bytes HBY.out) (HLA.out 16 (by omega)))
      go_wp2_with fail
      refine HDE.out.mono ?_
      rintro e w2 ⟨x, er, rfl, hde, hm2⟩
      have hea := evAt_dec (f := byt D) (a := a) (A := D.data) rfl hde
      rw [H16.out] at hea
      have HEA := Lib.hid (show evAt (byt D) a = if er = 0 ∧ x.id.val ≠ 0 then some x else none from by rw [hea]; simp)
      have B2 := Lib.hid (hm2.heap B1.out (by simp))
      have M2 := Lib.hid (M1.out.trans hm2)
      clear hea hde hm2 HDE hne c0 d1 d16
      go_upto_region 8 with (refine wpList_store_row (cs := x.cells.toArray) rfl 37 (.tmp 11) (.tmp 43) rfl (heap_alloc_new w2 _) (by rfl) (by rfl) (by rfl) Try.sizeEv (Evt.one x) ?_; intro w3 R3 M3)
      have HF3 := Lib.hid (freshA M3)
      have HR3 := Lib.hid R3
      have HB3 := Lib.hid (HF3.out.heap B2.out (by simp))
      have HM3 := Lib.hid (M2.out.trans HF3.out)
      have HGN := Lib.hid (show w2.heap.size ∉ [g0] from fun h => by simp at h; have := lt_of_block B2.out; omega)
      clear R3 M3 HF3 B2 M2
      generalize w2.heap.size = g11 at HR3 HGN ⊢
      by_cases he : er = 0
      · subst he
        have q0 : ((0 : Int) == 0) = true := rfl
        by_cases hid : x.id.val = 0
        · have q1 : (((x.id.val : Nat) : Int) != 0) = false := by simp [hid]
          have HI := Lib.hid hid
          clear hid
          refine heldStart (S := fun W => Mods [g0] w3 W) 11 rfl (by kernel_rfl) Mods.refl.drew (fun hHeld => ?_)
          refine takeD (i := 0) (d := 45) (v := .agg x.cells.toArray) rfl rfl (by kernel_rfl) (by kernel_rfl) (by kernel_rfl) (fun _ _ _ h => h) (yieldsIf_load_row rfl 37 (.tmp 11) rfl g11 rfl 37 _ (0, 0) _ (fun W h => h.heap HR3.out HGN.out) Try.underlying37 rfl Try.sizeEv) hHeld ?_
          simp only [List.setIfInBounds_toArray, List.set_cons_zero, List.set_cons_succ]
          refine takeD (i := 1) (d := 46) (v := ?_) rfl rfl (by kernel_rfl) (by kernel_rfl) (by kernel_rfl) (fun _ _ _ h => h) (Or.inl ⟨by rfl, ?_⟩) hHeld ?_
          rotate_left 1
          · (intro w hSw; (try dsimp only at hSw); go_simp; (try with_reducible rfl))
          simp only [List.setIfInBounds_toArray, List.set_cons_zero, List.set_cons_succ]
          refine takeD (i := 2) (d := 47) (v := .bool true) rfl rfl (by kernel_rfl) (by kernel_rfl) (by kernel_rfl) (fun _ _ _ h => h) (Or.inl ⟨by rfl, fun w hSw => ?_⟩) hHeld ?_
          · (try dsimp only at hSw)
            go_simp
            try simp only [q0]
          simp only [List.setIfInBounds_toArray, List.set_cons_zero, List.set_cons_succ]
          refine takeD (i := 3) (d := 48) (v := ?_) rfl rfl (by kernel_rfl) (by kernel_rfl) (by kernel_rfl) (fun _ _ _ h => h) (Or.inl ⟨by rfl, ?_⟩) hHeld ?_
          rotate_left 1
          · (intro w hSw; (try dsimp only at hSw); go_simp; (try with_reducible rfl))
          simp only [List.setIfInBounds_toArray, List.set_cons_zero, List.set_cons_succ]
          refine takeD (i := 4) (d := 49) (v := ?_) rfl rfl (by kernel_rfl) (by kernel_rfl) (by kernel_rfl) (fun _ _ _ h => h) (Or.inl ⟨by rfl, ?_⟩) hHeld ?_
          rotate_left 1
          · (intro w hSw; (try dsimp only at hSw); go_simp; (try with_reducible rfl))
          simp only [List.setIfInBounds_toArray, List.set_cons_zero, List.set_cons_succ]
          refine takeD (i := 5) (d := 50) (v := (.int .u16 ((x.id.val : Nat) : Int))) rfl rfl (by kernel_rfl) (by kernel_rfl) (by kernel_rfl) (fun _ _ _ h => h) (Or.inl ⟨by rfl, fun w hSw => ?_⟩) hHeld ?_
          · have cst := (cell_blk (hSw.heap HR3.out HGN.out) 0).trans (show _ = some (.int .u16 ((x.id.val : Nat) : Int)) from rfl)
            go_simp
          simp only [List.setIfInBounds_toArray, List.set_cons_zero, List.set_cons_succ]
          refine takeD (i := 6) (d := 51) (v := .bool false) rfl rfl (by kernel_rfl) (by kernel_rfl) (by kernel_rfl) (fun _ _ _ h => h) (Or.inl ⟨by rfl, fun w hSw => ?_⟩) hHeld ?_
          · (try dsimp only at hSw)
            go_simp
            try simp only [q1]
          simp only [List.setIfInBounds_toArray, List.set_cons_zero, List.set_cons_succ]
          refine takeD (i := 7) (d := 52) (v := ?_) rfl rfl (by kernel_rfl) (by kernel_rfl) (by kernel_rfl) (fun _ _ _ h => h) (Or.inl ⟨by rfl, ?_⟩) hHeld ?_
          rotate_left 1
          · (intro w hSw; (try dsimp only at hSw); go_simp; (try with_reducible rfl))
          simp only [List.setIfInBounds_toArray, List.set_cons_zero, List.set_cons_succ]
          refine wpAnyH_ready (rs := [8]) (by kernel_rfl) (by simp) ?_
          refine AllReadyH.cons rfl (fun K hK => ?_) AllReadyH.nil
          refine exec_store (cs := x.cells.toArray) rfl rfl rfl (show w3.drew.heap[g0]? = _ from HB3.out) rfl rfl (by rfl) Try.sizeEv (Evt.one x) (fun W4 R4 M4 => ?_)
          have HM4 := Lib.hid (show Mods [g0] w3 W4 from hHeld.trans M4)
          clear hHeld
          refine hK.out _ _ HM4.out (fun hHeld => ?_)
          clear hK K
          refine takeD (i := 9) (d := 7) (v := ?_) rfl rfl (by kernel_rfl) (by kernel_rfl) (by kernel_rfl) (fun _ _ _ h => h) (Or.inl ⟨by rfl, ?_⟩) hHeld ?_
          rotate_left 1
          · (intro w hSw; (try dsimp only at hSw); go_simp; (try with_reducible rfl))
          simp only [List.setIfInBounds_toArray, List.set_cons_zero, List.set_cons_succ]
          refine takeD (i := 10) (d := 8) (v := ?_) rfl rfl (by kernel_rfl) (by kernel_rfl) (by kernel_rfl) (fun _ _ _ h => h) (Or.inl ⟨by rfl, ?_⟩) hHeld ?_
          rotate_left 1
          · (intro w hSw; (try dsimp only at hSw); go_simp; (try with_reducible rfl))
          simp only [List.setIfInBounds_toArray, List.set_cons_zero, List.set_cons_succ]
          clear hHeld
          refine wpAnyH_done (by kernel_rfl) ?_ _
          go_wp2_with fail
          refine bodyPost_ret (results_cell_row3 rfl _ _ g0 _ _ _ _ rfl R4 Try.underlying37 rfl Try.sizeEv) rfl ?_
          exact ⟨x, false, by rw [HFR.out]; rfl, by rw [HEA.out, if_neg (fun h => h.2 HI.out)]; rfl, HM3.out.comp HM4.out (fun k hk => by simp at hk; subst hk; exact .inr HG0.out)⟩
        · have q1 : (((x.id.val : Nat) : Int) != 0) = true := by simpa using hid
          have HI := Lib.hid hid
          clear hid
          refine heldStart (S := fun W => Mods [g0] w3 W) 11 rfl (by kernel_rfl) Mods.refl.drew (fun hHeld => ?_)
          refine takeD (i := 0) (d := 45) (v := .agg x.cells.toArray) rfl rfl (by kernel_rfl) (by kernel_rfl) (by kernel_rfl) (fun _ _ _ h => h) (yieldsIf_load_row rfl 37 (.tmp 11) rfl g11 rfl 37 _ (0, 0) _ (fun W h => h.heap HR3.out HGN.out) Try.underlying37 rfl Try.sizeEv) hHeld ?_
          simp only [List.setIfInBounds_toArray, List.set_cons_zero, List.set_cons_succ]
          refine takeD (i := 1) (d := 46) (v := ?_) rfl rfl (by kernel_rfl) (by kernel_rfl) (by kernel_rfl) (fun _ _ _ h => h) (Or.inl ⟨by rfl, ?_⟩) hHeld ?_
          rotate_left 1
          · (intro w hSw; (try dsimp only at hSw); go_simp; (try with_reducible rfl))
          simp only [List.setIfInBounds_toArray, List.set_cons_zero, List.set_cons_succ]
          refine takeD (i := 2) (d := 47) (v := .bool true) rfl rfl (by kernel_rfl) (by kernel_rfl) (by kernel_rfl) (fun _ _ _ h => h) (Or.inl ⟨by rfl, fun w hSw => ?_⟩) hHeld ?_
          · (try dsimp only at hSw)
            go_simp
            try simp only [q0]
          simp only [List.setIfInBounds_toArray, List.set_cons_zero, List.set_cons_succ]
          refine takeD (i := 3) (d := 48) (v := ?_) rfl rfl (by kernel_rfl) (by kernel_rfl) (by kernel_rfl) (fun _ _ _ h => h) (Or.inl ⟨by rfl, ?_⟩) hHeld ?_
          rotate_left 1
          · (intro w hSw; (try dsimp only at hSw); go_simp; (try with_reducible rfl))
          simp only [List.setIfInBounds_toArray, List.set_cons_zero, List.set_cons_succ]
          refine takeD (i := 4) (d := 49) (v := ?_) rfl rfl (by kernel_rfl) (by kernel_rfl) (by kernel_rfl) (fun _ _ _ h => h) (Or.inl ⟨by rfl, ?_⟩) hHeld ?_
          rotate_left 1
          · (intro w hSw; (try dsimp only at hSw); go_simp; (try with_reducible rfl))
          simp only [List.setIfInBounds_toArray, List.set_cons_zero, List.set_cons_succ]
          refine takeD (i := 5) (d := 50) (v := (.int .u16 ((x.id.val : Nat) : Int))) rfl rfl (by kernel_rfl) (by kernel_rfl) (by kernel_rfl) (fun _ _ _ h => h) (Or.inl ⟨by rfl, fun w hSw => ?_⟩) hHeld ?_
          · have cst := (cell_blk (hSw.heap HR3.out HGN.out) 0).trans (show _ = some (.int .u16 ((x.id.val : Nat) : Int)) from rfl)
            go_simp
          simp only [List.setIfInBounds_toArray, List.set_cons_zero, List.set_cons_succ]
          refine takeD (i := 6) (d := 51) (v := .bool true) rfl rfl (by kernel_rfl) (by kernel_rfl) (by kernel_rfl) (fun _ _ _ h => h) (Or.inl ⟨by rfl, fun w hSw => ?_⟩) hHeld ?_
          · (try dsimp only at hSw)
            go_simp
            try simp only [q1]
          simp only [List.setIfInBounds_toArray, List.set_cons_zero, List.set_cons_succ]
          refine takeD (i := 7) (d := 52) (v := ?_) rfl rfl (by kernel_rfl) (by kernel_rfl) (by kernel_rfl) (fun _ _ _ h => h) (Or.inl ⟨by rfl, ?_⟩) hHeld ?_
          rotate_left 1
          · (intro w hSw; (try dsimp only at hSw); go_simp; (try with_reducible rfl))
          simp only [List.setIfInBounds_toArray, List.set_cons_zero, List.set_cons_succ]
          refine wpAnyH_ready (rs := [8]) (by kernel_rfl) (by simp) ?_
          refine AllReadyH.cons rfl (fun K hK => ?_) AllReadyH.nil
          refine exec_store (cs := x.cells.toArray) rfl rfl rfl (show w3.drew.heap[g0]? = _ from HB3.out) rfl rfl (by rfl) Try.sizeEv (Evt.one x) (fun W4 R4 M4 => ?_)
          have HM4 := Lib.hid (show Mods [g0] w3 W4 from hHeld.trans M4)
          clear hHeld
          refine hK.out _ _ HM4.out (fun hHeld => ?_)
          clear hK K
          refine takeD (i := 9) (d := 7) (v := ?_) rfl rfl (by kernel_rfl) (by kernel_rfl) (by kernel_rfl) (fun _ _ _ h => h) (Or.inl ⟨by rfl, ?_⟩) hHeld ?_
          rotate_left 1
          · (intro w hSw; (try dsimp only at hSw); go_simp; (try with_reducible rfl))
          simp only [List.setIfInBounds_toArray, List.set_cons_zero, List.set_cons_succ]
          refine takeD (i := 10) (d := 8) (v := ?_) rfl rfl (by kernel_rfl) (by kernel_rfl) (by kernel_rfl) (fun _ _ _ h => h) (Or.inl ⟨by rfl, ?_⟩) hHeld ?_
          rotate_left 1
          · (intro w hSw; (try dsimp only at hSw); go_simp; (try with_reducible rfl))
          simp only [List.setIfInBounds_toArray, List.set_cons_zero, List.set_cons_succ]
          clear hHeld
          refine wpAnyH_done (by kernel_rfl) ?_ _
          go_wp2_with fail
          refine bodyPost_ret (results_cell_row3 rfl _ _ g0 _ _ _ _ rfl R4 Try.underlying37 rfl Try.sizeEv) rfl ?_
          exact ⟨x, true, by rw [HFR.out]; rfl, by rw [HEA.out, if_pos ⟨by first | rfl | trivial, HI.out⟩]; rfl, HM3.out.comp HM4.out (fun k hk => by simp at hk; subst hk; exact .inr HG0.out)⟩
      · have q0 : (er == 0) = false := by simpa using he
        have HI := Lib.hid he
        clear he
        refine heldStart (S := fun W => Mods [g0] w3 W) 11 rfl (by kernel_rfl) Mods.refl.drew (fun hHeld => ?_)
        refine takeD (i := 0) (d := 45) (v := .agg x.cells.toArray) rfl rfl (by kernel_rfl) (by kernel_rfl) (by kernel_rfl) (fun _ _ _ h => h) (yieldsIf_load_row rfl 37 (.tmp 11) rfl g11 rfl 37 _ (0, 0) _ (fun W h => h.heap HR3.out HGN.out) Try.underlying37 rfl Try.sizeEv) hHeld ?_
        simp only [List.setIfInBounds_toArray, List.set_cons_zero, List.set_cons_succ]
        refine takeD (i := 1) (d := 46) (v := ?_) rfl rfl (by kernel_rfl) (by kernel_rfl) (by kernel_rfl) (fun _ _ _ h => h) (Or.inl ⟨by rfl, ?_⟩) hHeld ?_
        rotate_left 1
        · (intro w hSw; (try dsimp only at hSw); go_simp; (try with_reducible rfl))
        simp only [List.setIfInBounds_toArray, List.set_cons_zero, List.set_cons_succ]
        refine takeD (i := 2) (d := 47) (v := .bool false) rfl rfl (by kernel_rfl) (by kernel_rfl) (by kernel_rfl) (fun _ _ _ h => h) (Or.inl ⟨by rfl, fun w hSw => ?_⟩) hHeld ?_
        · (try dsimp only at hSw)
          go_simp
          try simp only [q0]
        simp only [List.setIfInBounds_toArray, List.set_cons_zero, List.set_cons_succ]
        refine takeD (i := 3) (d := 48) (v := ?_) rfl rfl (by kernel_rfl) (by kernel_rfl) (by kernel_rfl) (fun _ _ _ h => h) (Or.inl ⟨by rfl, ?_⟩) hHeld ?_
        rotate_left 1
        · (intro w hSw; (try dsimp only at hSw); go_simp; (try with_reducible rfl))
        simp only [List.setIfInBounds_toArray, List.set_cons_zero, List.set_cons_succ]
        refine takeD (i := 4) (d := 49) (v := undef) rfl rfl (by kernel_rfl) (by kernel_rfl) (by kernel_rfl) (fun _ _ _ h => h) (Or.inr ⟨by rfl, rfl⟩) hHeld ?_
        simp only [List.setIfInBounds_toArray, List.set_cons_zero, List.set_cons_succ]
        refine takeD (i := 5) (d := 50) (v := undef) rfl rfl (by kernel_rfl) (by kernel_rfl) (by kernel_rfl) (fun _ _ _ h => h) (Or.inr ⟨by rfl, rfl⟩) hHeld ?_
        simp only [List.setIfInBounds_toArray, List.set_cons_zero, List.set_cons_succ]
        refine takeD (i := 6) (d := 51) (v := undef) rfl rfl (by kernel_rfl) (by kernel_rfl) (by kernel_rfl) (fun _ _ _ h => h) (Or.inr ⟨by rfl, rfl⟩) hHeld ?_
        simp only [List.setIfInBounds_toArray, List.set_cons_zero, List.set_cons_succ]
        refine takeD (i := 7) (d := 52) (v := ?_) rfl rfl (by kernel_rfl) (by kernel_rfl) (by kernel_rfl) (fun _ _ _ h => h) (Or.inl ⟨by rfl, ?_⟩) hHeld ?_
        rotate_left 1
        · (intro w hSw; (try dsimp only at hSw); go_simp; (try with_reducible rfl))
        simp only [List.setIfInBounds_toArray, List.set_cons_zero, List.set_cons_succ]
        refine wpAnyH_ready (rs := [8]) (by kernel_rfl) (by simp) ?_
        refine AllReadyH.cons rfl (fun K hK => ?_) AllReadyH.nil
        refine exec_store (cs := x.cells.toArray) rfl rfl rfl (show w3.drew.heap[g0]? = _ from HB3.out) rfl rfl (by rfl) Try.sizeEv (Evt.one x) (fun W4 R4 M4 => ?_)
        have HM4 := Lib.hid (show Mods [g0] w3 W4 from hHeld.trans M4)
        clear hHeld
        refine hK.out _ _ HM4.out (fun hHeld => ?_)
        clear hK K
        refine takeD (i := 9) (d := 7) (v := ?_) rfl rfl (by kernel_rfl) (by kernel_rfl) (by kernel_rfl) (fun _ _ _ h => h) (Or.inl ⟨by rfl, ?_⟩) hHeld ?_
        rotate_left 1
        · (intro w hSw; (try dsimp only at hSw); go_simp; (try with_reducible rfl))
        simp only [List.setIfInBounds_toArray, List.set_cons_zero, List.set_cons_succ]
        refine takeD (i := 10) (d := 8) (v := ?_) rfl rfl (by kernel_rfl) (by kernel_rfl) (by kernel_rfl) (fun _ _ _ h => h) (Or.inl ⟨by rfl, ?_⟩) hHeld ?_
        rotate_left 1
        · (intro w hSw; (try dsimp only at hSw); go_simp; (try with_reducible rfl))
        simp only [List.setIfInBounds_toArray, List.set_cons_zero, List.set_cons_succ]
        clear hHeld
        refine wpAnyH_done (by kernel_rfl) ?_ _
        go_wp2_with fail
        refine bodyPost_ret (results_cell_row3 rfl _ _ g0 _ _ _ _ rfl R4 Try.underlying37 rfl Try.sizeEv) rfl ?_
        exact ⟨x, false, by rw [HFR.out]; rfl, by rw [HEA.out, if_neg (fun h => HI.out h.1)]; rfl, HM3.out.comp HM4.out (fun k hk => by simp at hk; subst hk; exact .inr HG0.out)⟩
    · have hne : (((x16 : Nat) : Int) != 0) = true := by simpa using h16
      have HEV := Lib.hid (show evAt (byt D) a = none from by unfold evAt; rw [if_neg (by rw [← HX16.out]; exact h16)])
      clear h16
      go_wp2_with fail
      refine HBK.out.mono ?_
      rintro e w' ⟨rfl, rfl⟩
      go_wp2_with (refine wpList_store_row (cs := zE.cells.toArray) rfl 37 (.tmp 6) (.tmp 38) rfl B1.out (by rfl) (by rfl) rfl Try.sizeEv (Evt.one zE) ?_; intro wz Rz Mz)
      refine bodyPost_ret (results_cell_row3 rfl _ _ g0 _ _ _ _ rfl Rz Try.underlying37 rfl Try.sizeEv) rfl ?_
      exact ⟨zE, false, by rw [HFR.out]; rfl, HEV.out, M1.out.comp Mz (fun k hk => by simp at hk; subst hk; exact .inr HG0.out)⟩
end Go.Proofs.Ytkdadnlleepkfaa

namespace Go.Proofs.Ytkdadnlleepkfaa
open Go.RowKit
set_option linter.unusedVariables false
set_option linter.unusedSimpArgs false
set_option maxRecDepth 100000
theorem evsK_snoc (b : Nat → Nat) (G : Geo) (j k : Nat) {ok : Bool} {x : Evt} (h : evAt b (G.slot j k) = if ok then some x else none) : evsK b G j (k + 1) = if ok then evsK b G j k ++ [x] else evsK b G j k := by
  simp only [evsK]
  rw [h]
  cases ok <;> simp
theorem slots_le {G : Geo} (h : G.size ≤ 1024) : G.slots ≤ 59 := by unfold Geo.slots; omega
set_option maxHeartbeats 4000000 in
theorem rOf_ok (w : World) (rb : Nat) (p : DevAt) (G : Geo) (D : Dev) (R : RLog) (h : RefAt w rb p G D R) (j : Nat) (hj : j < G.n) :
    Calls Try.prog 86 #[.pointer (some ⟨rb, 0, none⟩), .int .i64 (j : Nat)] w fun e w' => RecsPost w (evsK (byt D) G j G.slots) e w' := by
  obtain ⟨g1, g2, g3, g4, g5⟩ := h.geo
  have H := Lib.hid h
  have HJ := Lib.hid hj
  have hK := slots_le g3
  have HSL := Lib.hid (fun W => show Calls Try.prog 88 #[.int .i64 (G.size : Nat)] W fun e w' => e = .returned (.int .i64 (G.slots : Nat)) ∧ W = w' from rSlots_ok W G.size (by omega) (by omega))
  clear h hj g1 g2 g3 g4 g5
  go_enter Try.func86, Try.ntmps86
  go_wp2_with fail
  go_loopw [5, 6] (fun u i' wr => ∃ i : Nat, i' = .int .i64 (i : Nat) ∧ i ≤ G.slots ∧ OwnE evE wr w.heap.size u (evsK (byt D) G j i) ∧ Mods [] w wr) (fun _ i' _ => G.slots - (intOf i').toNat)
  case atStart => exact ⟨0, rfl, Nat.zero_le _, OwnE.nil _ _ _, Mods.refl⟩
  case round =>
    obtain ⟨i, rfl, hi, hO, hM⟩ := hrel
    have HO := Lib.hid hO
    have HM := Lib.hid hM
    have HR := Lib.hid (H.out.mods0 hM)
    have c0 := HR.out.c0
    have d0 := HR.out.d0
    have i0 : (0 : Int) ≤ (i : Int) := by omega
    have i59 : i ≤ 59 := by omega
    have HLEN := Lib.hid (show (evsK (byt D) G j i).length ≤ 59 from Nat.le_trans (evsK_le _ _ _ _) i59)
    clear hO hM
    by_cases hlt : i < G.slots
    · have i1 : (i : Int) < (G.slots : Int) := by omega
      have HS := Lib.hid (rSlot_ok wr rb p G D R HR.out j i HJ.out hlt)
      go_wp2_with fail
      refine (HSL.out _).mono ?_
      rintro e w' ⟨rfl, rfl⟩
      go_wp2_with fail
      refine HS.out.mono ?_
      rintro e w1 ⟨x, ok, rfl, hea, hm1⟩
      have HSN := Lib.hid (evsK_snoc (byt D) G j i hea)
      have HM1 := Lib.hid (HM.out.trans hm1)
      have HO1 := Lib.hid (HO.out.mods0 hm1)
      clear hea hm1 HS c0 d0
      generalize evsK (byt D) G j i = l at HO1 HSN HLEN HO
      go_upto_region 6 with (refine wpList_store_row (cs := x.cells.toArray) rfl 37 (.tmp 7) (.tmp 27) rfl (heap_alloc_new w1 _) (by rfl) (by rfl) (by rfl) Try.sizeEv (Evt.one x) ?_; intro w2 R2 M2)
      have HF2 := Lib.hid (freshA M2)
      have HB2 := Lib.hid (show w2.heap[w1.heap.size]? = some (.cells #[.int .u16 ((x.id.val : Nat) : Int), .int .u32 ((x.time.val : Nat) : Int), .int .u16 ((x.gen.val : Nat) : Int), .int .u8 ((x.st.val : Nat) : Int), .int .u8 ((x.sen.val : Nat) : Int), .int .u8 ((x.typ.val : Nat) : Int), .bool x.de, .int .u8 ((x.d0.val : Nat) : Int), .int .u8 ((x.d1.val : Nat) : Int), .int .u8 ((x.d2.val : Nat) : Int)] 37 (0, 0)) from R2)
      have HM2 := Lib.hid (HM1.out.trans HF2.out)
      have HO2 := Lib.hid (HO1.out.mods0 HF2.out)
      clear R2 M2 HF2 HO1 HM1 HO
      generalize w1.heap.size = g7 at HB2 ⊢
      cases ok with
      | true =>
        have HSN2 := Lib.hid (show evsK (byt D) G j (i + 1) = l ++ [x] from HSN.out)
        have HAL := Lib.hid (show OwnE evE (w2.alloc (.cells #[.int .u16 ((x.id.val : Nat) : Int), .int .u32 ((x.time.val : Nat) : Int), .int .u16 ((x.gen.val : Nat) : Int), .int .u8 ((x.st.val : Nat) : Int), .int .u8 ((x.sen.val : Nat) : Int), .int .u8 ((x.typ.val : Nat) : Int), .bool x.de, .int .u8 ((x.d0.val : Nat) : Int), .int .u8 ((x.d1.val : Nat) : Int), .int .u8 ((x.d2.val : Nat) : Int)] 37)) w.heap.size u5 l ∧ RdE evE (w2.alloc (.cells #[.int .u16 ((x.id.val : Nat) : Int), .int .u32 ((x.time.val : Nat) : Int), .int .u16 ((x.gen.val : Nat) : Int), .int .u8 ((x.st.val : Nat) : Int), .int .u8 ((x.sen.val : Nat) : Int), .int .u8 ((x.typ.val : Nat) : Int), .bool x.de, .int .u8 ((x.d0.val : Nat) : Int), .int .u8 ((x.d1.val : Nat) : Int), .int .u8 ((x.d2.val : Nat) : Int)] 37)) (.slice (some ⟨w2.heap.size, 0, none⟩) 1 1) [x] ∧ Mods [] w (w2.alloc (.cells #[.int .u16 ((x.id.val : Nat) : Int), .int .u32 ((x.time.val : Nat) : Int), .int .u16 ((x.gen.val : Nat) : Int), .int .u8 ((x.st.val : Nat) : Int), .int .u8 ((x.sen.val : Nat) : Int), .int .u8 ((x.typ.val : Nat) : Int), .bool x.de, .int .u8 ((x.d0.val : Nat) : Int), .int .u8 ((x.d1.val : Nat) : Int), .int .u8 ((x.d2.val : Nat) : Int)] 37)) from
          ⟨HO2.out.mods0 (Mods.refl.alloc _), RdE.one (a := x) (heap_alloc_new w2 _) rfl, HM2.out.alloc _⟩)
        clear HSN
        go_wp2_with (first
          | (refine wpList_load_rowG (by rfl) 37 (.tmp 7) rfl g7 (by rfl) _ _ _ _ HB2.out Try.underlying37 rfl Try.sizeEv ?_)
          | (at_builtin; refine wpList_appE evOk (by rfl) (.tmp 31) (.tmp 33) rfl (by rfl) HAL.out.1 (by rfl) HAL.out.2.1 (by have := HLEN.out; simp; omega) (HAL.out.2.2.size) ?_; intro VB WB OB MB; have HST := Lib.hid (show OwnE evE WB w.heap.size VB (evsK (byt D) G j (i + 1)) ∧ Mods [] w WB from ⟨by rw [HSN2.out]; exact OB, HAL.out.2.2.comp MB (fun y hy => .inr (HAL.out.1.back hy))⟩); clear OB MB))
        go_roundw
        case rel => exact ⟨i + 1, by go_num, by omega, HST.out.1, HST.out.2⟩
        case measure => simp [intOf]; omega
      | false =>
        have HSN2 := Lib.hid (show evsK (byt D) G j (i + 1) = l from HSN.out)
        clear HSN
        go_wp2_with fail
        go_roundw
        case rel => exact ⟨i + 1, by go_num, by omega, by rw [HSN2.out]; exact HO2.out, HM2.out⟩
        case measure => simp [intOf]; omega
    · have i1 : ¬ (i : Int) < (G.slots : Int) := by omega
      obtain rfl : i = G.slots := by omega
      go_wp2_with fail
      refine (HSL.out _).mono ?_
      rintro e w' ⟨rfl, rfl⟩
      go_wp2_with fail
      go_ret
      exact ⟨_, rfl, HO.out, HM.out⟩
end Go.Proofs.Ytkdadnlleepkfaa

namespace Go.Proofs.Ytkdadnlleepkfaa
open Go.RowKit
set_option linter.unusedVariables false
set_option linter.unusedSimpArgs false
set_option maxRecDepth 100000
theorem recsK_step (b : Nat → Nat) (G : Geo) (t i : Nat) (h : 1 ≤ t + i) : (recsK b G t (i + 1)).map (·.2) = (recsK b G t i).map (·.2) ++ (if (hdQ b G ((t + i - 1) % G.n)).1 = t + i then evsK b G ((t + i - 1) % G.n) G.slots else []) := by
  simp only [recsK, List.map_append]
  congr 1
  unfold secR hdQ
  cases e : hd b G ((t + i - 1) % G.n) with
  | none => rw [if_neg (by simp only; omega)]; rfl
  | some x =>
    simp only
    by_cases hq : x.q = t + i
    · rw [if_pos hq, if_pos hq, List.map_map]
      exact List.map_id' _
    · rw [if_neg hq, if_neg hq]; rfl
/-- What the reference's Records holds. -/
def rRecs (D : Dev) (G : Geo) (R : RLog) : List Evt := if R.ended then [] else (openS (byt D) G).recs.map (·.2)
set_option maxHeartbeats 4000000 in
theorem rRecords_ok (w : World) (rb : Nat) (p : DevAt) (G : Geo) (D : Dev) (R : RLog) (h : RefAt w rb p G D R) :
    Calls Try.prog 75 #[.pointer (some ⟨rb, 0, none⟩)] w fun e w' => RecsPost w (rRecs D G R) e w' := by
  obtain ⟨g1, g2, g3, g4, g5⟩ := h.geo
  have H := Lib.hid h
  have hK := slots_le g3
  have n16 : G.n ≤ 16 := by omega
  have c7 := h.c7
  have HNW := Lib.hid (rNewest_ok w rb p G D R h)
  have HF := Lib.hid (openS_facts (byt D) G)
  cases he : R.ended with
  | true =>
    have HR := Lib.hid (show rRecs D G R = [] from by unfold rRecs; rw [he]; rfl)
    rw [he] at c7
    clear he h HNW
    go_enter Try.func75, Try.ntmps75
    go_wp2_with fail
    go_ret
    rw [HR.out]
    exact ⟨_, rfl, OwnE.nil _ _ _, Mods.refl⟩
  | false =>
    have HR := Lib.hid (show rRecs D G R = (openS (byt D) G).recs.map (·.2) from by unfold rRecs; rw [he]; rfl)
    rw [he] at c7
    obtain ⟨q, hq⟩ : ∃ q, q = (newS (byt D) G).1 := ⟨_, rfl⟩
    obtain ⟨t, ht⟩ : ∃ t, t = (newS (byt D) G).2 := ⟨_, rfl⟩
    have HQ := Lib.hid (show (q = 0 → t = 0 ∧ (openS (byt D) G).recs = []) ∧ (0 < q → 1 ≤ t ∧ t ≤ q ∧ q ≤ 2147483648 ∧ q - t ≤ G.n - 2 ∧ (openS (byt D) G).recs = recsK (byt D) G t (q + 1 - t)) from by
      obtain ⟨f1, f2, f3, f4, f5, f6⟩ := HF.out
      rw [← hq] at f1
      rw [← ht] at f2
      refine ⟨fun h0 => ⟨by omega, ?_⟩, fun h0 => ?_⟩
      · unfold openS
        rw [← hq, if_pos h0]
      · have h5 := f5 (by omega)
        refine ⟨by omega, by omega, by omega, by omega, ?_⟩
        unfold openS
        rw [← hq, ← ht, if_neg (by omega)])
    rw [← hq, ← ht] at HNW
    clear he h hq ht HF
    go_enter Try.func75, Try.ntmps75
    go_wp2_with fail
    refine HNW.out.mono ?_
    rintro e w1 ⟨rfl, m, rfl⟩
    clear HNW c7
    by_cases h0 : q = 0
    · obtain ⟨rfl, hre⟩ := HQ.out.1 h0
      subst h0
      have HRE := Lib.hid (show rRecs D G R = [] from by rw [HR.out, hre]; rfl)
      clear hre HQ HR
      go_wp2_with fail
      go_loopw [5, 6] (fun u i' wr => i' = .int .i64 0 ∧ u = .slice none 0 0 ∧ wr = w.drewN m) (fun _ i' _ => 0)
      case atStart => exact ⟨rfl, rfl, rfl⟩
      case round =>
        obtain ⟨rfl, rfl, rfl⟩ := hrel
        go_wp2_with fail
        go_ret
        rw [HRE.out]
        exact ⟨_, rfl, OwnE.nil _ _ _, Mods.refl.drewN m⟩
    · obtain ⟨t1, tq, q31, qt, hre⟩ := HQ.out.2 (by omega)
      have HRE := Lib.hid (show rRecs D G R = (recsK (byt D) G t (q + 1 - t)).map (·.2) from by rw [HR.out, hre])
      clear hre HQ HR h0
      go_wp2_with fail
      go_loopw [5, 6] (fun u i' wr => ∃ i : Nat, i' = .int .i64 ((t : Int) + (i : Int)) ∧ i ≤ q + 1 - t ∧ OwnE evE wr w.heap.size u ((recsK (byt D) G t i).map (·.2)) ∧ Mods [] w wr) (fun _ i' _ => q + 1 - (intOf i').toNat)
      case atStart => exact ⟨0, by simp, Nat.zero_le _, OwnE.nil _ _ _, Mods.refl.drewN m⟩
      case round =>
        obtain ⟨i, rfl, hi, hO, hM⟩ := hrel
        obtain ⟨s, hs⟩ : ∃ s, s = t + i := ⟨_, rfl⟩
        have hsi : (t : Int) + (i : Int) = (s : Int) := by omega
        rw [hsi]
        have HO := Lib.hid hO
        have HM := Lib.hid hM
        have HRF := Lib.hid (H.out.mods0 hM)
        have c2 := HRF.out.c2
        have s1 : (1 : Int) ≤ (s : Int) := by omega
        have s1n : 1 ≤ s := by omega
        have HST := Lib.hid (recsK_step (byt D) G t i (by omega))
        rw [← hs] at HST
        have HLEN := Lib.hid (show ((recsK (byt D) G t i).map (·.2)).length ≤ 944 from by
          rw [List.length_map]
          have h1 := recsK_le (byt D) G t i
          have h2 : i * G.slots ≤ 16 * 59 := Nat.mul_le_mul (by omega) hK
          omega)
        clear hO hM
        by_cases hlt : s ≤ q
        · have d1 : decide ((s : Int) ≤ (q : Int)) = true := decide_eq_true (by omega)
          have d2 : decide (s ≤ q) = true := decide_eq_true hlt
          have s3 : (s : Int) ≤ (q : Int) := by omega
          have s4 : s ≤ 2147483648 := by omega
          have hn0 : 0 < G.n := by omega
          obtain ⟨j, hj⟩ : ∃ j, j = (s - 1) % G.n := ⟨_, rfl⟩
          have hjn : j < G.n := by rw [hj]; exact Nat.mod_lt _ hn0
          have hT : ((s : Nat) : Int) - 1 ≥ 0 := by omega
          have hT1 : (((s : Nat) : Int) - 1) % ((G.n : Nat) : Int) = ((j : Nat) : Int) := by rw [hj, Int.natCast_emod]; congr 1; omega
          have hT2 : (((s : Nat) : Int) - 1).tmod ((G.n : Nat) : Int) = ((j : Nat) : Int) := by rw [Int.tmod_eq_emod_of_nonneg (by omega)]; exact hT1
          have hn1 : ¬ ((G.n : Nat) : Int) = 0 := by omega
          have hn2 : (0 : Int) ≤ ((G.n : Nat) : Int) := by omega
          rw [← hj] at HST
          have HH := Lib.hid (rHeader_ok wr rb p G D R HRF.out j hjn)
          have HOF := Lib.hid (fun n => rOf_ok (wr.drewN n) rb p G D R (HRF.out.drewN n) j hjn)
          have HJN := Lib.hid hjn
          have HII := Lib.hid (show i + 1 ≤ q + 1 - t ∧ ((s : Nat) : Int) + 1 = (t : Int) + ((i + 1 : Nat) : Int) from by omega)
          have HMS := Lib.hid (show q + 1 - (s + 1) < q + 1 - s from by omega)
          generalize hdQ (byt D) G j = y at HST HH
          obtain ⟨y1, y2⟩ := y
          simp only at HST HH
          clear hj hjn hs hsi hi hlt t1 tq qt
          go_wp2_with fail
          refine HH.out.mono ?_
          rintro e w2 ⟨rfl, m2, rfl⟩
          by_cases hys : y1 = s
          · have d3 : (((y1 : Nat) : Int) == ((s : Nat) : Int)) = true := by simp [hys]
            rw [if_pos hys] at HST
            clear hys hT1 hT2
            have HOF2 := Lib.hid (HOF.out m2)
            have HM2 := Lib.hid (HM.out.drewN m2)
            have HO2 := Lib.hid (HO.out.mods0 (Mods.refl.drewN m2))
            generalize wr.drewN m2 = w2 at HOF2 HM2 HO2 ⊢
            have HEL := Lib.hid (show (evsK (byt D) G j G.slots).length ≤ 59 from Nat.le_trans (evsK_le _ _ _ _) hK)
            generalize evsK (byt D) G j G.slots = l2 at HOF2 HST HEL
            generalize (recsK (byt D) G t i).map (·.2) = l1 at HO2 HST HLEN HO
            go_wp2_with fail
            refine HOF2.out.mono ?_
            rintro e w3 ⟨v3, rfl, ho3, hm3⟩
            have HM3 := Lib.hid (HM2.out.trans hm3)
            have HO3 := Lib.hid (HO2.out.mods0 hm3)
            have HR3 := Lib.hid (ho3.rd evOk)
            obtain ⟨ad3, cap3, hv3⟩ := HR3.out.len
            rw [hv3] at HR3 ⊢
            clear ho3 hm3 hv3 HOF2 HOF HO2 HM2
            go_wp2_with (at_builtin; refine wpList_appE evOk (by rfl) (.tmp 45) (.tmp 48) rfl (by rfl) HO3.out (by rfl) HR3.out (by have := HLEN.out; have := HEL.out; omega) (HM3.out.size) ?_; intro VB WB OB MB; have HSS := Lib.hid (show OwnE evE WB w.heap.size VB ((recsK (byt D) G t (i + 1)).map (·.2)) ∧ Mods [] w WB from ⟨by rw [HST.out]; exact OB, HM3.out.comp MB (fun y hy => .inr (HO3.out.back hy))⟩); clear OB MB)
            go_roundw
            case rel => exact ⟨i + 1, by rw [← HII.out.2], HII.out.1, HSS.out.1, HSS.out.2⟩
            case measure => have := HMS.out; simp [intOf]; omega
          · have d3 : (((y1 : Nat) : Int) == ((s : Nat) : Int)) = false := by simp; omega
            rw [if_neg hys, List.append_nil] at HST
            have HST2 := Lib.hid HST.out
            have HSS := Lib.hid (show OwnE evE (wr.drewN m2) w.heap.size u5 ((recsK (byt D) G t (i + 1)).map (·.2)) ∧ Mods [] w (wr.drewN m2) from ⟨by rw [HST2.out]; exact HO.out.mods0 (Mods.refl.drewN m2), HM.out.drewN m2⟩)
            clear hys hT1 hT2
            go_wp2_with fail
            go_roundw
            case rel => exact ⟨i + 1, by rw [← HII.out.2], HII.out.1, HSS.out.1, HSS.out.2⟩
            case measure => have := HMS.out; simp [intOf]; omega
        · have d1 : decide ((s : Int) ≤ (q : Int)) = false := decide_eq_false (by omega)
          have d2 : decide (s ≤ q) = false := decide_eq_false hlt
          have s3 : ¬ (s : Int) ≤ (q : Int) := by omega
          obtain rfl : i = q + 1 - t := by omega
          clear hs hsi
          go_wp2_with fail
          go_ret
          rw [HRE.out]
          exact ⟨_, rfl, HO.out, HM.out⟩
end Go.Proofs.Ytkdadnlleepkfaa

namespace Go.Proofs.Ytkdadnlleepkfaa
open Go.RowKit
set_option linter.unusedVariables false
set_option linter.unusedSimpArgs false
set_option maxRecDepth 100000
theorem RdE.lastCell {W : World} {ad : Option Addr} {n cap i : Nat} {l : List Evt} (h : RdE evE W (.slice ad n cap) l) (hl : l.length = n) (hn : 0 < n) (hi : (l.getD (n - 1) evE.dflt).id.val = i) :
    ∃ bb off, ad = some ⟨bb, off, none⟩ ∧ W.cell? ⟨bb, off + (n - 1) * 10, none⟩ = some (.int .u16 ((i : Nat) : Int)) := by
  subst hl
  obtain ⟨bb, off, cp, hv2, _, _, hat⟩ := h.at hn
  injection hv2 with hv3 hv5 hv4
  subst hv3
  refine ⟨bb, off, rfl, ?_⟩
  have h := hat (l.length - 1) (by omega) 0 (by decide)
  refine h.trans ?_
  show some (Value.int .u16 (((l.getD (l.length - 1) evE.dflt).id.val : Nat) : Int)) = _
  rw [hi]
theorem hd_id {b : Nat → Nat} {G : Geo} {j : Nat} {x : Hd} (h : hd b G j = some x) : x.id = le2 b (G.at j + 8) := by
  unfold hd at h
  split at h
  · injection h with h
    rw [← h]
    rfl
  · cases h
/-- The next ID, told by the newest sector. -/
theorem next_is {b : Nat → Nat} {G : Geo} (h : 0 < (newS b G).1) : (openS b G).next = match (evsK b G (((newS b G).1 - 1) % G.n) G.slots).getLast? with | some e => behindN e.id.val | none => le2 b (G.at (((newS b G).1 - 1) % G.n) + 8) := by
  obtain ⟨x, hx, he⟩ := newS_some h
  unfold openS
  rw [if_neg (by omega)]
  simp only
  unfold nextOf
  rw [hx]
  simp only
  rw [nextK_last, hd_id hx]
  cases (evsK b G (((newS b G).1 - 1) % G.n) G.slots).getLast? <;> rfl
set_option maxHeartbeats 4000000 in
theorem rNext_ok (w : World) (rb : Nat) (p : DevAt) (G : Geo) (D : Dev) (R : RLog) (h : RefAt w rb p G D R) :
    Calls Try.prog 68 #[.pointer (some ⟨rb, 0, none⟩)] w fun e w' => e = .returned (.int .i64 ((openS (byt D) G).next : Nat)) ∧ Mods [] w w' := by
  obtain ⟨g1, g2, g3, g4, g5⟩ := h.geo
  obtain ⟨k1, k2⟩ := h.cap
  have H := Lib.hid h
  have hK := slots_le g3
  have n16 : G.n ≤ 16 := by omega
  have HNW := Lib.hid (rNewest_ok w rb p G D R h)
  have HF := Lib.hid (openS_facts (byt D) G)
  have HNR := Lib.hid (next_rng (byt D) G)
  have HZ := Lib.hid (show (newS (byt D) G).1 = 0 → (openS (byt D) G).next = 1 from fun h0 => by unfold openS; rw [if_pos h0])
  have HNI := Lib.hid (fun h0 => next_is (b := byt D) (G := G) h0)
  have HQ31 := Lib.hid (show (newS (byt D) G).1 ≤ 2147483648 from by obtain ⟨f1, _, f3, _⟩ := HF.out; omega)
  have HS2 := Lib.hid (fun j (hj : j < G.n) => h.fit.sect hj)
  generalize (openS (byt D) G).next = nx at HNR HZ HNI ⊢
  generalize newS (byt D) G = y at HNW HZ HNI HQ31
  obtain ⟨q, t⟩ := y
  simp only at HNW HZ HNI HQ31
  clear h HF
  go_enter Try.func68, Try.ntmps68
  go_wp2_with fail
  refine HNW.out.mono ?_
  rintro e w1 ⟨rfl, m, rfl⟩
  have HM1 := Lib.hid ((Mods.refl (S := []) (w := w)).drewN m)
  clear HNW
  by_cases h0 : q = 0
  · have HN1 := Lib.hid (HZ.out h0)
    subst h0
    clear HZ HNI HQ31 HNR
    go_wp2_with fail
    go_ret
    exact ⟨by rw [HN1.out]; rfl, HM1.out⟩
  · have hd0 : (((q : Nat) : Int) == 0) = false := by simp; omega
    have hn0 : 0 < G.n := by omega
    obtain ⟨j, hj⟩ : ∃ j, j = (q - 1) % G.n := ⟨_, rfl⟩
    have hjn : j < G.n := by rw [hj]; exact Nat.mod_lt _ hn0
    have hq31 := HQ31.out
    have q0 : (0 : Int) ≤ ((q : Nat) : Int) := by omega
    have hT1 : (((q : Nat) : Int) - 1) % ((G.n : Nat) : Int) = ((j : Nat) : Int) := by rw [hj, Int.natCast_emod]; congr 1; omega
    have hT2 : (((q : Nat) : Int) - 1).tmod ((G.n : Nat) : Int) = ((j : Nat) : Int) := by rw [Int.tmod_eq_emod_of_nonneg (by omega)]; exact hT1
    have hn1 : ¬ ((G.n : Nat) : Int) = 0 := by omega
    have hn2 : (0 : Int) ≤ ((G.n : Nat) : Int) := by omega
    have hni := HNI.out (by omega)
    rw [← hj] at hni
    have HNJ := Lib.hid hni
    have HR1 := Lib.hid (H.out.drewN m)
    generalize w.drewN m = w1 at HM1 HR1 ⊢
    have HOF := Lib.hid (rOf_ok w1 rb p G D R HR1.out j hjn)
    have HBS := Lib.hid (fun W (h : RefAt W rb p G D R) => rBase_ok W rb p G D R h j hjn)
    have hse := HS2.out j hjn
    have HEL := Lib.hid (show (evsK (byt D) G j G.slots).length ≤ 59 from Nat.le_trans (evsK_le _ _ _ _) hK)
    have c2 := HR1.out.c2
    have HBY := Lib.hid H.out.fit.ok.byt
    obtain ⟨a, ha⟩ : ∃ a, a = G.at j := ⟨_, rfl⟩
    rw [← ha] at HNJ hse HBS
    generalize evsK (byt D) G j G.slots = l at HOF HNJ HEL
    clear hj hjn h0 HZ HNI HQ31 hni HS2 ha
    go_wp2_with fail
    refine HOF.out.mono ?_
    rintro e w2 ⟨v2, rfl, ho2, hm2⟩
    have HR2 := Lib.hid (HR1.out.mods0 hm2)
    have HM2 := Lib.hid (HM1.out.trans hm2)
    have HRD := Lib.hid (ho2.rd evOk)
    obtain ⟨ad, cap, hv2⟩ := HRD.out.len
    rw [hv2] at HRD ⊢
    clear ho2 hm2 hv2 HOF HR1 HM1 hT1 hT2 c2
    by_cases hl : l = []
    · subst hl
      have HNX := Lib.hid (show nx = le2 (byt D) (a + 8) from HNJ.out)
      have HB2 := Lib.hid (HBS.out w2 HR2.out)
      clear HNJ HEL
      go_wp2_with fail
      refine HB2.out.mono ?_
      rintro e w3 ⟨rfl, m3, rfl⟩
      have HR3 := Lib.hid (HR2.out.drewN m3)
      have HM3 := Lib.hid (HM2.out.drewN m3)
      generalize w2.drewN m3 = w3 at HR3 HM3 ⊢
      have c0 := HR3.out.c0
      have d1 := HR3.out.d1
      obtain ⟨c, hc⟩ : ∃ c, p.cb = a + c := ⟨p.cb - a, by omega⟩
      have HNM := Lib.hid (show Calls Try.prog 87 #[.slice (some ⟨p.g, a + 8, none⟩) 2 (c - 8)] w3 fun e w' => e = .returned (.int .u64 (nx : Nat)) ∧ w3 = w' from by
        have h1 := rNumber_ok w3 _ _ (HR3.out.sub (a := a + 8) (m := 2) (cap := c - 8) (by omega) (by omega) (by omega)) (subA_bytes HBY.out) (by rw [subA_len (by omega)]; omega)
        rw [num2 HBY.out (by omega)] at h1
        rw [HNX.out]
        exact h1)
      have e1 : 64 ≤ c := by omega
      have e2 : ((a : Nat) : Int) + 10 ≤ ((p.cb : Nat) : Int) := by omega
      have e3 : (0 : Int) ≤ ((a : Nat) : Int) := by omega
      have e4 : ((a : Nat) : Int) ≤ 16384 := by omega
      have e5 : ¬ p.cb = a + 8 := by omega
      have e6 : p.cb - (a + 8) = c - 8 := by omega
      have e7 : a + 10 - (a + 8) = 2 := by omega
      have n1 : nx ≤ 65534 := HNR.out.2
      have n2 : ((nx : Nat) : Int) < 65536 := by omega
      have n3 : (0 : Int) ≤ ((nx : Nat) : Int) := by omega
      clear hc
      go_wp2_with fail
      refine HNM.out.mono ?_
      rintro e w' ⟨rfl, rfl⟩
      go_wp2_with fail
      go_ret
      exact ⟨rfl, HM3.out⟩
    · have hpos : 0 < l.length := List.length_pos_iff.2 hl
      have h59 := HEL.out
      obtain ⟨x, hx⟩ : ∃ x, x = l.getD (l.length - 1) evE.dflt := ⟨_, rfl⟩
      have hlast : l.getLast? = some x := by
        rw [List.getLast?_eq_getElem?, hx, List.getD_eq_getElem?_getD, List.getElem?_eq_getElem (by omega)]
        rfl
      have HNX := Lib.hid (show nx = behindN x.id.val from by have h1 := HNJ.out; rw [hlast] at h1; exact h1)
      obtain ⟨bb, off, rfl, cx⟩ := RdE.lastCell HRD.out rfl hpos (congrArg (fun e => e.id.val) hx.symm)
      obtain ⟨n, hn⟩ : ∃ n, n = l.length := ⟨_, rfl⟩
      rw [← hn] at cx hpos h59 ⊢
      have e1 : (((n : Nat) : Int) == 0) = false := by simp; omega
      have e2 : (1 : Int) ≤ ((n : Nat) : Int) := by omega
      have e3 : (((n : Nat) : Int) - 1).toNat = n - 1 := by omega
      have e4 : n ≤ 9223372036854775807 := by omega
      have x1 := x.id.isLt
      clear hx hlast hl hn HNJ HEL
      generalize x.id.val = k at cx HNX x1
      have k0 : (0 : Int) ≤ ((k : Nat) : Int) := by omega
      have k1 : ((k : Nat) : Int) ≤ 65535 := by omega
      by_cases hk : k = 65534
      · have d1 : (((k : Nat) : Int) == 65534) = true := by simp [hk]
        have HN1 := Lib.hid (show nx = 1 from by rw [HNX.out]; unfold behindN; rw [if_pos hk])
        clear hk
        go_wp2_with fail
        go_ret
        exact ⟨by rw [HN1.out]; rfl, HM2.out⟩
      · have d1 : (((k : Nat) : Int) == 65534) = false := by simp; omega
        have HN1 := Lib.hid (show nx = k + 1 from by rw [HNX.out]; unfold behindN; rw [if_neg hk])
        clear hk
        go_wp2_with fail
        go_ret
        exact ⟨by rw [HN1.out]; rfl, HM2.out⟩
end Go.Proofs.Ytkdadnlleepkfaa

namespace Go.Proofs.Ytkdadnlleepkfaa
open Go.RowKit
set_option linter.unusedVariables false
set_option linter.unusedSimpArgs false
set_option maxRecDepth 100000
/-- The slot for the next record; -1: there is none. -/
def placeI (G : Geo) (S : LogS) : Int := if needG G S then -1 else ((S.used : Nat) : Int)
set_option maxHeartbeats 4000000 in
theorem rPlace_ok (w : World) (rb : Nat) (p : DevAt) (G : Geo) (D : Dev) (R : RLog) (h : RefAt w rb p G D R) :
    Calls Try.prog 69 #[.pointer (some ⟨rb, 0, none⟩)] w fun e w' => e = .returned (.int .i64 (placeI G (openS (byt D) G))) ∧ Mods [] w w' := by
  obtain ⟨g1, g2, g3, g4, g5⟩ := h.geo
  have H := Lib.hid h
  have hK := slots_le g3
  have n16 : G.n ≤ 16 := by omega
  have HNW := Lib.hid (rNewest_ok w rb p G D R h)
  have HF := Lib.hid (openS_facts (byt D) G)
  have HZ := Lib.hid (show (newS (byt D) G).1 = 0 → placeI G (openS (byt D) G) = -1 from fun h0 => by
    unfold placeI needG
    obtain ⟨f1, _⟩ := HF.out
    rw [f1, h0]
    rfl)
  have HU := Lib.hid (show 0 < (newS (byt D) G).1 → placeI G (openS (byt D) G) = if usedK (byt D) G (((newS (byt D) G).1 - 1) % G.n) G.slots = G.slots then -1 else ((usedK (byt D) G (((newS (byt D) G).1 - 1) % G.n) G.slots : Nat) : Int) from fun h0 => by
    have hO : openS (byt D) G = ⟨(newS (byt D) G).1, (newS (byt D) G).2, usedK (byt D) G (((newS (byt D) G).1 - 1) % G.n) G.slots, nextOf (byt D) G (newS (byt D) G).1, recsK (byt D) G (newS (byt D) G).2 ((newS (byt D) G).1 + 1 - (newS (byt D) G).2)⟩ := by
      unfold openS
      rw [if_neg (by omega)]
    unfold placeI needG
    rw [hO]
    simp only
    rw [decide_eq_false (show ¬ (newS (byt D) G).1 = 0 by omega), Bool.false_or]
    by_cases hc : usedK (byt D) G (((newS (byt D) G).1 - 1) % G.n) G.slots = G.slots
    · rw [if_pos hc, decide_eq_true hc]; rfl
    · rw [if_neg hc, decide_eq_false hc]; rfl)
  have HQ31 := Lib.hid (show (newS (byt D) G).1 ≤ 2147483648 from by obtain ⟨f1, _, f3, _⟩ := HF.out; omega)
  have HSL := Lib.hid (fun W => show Calls Try.prog 88 #[.int .i64 (G.size : Nat)] W fun e w' => e = .returned (.int .i64 (G.slots : Nat)) ∧ W = w' from rSlots_ok W G.size (by omega) (by omega))
  generalize placeI G (openS (byt D) G) = pl at HZ HU ⊢
  generalize newS (byt D) G = y at HNW HZ HU HQ31
  obtain ⟨q, t⟩ := y
  simp only at HNW HZ HU HQ31
  clear h HF
  go_enter Try.func69, Try.ntmps69
  go_wp2_with fail
  refine HNW.out.mono ?_
  rintro e w1 ⟨rfl, m, rfl⟩
  have HM1 := Lib.hid ((Mods.refl (S := []) (w := w)).drewN m)
  clear HNW
  by_cases h0 : q = 0
  · have HN1 := Lib.hid (HZ.out h0)
    subst h0
    clear HZ HU HQ31
    go_wp2_with fail
    go_ret
    exact ⟨by rw [HN1.out]; rfl, HM1.out⟩
  · have hd0 : (((q : Nat) : Int) == 0) = false := by simp; omega
    have hn0 : 0 < G.n := by omega
    obtain ⟨j, hj⟩ : ∃ j, j = (q - 1) % G.n := ⟨_, rfl⟩
    have hjn : j < G.n := by rw [hj]; exact Nat.mod_lt _ hn0
    have hq31 := HQ31.out
    have q0 : (0 : Int) ≤ ((q : Nat) : Int) := by omega
    have hT1 : (((q : Nat) : Int) - 1) % ((G.n : Nat) : Int) = ((j : Nat) : Int) := by rw [hj, Int.natCast_emod]; congr 1; omega
    have hT2 : (((q : Nat) : Int) - 1).tmod ((G.n : Nat) : Int) = ((j : Nat) : Int) := by rw [Int.tmod_eq_emod_of_nonneg (by omega)]; exact hT1
    have hn1 : ¬ ((G.n : Nat) : Int) = 0 := by omega
    have hn2 : (0 : Int) ≤ ((G.n : Nat) : Int) := by omega
    have hu := HU.out (by omega)
    rw [← hj] at hu
    have HUU := Lib.hid hu
    have HR1 := Lib.hid (H.out.drewN m)
    generalize w.drewN m = w1 at HM1 HR1 ⊢
    have c2 := HR1.out.c2
    have c0 := HR1.out.c0
    have d0 := HR1.out.d0
    have HJN := Lib.hid hjn
    obtain ⟨U, hU⟩ : ∃ U, U = usedK (byt D) G j G.slots := ⟨_, rfl⟩
    rw [← hU] at HUU
    have HUE := Lib.hid hU
    clear hj hjn h0 HZ HU HQ31 hu hU
    go_wp2_with fail
    refine (HSL.out _).mono ?_
    rintro e w' ⟨rfl, rfl⟩
    clear c2 c0 d0 hT1 hT2
    go_wp2_with fail
    go_loopw [6] (fun i' wr => ∃ i : Nat, i' = .int .i64 (i : Nat) ∧ i ≤ G.slots ∧ usedK (byt D) G j i = U ∧ Mods [] w wr) (fun i' _ => (intOf i').toNat)
    case atStart => exact ⟨G.slots, rfl, Nat.le_refl _, HUE.out.symm, HM1.out⟩
    case round =>
      obtain ⟨i, rfl, hi, hUi, hM⟩ := hrel
      have HUI0 := Lib.hid hUi
      have HM := Lib.hid hM
      have HR := Lib.hid (H.out.mods0 hM)
      have i0 : (0 : Int) ≤ (i : Int) := by omega
      have i59 : i ≤ 59 := by omega
      clear hM hUi
      by_cases hp : 0 < i
      · obtain ⟨k, rfl⟩ : ∃ k, i = k + 1 := ⟨i - 1, by omega⟩
        have i1 : (0 : Int) < ((k + 1 : Nat) : Int) := by omega
        have i2 : ((k + 1 : Nat) : Int) - 1 = ((k : Nat) : Int) := by omega
        have HS := Lib.hid (rSlot_ok wr rb p G D R HR.out j k HJN.out (by omega))
        go_wp2_with fail
        refine HS.out.mono ?_
        rintro e w2 ⟨x, ok, rfl, -, hm2⟩
        have HM2 := Lib.hid (HM.out.trans hm2)
        clear hm2 HS HM HR
        go_upto_region 8 with (refine wpList_store_row (cs := x.cells.toArray) rfl 37 (.tmp 7) (.tmp 40) rfl (heap_alloc_new w2 _) (by rfl) (by rfl) (by rfl) Try.sizeEv (Evt.one x) ?_; intro w3 R3 M3)
        have HM := Lib.hid (HM2.out.trans (freshA M3))
        have HR := Lib.hid (H.out.mods0 HM.out)
        clear R3 M3 HM2
        generalize w2.heap.size = g7
        cases hf : freeAt (byt D) (G.slot j k) with
        | true =>
          have HUI := Lib.hid (show usedK (byt D) G j k = U from by have h := HUI0.out; simp only [usedK] at h; rw [hf, if_pos rfl] at h; exact h)
          clear hf HUI0
          go_wp2_with fail
          go_roundw
          case rel => exact ⟨k, rfl, by omega, HUI.out, HM.out⟩
          case measure => simp [intOf]
        | false =>
          have HUI := Lib.hid (show k + 1 = U from by have h := HUI0.out; simp only [usedK] at h; rw [hf] at h; simpa using h)
          clear hf HUI0 i2
          obtain ⟨i, hik⟩ : ∃ i, i = k + 1 := ⟨_, rfl⟩
          have hki : ((k : Nat) : Int) + 1 = ((i : Nat) : Int) := by omega
          rw [← hik] at HUI hi i0 i59 i1
          rw [hki]
          clear hik hki
          have c0 := HR.out.c0
          have d0 := HR.out.d0
          go_wp2_with fail
          refine (HSL.out _).mono ?_
          rintro e w' ⟨rfl, rfl⟩
          by_cases hks : i = G.slots
          · have x1 : (((i : Nat) : Int) == ((G.slots : Nat) : Int)) = true := by simp [hks]
            have HV := Lib.hid (show pl = -1 from by rw [HUU.out, if_pos (by rw [← HUI.out]; exact hks)])
            clear hks hi
            go_wp2_with fail
            go_ret
            exact ⟨by rw [HV.out]; rfl, HM.out⟩
          · have x1 : (((i : Nat) : Int) == ((G.slots : Nat) : Int)) = false := by simp; omega
            have HV := Lib.hid (show pl = ((i : Nat) : Int) from by rw [HUU.out, if_neg (by rw [← HUI.out]; exact hks), HUI.out])
            clear hks hi
            go_wp2_with fail
            go_ret
            exact ⟨by rw [HV.out]; rfl, HM.out⟩
      · have HUI := Lib.hid (show i = U from by have h := HUI0.out; rw [show i = 0 by omega] at h ⊢; exact h)
        have i1 : ¬ (0 : Int) < ((i : Nat) : Int) := by omega
        clear hp HUI0
        go_upto_if 33 with (fail)
        have c0 := HR.out.c0
        have d0 := HR.out.d0
        go_wp2_with fail
        refine (HSL.out _).mono ?_
        rintro e w' ⟨rfl, rfl⟩
        by_cases hks : i = G.slots
        · have x1 : (((i : Nat) : Int) == ((G.slots : Nat) : Int)) = true := by simp [hks]
          have HV := Lib.hid (show pl = -1 from by rw [HUU.out, if_pos (by rw [← HUI.out]; exact hks)])
          clear hks hi
          go_wp2_with fail
          go_ret
          exact ⟨by rw [HV.out]; rfl, HM.out⟩
        · have x1 : (((i : Nat) : Int) == ((G.slots : Nat) : Int)) = false := by simp; omega
          have HV := Lib.hid (show pl = ((i : Nat) : Int) from by rw [HUU.out, if_neg (by rw [← HUI.out]; exact hks), HUI.out])
          clear hks hi
          go_wp2_with fail
          go_ret
          exact ⟨by rw [HV.out]; rfl, HM.out⟩
end Go.Proofs.Ytkdadnlleepkfaa

namespace Go.Proofs.Ytkdadnlleepkfaa
open Go.RowKit
set_option linter.unusedVariables false
set_option linter.unusedSimpArgs false
set_option maxRecDepth 100000
def getQ (t : Nat) (e : Evt) : Bool := decide (t = 0) || decide (e.id.val = t)
def getX (l : List Evt) (t : Nat) : Nat := l.findIdx (getQ t)
/-- What Get gives of events. -/
def getE (l : List Evt) (t : Nat) : Evt × Nat × Int :=
  if getX l t = l.length then (zE, 0, 8) else (l.getD (getX l t) evE.dflt, (if getX l t + 1 < l.length then (l.getD (getX l t + 1) evE.dflt).id.val else 0), 0)
theorem getR_E (l : List (Nat × Evt)) (t : Nat) : getR l t = getE (l.map (·.2)) t := by
  have h1 : getX (l.map (·.2)) t = getIdx l t := by
    unfold getX getIdx
    rw [List.findIdx_map]
    rfl
  have h2 : ∀ i, (l.map (·.2)).getD i evE.dflt = (l.getD i recE.dflt).2 := fun i => by
    rw [List.getD_eq_getElem?_getD, List.getD_eq_getElem?_getD, List.getElem?_map]
    cases l[i]? <;> rfl
  unfold getR getE
  rw [h1, List.length_map, h2, h2]
set_option maxHeartbeats 8000000 in
theorem rGet_ok (w : World) (rb : Nat) (p : DevAt) (G : Geo) (D : Dev) (R : RLog) (h : RefAt w rb p G D R) (t : Nat) :
    Calls Try.prog 74 #[.pointer (some ⟨rb, 0, none⟩), .int .u16 (t : Nat)] w fun e w' => e = .returned (.tuple #[.agg (getE (rRecs D G R) t).1.cells.toArray, .int .u16 ((getE (rRecs D G R) t).2.1 : Nat), .int .i64 (getE (rRecs D G R) t).2.2]) ∧ Mods [] w w' := by
  have H := Lib.hid h
  have HLN := Lib.hid (show (rRecs D G R).length ≤ 1000 from by
    unfold rRecs
    split
    · simp
    · rw [List.length_map]; exact openS_recs h.fit)
  have HRC := Lib.hid (fun W (M : Mods [] w W) => rRecords_ok W rb p G D R (h.mods0 M))
  generalize rRecs D G R = l at HLN HRC ⊢
  have HX := Lib.hid (show getE l t = if getX l t = l.length then (zE, 0, 8) else (l.getD (getX l t) evE.dflt, (if getX l t + 1 < l.length then (l.getD (getX l t + 1) evE.dflt).id.val else 0), 0) from rfl)
  obtain ⟨K, hK⟩ : ∃ K, K = getX l t := ⟨_, rfl⟩
  rw [← hK] at HX
  generalize getE l t = V at HX ⊢
  obtain ⟨V1, V2, V3⟩ := V
  simp only
  have hKl : K ≤ l.length := hK ▸ List.findIdx_le_length
  have HB := Lib.hid (fun j (hj : j < K) => show getQ t (l.getD j evE.dflt) = false from by
    have hj2 : j < l.length := by omega
    have := List.not_of_lt_findIdx (p := getQ t) (xs := l) (i := j) (by rw [hK] at hj; exact hj)
    rw [List.getD_eq_getElem?_getD, List.getElem?_eq_getElem hj2]
    simpa using this)
  have HA := Lib.hid (fun (h : K < l.length) => show getQ t (l.getD K evE.dflt) = true from by
    have := List.findIdx_getElem (p := getQ t) (xs := l) (w := by rw [hK] at h; exact h)
    rw [List.getD_eq_getElem?_getD, List.getElem?_eq_getElem h]
    subst hK
    exact this)
  have h1000 := HLN.out
  have M0 := Lib.hid ((Mods.refl (S := []) (w := w)).alloc (.cells #[.int .u16 0, .int .u32 0, .int .u16 0, .int .u8 0, .int .u8 0, .int .u8 0, .bool false, .int .u8 0, .int .u8 0, .int .u8 0] 37))
  have B0 := Lib.hid (heap_alloc_new w (.cells #[.int .u16 0, .int .u32 0, .int .u16 0, .int .u8 0, .int .u8 0, .int .u8 0, .bool false, .int .u8 0, .int .u8 0, .int .u8 0] 37))
  clear h hK
  go_enter Try.func74, Try.ntmps74
  go_upto_region 1 with (fail)
  generalize w.alloc (.cells #[.int .u16 0, .int .u32 0, .int .u16 0, .int .u8 0, .int .u8 0, .int .u8 0, .bool false, .int .u8 0, .int .u8 0, .int .u8 0] 37) = w0 at B0 M0 ⊢
  generalize hg0 : w.heap.size = g0 at B0 ⊢
  have HG0 := Lib.hid (Nat.le_of_eq hg0)
  clear hg0
  go_wp2_with fail
  refine (HRC.out w0 M0.out).mono ?_
  rintro e w1 ⟨v1, rfl, ho1, hm1⟩
  have HV := Lib.hid (ho1.rd evOk)
  have HB1 := Lib.hid (hm1.heap B0.out (by simp))
  have HM1 := Lib.hid (M0.out.trans hm1)
  have HNG := Lib.hid (show ∀ y, v1.ownBlock = some y → y ≠ g0 from fun y hy => by have h1 := (ho1.lt y hy).1; have h2 := lt_of_block B0.out; omega)
  obtain ⟨ad, cap, hv⟩ := HV.out.len
  rw [hv] at HV HNG ⊢
  clear ho1 hm1 hv M0 B0 HRC H
  go_wp2_with fail
  go_loopw [8] (fun i wr => ∃ k : Nat, k ≤ K ∧ i = .int .i64 k ∧ Mods [] w1 wr) (fun i _ => K - (intOf i).toNat)
  case atStart => exact ⟨0, Nat.zero_le _, rfl, Mods.refl⟩
  case round =>
    obtain ⟨k, hk, rfl, M⟩ := hrel
    have HM := Lib.hid M
    have i0 : (0 : Int) ≤ (k : Int) := by omega
    have i1000 : k ≤ 1000 := by omega
    clear M
    by_cases hlt : k < l.length
    · have i1 : (k : Int) < (l.length : Int) := by omega
      have HRW := Lib.hid (HV.out.mods0 evOk HM.out)
      obtain ⟨bb, off, cp, hv2, _, _, hat⟩ := HRW.out.at (by omega)
      injection hv2 with hv3 _ hv4
      subst hv3 hv4
      have HBk := Lib.hid (HB.out k)
      have HAk := Lib.hid (fun h : k = K => show getQ t (l.getD k evE.dflt) = true from by rw [h]; exact HA.out (h ▸ hlt))
      have HRG := Lib.hid (HRW.out.range hlt evOk.len)
      have HNX := Lib.hid (fun (h : k + 1 < l.length) => show wr.cell? ⟨bb, off + (k + 1) * 10, none⟩ = some (.int .u16 (((l.getD (k + 1) evE.dflt).id.val : Nat) : Int)) from (hat (k + 1) h 0 (by decide)).trans rfl)
      have HBW := Lib.hid (HM.out.heap HB1.out (by simp))
      have HBG := Lib.hid (show bb ≠ g0 from HNG.out bb rfl)
      have HXK := Lib.hid (show k = K → (V1 = l.getD k evE.dflt ∧ V3 = 0 ∧ V2 = if k + 1 < l.length then (l.getD (k + 1) evE.dflt).id.val else 0) from fun h => by
        have hx := HX.out
        rw [← h, if_neg (by omega)] at hx
        injection hx with h1 h2
        injection h2 with h2 h3
        exact ⟨h1, h3, h2⟩)
      generalize (l.getD (k + 1) evE.dflt).id.val = nx at HNX HXK
      generalize l.getD k evE.dflt = x at HBk HAk HRG HXK
      have HRG : Hid (wr.rangeAt bb (off + k * 10) x.cells) := HRG
      have cid := HRG.out 0 (.int .u16 ((x.id.val : Nat) : Int)) (by rfl)
      rw [Nat.add_zero] at cid
      clear hat HRW
      by_cases hkK : k < K
      · have hD := HBk.out hkK
        unfold getQ at hD
        have ht : t ≠ 0 ∧ x.id.val ≠ t := by simpa using hD
        have d1 : (((t : Nat) : Int) != 0) = true := by simpa using ht.1
        have d2 : (((x.id.val : Nat) : Int) != ((t : Nat) : Int)) = true := by have := ht.2; simp; omega
        clear hD ht hlt
        go_wp2_with fail
        go_roundw
        case rel => exact ⟨k + 1, by omega, by go_num, HM.out⟩
        case measure => simp [intOf]; omega
      · have hkK' : k = K := by omega
        have hD := HAk.out hkK'
        have HV1 := Lib.hid (HXK.out hkK')
        unfold getQ at hD
        have ht : t = 0 ∨ (t ≠ 0 ∧ x.id.val = t) := by
          simp at hD
          omega
        clear hD HBk HAk HXK HB HA HX hkK hkK'
        rcases ht with ht | ⟨ht, hx⟩
        · have d1 : (((t : Nat) : Int) != 0) = false := by simp [ht]
          clear ht
          by_cases hnx : k + 1 < l.length
          · have j1 : ((k : Nat) : Int) + 1 < ((l.length : Nat) : Int) := by omega
            have HN := Lib.hid (HNX.out hnx)
            have HV2 := Lib.hid (show V1 = x ∧ V3 = 0 ∧ V2 = nx from by obtain ⟨h1, h2, h3⟩ := HV1.out; rw [if_pos hnx] at h3; exact ⟨h1, h2, h3⟩)
            clear HNX hnx HV1
            go_upto_region 7 with (fail)
            refine heldStart (S := fun W => Mods [g0] wr W) 13 rfl (by kernel_rfl) Mods.refl.drew (fun hHeld => ?_)
            refine takeD (i := 0) (d := 33) (v := ?_) rfl rfl (by kernel_rfl) (by kernel_rfl) (by kernel_rfl) (fun _ _ _ h => h) (Or.inl ⟨by rfl, ?_⟩) hHeld ?_
            rotate_left 1
            · (intro w hSw; (try dsimp only at hSw); go_simp; (try with_reducible rfl))
            simp only [List.setIfInBounds_toArray, List.set_cons_zero, List.set_cons_succ]
            refine takeD (i := 1) (d := 34) (v := ?_) rfl rfl (by kernel_rfl) (by kernel_rfl) (by kernel_rfl) (fun _ _ _ h => h) (Or.inl ⟨by rfl, ?_⟩) hHeld ?_
            rotate_left 1
            · (intro w hSw; (try dsimp only at hSw); go_simp; (try with_reducible rfl))
            simp only [List.setIfInBounds_toArray, List.set_cons_zero, List.set_cons_succ]
            refine takeD (i := 2) (d := 35) (v := ?_) rfl rfl (by kernel_rfl) (by kernel_rfl) (by kernel_rfl) (fun _ _ _ h => h) (Or.inl ⟨by rfl, ?_⟩) hHeld ?_
            rotate_left 1
            · (intro w hSw; (try dsimp only at hSw); go_simp; (try with_reducible rfl))
            simp only [List.setIfInBounds_toArray, List.set_cons_zero, List.set_cons_succ]
            refine takeD (i := 3) (d := 36) (v := .agg x.cells.toArray) rfl rfl (by kernel_rfl) (by kernel_rfl) (by kernel_rfl) (fun _ _ _ h => h) (yieldsIf_load_mid (by rfl) 37 (.tmp 35) rfl bb (off + k * 10) rfl x.cells _ (fun W h i u hu => h.cell (HRG.out i u hu) (by have := HBG.out; simp; exact this)) Try.underlying37 rfl Try.sizeEv) hHeld ?_
            simp only [List.setIfInBounds_toArray, List.set_cons_zero, List.set_cons_succ]
            refine takeD (i := 4) (d := 37) (v := ?_) rfl rfl (by kernel_rfl) (by kernel_rfl) (by kernel_rfl) (fun _ _ _ h => h) (Or.inl ⟨by rfl, ?_⟩) hHeld ?_
            rotate_left 1
            · (intro w hSw; (try dsimp only at hSw); go_simp; (try with_reducible rfl))
            simp only [List.setIfInBounds_toArray, List.set_cons_zero, List.set_cons_succ]
            refine takeD (i := 5) (d := 38) (v := ?_) rfl rfl (by kernel_rfl) (by kernel_rfl) (by kernel_rfl) (fun _ _ _ h => h) (Or.inl ⟨by rfl, ?_⟩) hHeld ?_
            rotate_left 1
            · (intro w hSw; (try dsimp only at hSw); go_simp; (try with_reducible rfl))
            simp only [List.setIfInBounds_toArray, List.set_cons_zero, List.set_cons_succ]
            refine takeD (i := 6) (d := 39) (v := .int .i64 (((k : Nat) : Int) + 1)) rfl rfl (by kernel_rfl) (by kernel_rfl) (by kernel_rfl) (fun _ _ _ h => h) (Or.inl ⟨by rfl, fun w hSw => ?_⟩) hHeld ?_
            · have hwr : IntKind.i64.wrap (((k : Nat) : Int) + 1) = ((k : Nat) : Int) + 1 := IntWalk.i64_in _ (by omega)
              (try dsimp only at hSw)
              go_simp
              try rw [hwr]
            simp only [List.setIfInBounds_toArray, List.set_cons_zero, List.set_cons_succ]
            refine takeD (i := 7) (d := 40) (v := .pointer (some ⟨bb, off + (k + 1) * 10, none⟩)) rfl rfl (by kernel_rfl) (by kernel_rfl) (by kernel_rfl) (fun _ _ _ h => h) (Or.inl ⟨by rfl, fun w hSw => ?_⟩) hHeld ?_
            · have j0 : (0 : Int) ≤ ((k : Nat) : Int) + 1 := by omega
              have j2 : (((k : Nat) : Int) + 1).toNat = k + 1 := by omega
              (try dsimp only at hSw)
              go_simp
              try rfl
            simp only [List.setIfInBounds_toArray, List.set_cons_zero, List.set_cons_succ]
            refine takeD (i := 8) (d := 41) (v := ?_) rfl rfl (by kernel_rfl) (by kernel_rfl) (by kernel_rfl) (fun _ _ _ h => h) (Or.inl ⟨by rfl, ?_⟩) hHeld ?_
            rotate_left 1
            · (intro w hSw; (try dsimp only at hSw); go_simp; (try with_reducible rfl))
            simp only [List.setIfInBounds_toArray, List.set_cons_zero, List.set_cons_succ]
            refine takeD (i := 9) (d := 42) (v := .int .u16 (nx : Nat)) rfl rfl (by kernel_rfl) (by kernel_rfl) (by kernel_rfl) (fun _ _ _ h => h) (Or.inl ⟨by rfl, fun w hSw => ?_⟩) hHeld ?_
            · have cst := hSw.cell HN.out (by have := HBG.out; simp; exact this)
              go_simp
            simp only [List.setIfInBounds_toArray, List.set_cons_zero, List.set_cons_succ]
            refine wpAnyH_ready (rs := [10]) (by kernel_rfl) (by simp) ?_
            refine AllReadyH.cons rfl (fun K hK => ?_) AllReadyH.nil
            refine exec_store (cs := x.cells.toArray) rfl rfl rfl (show wr.drew.heap[g0]? = _ from HBW.out) rfl rfl (by rfl) Try.sizeEv (Evt.one x) (fun W4 R4 M4 => ?_)
            have HM4 := Lib.hid (show Mods [g0] wr W4 from hHeld.trans M4)
            clear hHeld
            refine hK.out _ _ HM4.out (fun hHeld => ?_)
            clear hK K
            refine takeD (i := 11) (d := 5) (v := ?_) rfl rfl (by kernel_rfl) (by kernel_rfl) (by kernel_rfl) (fun _ _ _ h => h) (Or.inl ⟨by rfl, ?_⟩) hHeld ?_
            rotate_left 1
            · (intro w hSw; (try dsimp only at hSw); go_simp; (try with_reducible rfl))
            simp only [List.setIfInBounds_toArray, List.set_cons_zero, List.set_cons_succ]
            refine takeD (i := 12) (d := 6) (v := ?_) rfl rfl (by kernel_rfl) (by kernel_rfl) (by kernel_rfl) (fun _ _ _ h => h) (Or.inl ⟨by rfl, ?_⟩) hHeld ?_
            rotate_left 1
            · (intro w hSw; (try dsimp only at hSw); go_simp; (try with_reducible rfl))
            simp only [List.setIfInBounds_toArray, List.set_cons_zero, List.set_cons_succ]
            clear hHeld
            refine wpAnyH_done (by kernel_rfl) ?_ _
            go_wp2_with fail
            refine bodyPost_ret (results_cell_row3 rfl _ _ g0 _ _ _ _ rfl R4 Try.underlying37 rfl Try.sizeEv) rfl ?_
            obtain ⟨h1, h2, h3⟩ := HV2.out
            exact ⟨by rw [h1, h2, h3]; rfl, (HM1.out.trans HM.out).comp HM4.out (fun y hy => .inr (by simp at hy; subst hy; exact HG0.out))⟩
          · have j1 : ¬ ((k : Nat) : Int) + 1 < ((l.length : Nat) : Int) := by omega
            have HV2 := Lib.hid (show V1 = x ∧ V3 = 0 ∧ V2 = 0 from by obtain ⟨h1, h2, h3⟩ := HV1.out; rw [if_neg hnx] at h3; exact ⟨h1, h2, h3⟩)
            clear HNX hnx HV1
            go_upto_region 8 with (fail)
            go_wp2_with (first
              | (refine wpList_load_mid rfl 37 (.tmp 45) rfl bb (off + k * 10) (by rfl) x.cells _ HRG.out Try.underlying37 rfl Try.sizeEv ?_)
              | (refine wpList_store_row (cs := x.cells.toArray) rfl 37 (.tmp 4) (.tmp 46) rfl HBW.out (by rfl) (by rfl) (by rfl) Try.sizeEv (Evt.one x) ?_; intro W4 R4 M4))
            refine bodyPost_ret (results_cell_row3 rfl _ _ g0 _ _ _ _ rfl R4 Try.underlying37 rfl Try.sizeEv) rfl ?_
            obtain ⟨h1, h2, h3⟩ := HV2.out
            exact ⟨by rw [h1, h2, h3]; rfl, (HM1.out.trans HM.out).comp M4 (fun y hy => .inr (by simp at hy; subst hy; exact HG0.out))⟩
        · have d1 : (((t : Nat) : Int) != 0) = true := by simpa using ht
          have d2 : (((x.id.val : Nat) : Int) != ((t : Nat) : Int)) = false := by simp [hx]
          clear ht hx
          by_cases hnx : k + 1 < l.length
          · have j1 : ((k : Nat) : Int) + 1 < ((l.length : Nat) : Int) := by omega
            have HN := Lib.hid (HNX.out hnx)
            have HV2 := Lib.hid (show V1 = x ∧ V3 = 0 ∧ V2 = nx from by obtain ⟨h1, h2, h3⟩ := HV1.out; rw [if_pos hnx] at h3; exact ⟨h1, h2, h3⟩)
            clear HNX hnx HV1
            go_upto_region 7 with (fail)
            refine heldStart (S := fun W => Mods [g0] wr W) 13 rfl (by kernel_rfl) Mods.refl.drew (fun hHeld => ?_)
            refine takeD (i := 0) (d := 33) (v := ?_) rfl rfl (by kernel_rfl) (by kernel_rfl) (by kernel_rfl) (fun _ _ _ h => h) (Or.inl ⟨by rfl, ?_⟩) hHeld ?_
            rotate_left 1
            · (intro w hSw; (try dsimp only at hSw); go_simp; (try with_reducible rfl))
            simp only [List.setIfInBounds_toArray, List.set_cons_zero, List.set_cons_succ]
            refine takeD (i := 1) (d := 34) (v := ?_) rfl rfl (by kernel_rfl) (by kernel_rfl) (by kernel_rfl) (fun _ _ _ h => h) (Or.inl ⟨by rfl, ?_⟩) hHeld ?_
            rotate_left 1
            · (intro w hSw; (try dsimp only at hSw); go_simp; (try with_reducible rfl))
            simp only [List.setIfInBounds_toArray, List.set_cons_zero, List.set_cons_succ]
            refine takeD (i := 2) (d := 35) (v := ?_) rfl rfl (by kernel_rfl) (by kernel_rfl) (by kernel_rfl) (fun _ _ _ h => h) (Or.inl ⟨by rfl, ?_⟩) hHeld ?_
            rotate_left 1
            · (intro w hSw; (try dsimp only at hSw); go_simp; (try with_reducible rfl))
            simp only [List.setIfInBounds_toArray, List.set_cons_zero, List.set_cons_succ]
            refine takeD (i := 3) (d := 36) (v := .agg x.cells.toArray) rfl rfl (by kernel_rfl) (by kernel_rfl) (by kernel_rfl) (fun _ _ _ h => h) (yieldsIf_load_mid (by rfl) 37 (.tmp 35) rfl bb (off + k * 10) rfl x.cells _ (fun W h i u hu => h.cell (HRG.out i u hu) (by have := HBG.out; simp; exact this)) Try.underlying37 rfl Try.sizeEv) hHeld ?_
            simp only [List.setIfInBounds_toArray, List.set_cons_zero, List.set_cons_succ]
            refine takeD (i := 4) (d := 37) (v := ?_) rfl rfl (by kernel_rfl) (by kernel_rfl) (by kernel_rfl) (fun _ _ _ h => h) (Or.inl ⟨by rfl, ?_⟩) hHeld ?_
            rotate_left 1
            · (intro w hSw; (try dsimp only at hSw); go_simp; (try with_reducible rfl))
            simp only [List.setIfInBounds_toArray, List.set_cons_zero, List.set_cons_succ]
            refine takeD (i := 5) (d := 38) (v := ?_) rfl rfl (by kernel_rfl) (by kernel_rfl) (by kernel_rfl) (fun _ _ _ h => h) (Or.inl ⟨by rfl, ?_⟩) hHeld ?_
            rotate_left 1
            · (intro w hSw; (try dsimp only at hSw); go_simp; (try with_reducible rfl))
            simp only [List.setIfInBounds_toArray, List.set_cons_zero, List.set_cons_succ]
            refine takeD (i := 6) (d := 39) (v := .int .i64 (((k : Nat) : Int) + 1)) rfl rfl (by kernel_rfl) (by kernel_rfl) (by kernel_rfl) (fun _ _ _ h => h) (Or.inl ⟨by rfl, fun w hSw => ?_⟩) hHeld ?_
            · have hwr : IntKind.i64.wrap (((k : Nat) : Int) + 1) = ((k : Nat) : Int) + 1 := IntWalk.i64_in _ (by omega)
              (try dsimp only at hSw)
              go_simp
              try rw [hwr]
            simp only [List.setIfInBounds_toArray, List.set_cons_zero, List.set_cons_succ]
            refine takeD (i := 7) (d := 40) (v := .pointer (some ⟨bb, off + (k + 1) * 10, none⟩)) rfl rfl (by kernel_rfl) (by kernel_rfl) (by kernel_rfl) (fun _ _ _ h => h) (Or.inl ⟨by rfl, fun w hSw => ?_⟩) hHeld ?_
            · have j0 : (0 : Int) ≤ ((k : Nat) : Int) + 1 := by omega
              have j2 : (((k : Nat) : Int) + 1).toNat = k + 1 := by omega
              (try dsimp only at hSw)
              go_simp
              try rfl
            simp only [List.setIfInBounds_toArray, List.set_cons_zero, List.set_cons_succ]
            refine takeD (i := 8) (d := 41) (v := ?_) rfl rfl (by kernel_rfl) (by kernel_rfl) (by kernel_rfl) (fun _ _ _ h => h) (Or.inl ⟨by rfl, ?_⟩) hHeld ?_
            rotate_left 1
            · (intro w hSw; (try dsimp only at hSw); go_simp; (try with_reducible rfl))
            simp only [List.setIfInBounds_toArray, List.set_cons_zero, List.set_cons_succ]
            refine takeD (i := 9) (d := 42) (v := .int .u16 (nx : Nat)) rfl rfl (by kernel_rfl) (by kernel_rfl) (by kernel_rfl) (fun _ _ _ h => h) (Or.inl ⟨by rfl, fun w hSw => ?_⟩) hHeld ?_
            · have cst := hSw.cell HN.out (by have := HBG.out; simp; exact this)
              go_simp
            simp only [List.setIfInBounds_toArray, List.set_cons_zero, List.set_cons_succ]
            refine wpAnyH_ready (rs := [10]) (by kernel_rfl) (by simp) ?_
            refine AllReadyH.cons rfl (fun K hK => ?_) AllReadyH.nil
            refine exec_store (cs := x.cells.toArray) rfl rfl rfl (show wr.drew.heap[g0]? = _ from HBW.out) rfl rfl (by rfl) Try.sizeEv (Evt.one x) (fun W4 R4 M4 => ?_)
            have HM4 := Lib.hid (show Mods [g0] wr W4 from hHeld.trans M4)
            clear hHeld
            refine hK.out _ _ HM4.out (fun hHeld => ?_)
            clear hK K
            refine takeD (i := 11) (d := 5) (v := ?_) rfl rfl (by kernel_rfl) (by kernel_rfl) (by kernel_rfl) (fun _ _ _ h => h) (Or.inl ⟨by rfl, ?_⟩) hHeld ?_
            rotate_left 1
            · (intro w hSw; (try dsimp only at hSw); go_simp; (try with_reducible rfl))
            simp only [List.setIfInBounds_toArray, List.set_cons_zero, List.set_cons_succ]
            refine takeD (i := 12) (d := 6) (v := ?_) rfl rfl (by kernel_rfl) (by kernel_rfl) (by kernel_rfl) (fun _ _ _ h => h) (Or.inl ⟨by rfl, ?_⟩) hHeld ?_
            rotate_left 1
            · (intro w hSw; (try dsimp only at hSw); go_simp; (try with_reducible rfl))
            simp only [List.setIfInBounds_toArray, List.set_cons_zero, List.set_cons_succ]
            clear hHeld
            refine wpAnyH_done (by kernel_rfl) ?_ _
            go_wp2_with fail
            refine bodyPost_ret (results_cell_row3 rfl _ _ g0 _ _ _ _ rfl R4 Try.underlying37 rfl Try.sizeEv) rfl ?_
            obtain ⟨h1, h2, h3⟩ := HV2.out
            exact ⟨by rw [h1, h2, h3]; rfl, (HM1.out.trans HM.out).comp HM4.out (fun y hy => .inr (by simp at hy; subst hy; exact HG0.out))⟩
          · have j1 : ¬ ((k : Nat) : Int) + 1 < ((l.length : Nat) : Int) := by omega
            have HV2 := Lib.hid (show V1 = x ∧ V3 = 0 ∧ V2 = 0 from by obtain ⟨h1, h2, h3⟩ := HV1.out; rw [if_neg hnx] at h3; exact ⟨h1, h2, h3⟩)
            clear HNX hnx HV1
            go_upto_region 8 with (fail)
            go_wp2_with (first
              | (refine wpList_load_mid rfl 37 (.tmp 45) rfl bb (off + k * 10) (by rfl) x.cells _ HRG.out Try.underlying37 rfl Try.sizeEv ?_)
              | (refine wpList_store_row (cs := x.cells.toArray) rfl 37 (.tmp 4) (.tmp 46) rfl HBW.out (by rfl) (by rfl) (by rfl) Try.sizeEv (Evt.one x) ?_; intro W4 R4 M4))
            refine bodyPost_ret (results_cell_row3 rfl _ _ g0 _ _ _ _ rfl R4 Try.underlying37 rfl Try.sizeEv) rfl ?_
            obtain ⟨h1, h2, h3⟩ := HV2.out
            exact ⟨by rw [h1, h2, h3]; rfl, (HM1.out.trans HM.out).comp M4 (fun y hy => .inr (by simp at hy; subst hy; exact HG0.out))⟩
    · have HV1 := Lib.hid (show V1 = zE ∧ V2 = 0 ∧ V3 = 8 from by
        have hx := HX.out
        rw [if_pos (by omega)] at hx
        injection hx with h1 h2
        injection h2 with h2 h3
        exact ⟨h1, h2, h3⟩)
      have i1 : ¬ (k : Int) < (l.length : Int) := by omega
      have HBW := Lib.hid (HM.out.heap HB1.out (by simp))
      clear hk hKl hlt HB HA HX
      go_wp2_with (refine wpList_store_row (cs := zE.cells.toArray) rfl 37 (.tmp 4) (.tmp 47) rfl HBW.out (by rfl) (by rfl) (by rfl) Try.sizeEv (Evt.one zE) ?_; intro W4 R4 M4)
      refine bodyPost_ret (results_cell_row3 rfl _ _ g0 _ _ _ _ rfl R4 Try.underlying37 rfl Try.sizeEv) rfl ?_
      obtain ⟨h1, h2, h3⟩ := HV1.out
      exact ⟨by rw [h1, h2, h3]; rfl, (HM1.out.trans HM.out).comp M4 (fun y hy => .inr (by simp at hy; subst hy; exact HG0.out))⟩
end Go.Proofs.Ytkdadnlleepkfaa

namespace Go.Proofs.Ytkdadnlleepkfaa
open Go.RowKit
set_option linter.unusedVariables false
set_option linter.unusedSimpArgs false
set_option maxRecDepth 100000
theorem IsDev.setElse {w : World} {p : DevAt} {D : Dev} (h : IsDev w p D) {a : Addr} (v : Value) (hn : a.block ∉ p.foot) : IsDev (w.setCell a v) p D :=
  h.mods ((Mods.refl (S := [a.block]) (w := w)).setCell (.inl (by simp)) v) (fun k hk hm => hn (by simp at hm; subst hm; exact hk))
theorem RefAt.put {w : World} {rb : Nat} {p : DevAt} {G : Geo} {D : Dev} {R : RLog} (h : RefAt w rb p G D R) (i : Nat) (v : Value) {R' : RLog} (hc : (rlCells p.b G R).setIfInBounds i v = rlCells p.b G R') : RefAt (w.setCell ⟨rb, i, none⟩ v) rb p G D R' :=
  ⟨by rw [← hc]; exact heap_setCell h.blk, h.dev.setElse v h.apart, h.apart, h.fit⟩
def rEnd (R : RLog) : RLog := { R with ended := true, refused := false }
def rLast (n : Nat) : Nat := n % 65535 + 1
def rRes (R : RLog) : RLog := if R.ended then R else { R with last := rLast R.last, held := true }
set_option maxHeartbeats 2000000 in
theorem rEnd_ok (w : World) (rb : Nat) (p : DevAt) (G : Geo) (D : Dev) (R : RLog) (h : RefAt w rb p G D R) :
    Calls Try.prog 66 #[.pointer (some ⟨rb, 0, none⟩)] w fun e w' => e = .returned (.int .i64 10) ∧ RefAt w' rb p G D (rEnd R) ∧ Mods [rb] w w' := by
  have c7 := h.c7
  have c4 := h.c4
  have ff := fun i => froz_blk h.blk i
  have H := Lib.hid h
  clear h
  go_enter Try.func66, Try.ntmps66
  go_wp2_with fail
  go_ret
  exact ⟨rfl, (H.out.put 7 (.bool true) (R' := { R with ended := true }) rfl).put 4 (.bool false) (R' := rEnd R) rfl, (Mods.refl.setCell (.inl (by simp)) _).setCell (.inl (by simp)) _⟩
set_option maxHeartbeats 2000000 in
theorem rReserve_ok (w : World) (rb : Nat) (p : DevAt) (G : Geo) (D : Dev) (R : RLog) (h : RefAt w rb p G D R) (hl : R.last ≤ 65535) :
    Calls Try.prog 42 #[.pointer (some ⟨rb, 0, none⟩)] w fun e w' => e = .returned (.int .u16 ((if R.ended then 0 else rLast R.last : Nat) : Int)) ∧ RefAt w' rb p G D (rRes R) ∧ Mods [rb] w w' := by
  have c7 := h.c7
  have c5 := h.c5
  have c6 := h.c6
  have ff := fun i => froz_blk h.blk i
  have H := Lib.hid h
  have h65 : ((R.last : Nat) : Int) ≤ 65535 := by omega
  have h0 : (0 : Int) ≤ ((R.last : Nat) : Int) := by omega
  obtain ⟨r, hr⟩ : ∃ r, r = R.last % 65535 := ⟨_, rfl⟩
  have hT : ((R.last : Nat) : Int) % 65535 = ((r : Nat) : Int) := by rw [hr]; omega
  have hT2 : ((R.last : Nat) : Int).tmod 65535 = ((r : Nat) : Int) := by rw [Int.tmod_eq_emod_of_nonneg (by omega)]; exact hT
  have hr2 : r < 65535 := by rw [hr]; omega
  have HRL := Lib.hid (show rLast R.last = r + 1 from by rw [hr]; rfl)
  have hw : IntKind.u16.wrap (((r : Nat) : Int) + 1) = ((r : Nat) : Int) + 1 := by rw [IntKind.wrap_u16]; omega
  clear h hr hl
  cases he : R.ended with
  | true =>
    rw [he] at c7
    have HR := Lib.hid (show rRes R = R from by unfold rRes; rw [he]; rfl)
    clear he
    go_enter Try.func42, Try.ntmps42
    go_wp2_with fail
    go_ret
    exact ⟨rfl, by rw [HR.out]; exact H.out, Mods.refl⟩
  | false =>
    rw [he] at c7
    have HR := Lib.hid (show rRes R = { R with last := r + 1, held := true } from by unfold rRes; rw [he, HRL.out]; rfl)
    clear he
    go_enter Try.func42, Try.ntmps42
    go_wp2_with fail
    go_ret
    refine ⟨by rw [HRL.out]; rfl, ?_, (Mods.refl.setCell (.inl (by simp)) _).setCell (.inl (by simp)) _⟩
    rw [HR.out]
    exact (H.out.put 5 (.int .i64 (((r : Nat) : Int) + 1)) (R' := { R with last := r + 1 }) rfl).put 6 (.bool true) (R' := { R with last := r + 1, held := true }) rfl
def newR (over : Bool) : RLog := ⟨over, false, 0, false, false⟩
set_option maxHeartbeats 2000000 in
/-- Open in a place that fits. -/
theorem rOpen_ok (w : World) (p : DevAt) (D : Dev) (G : Geo) (h : IsDev w p D) (F : Fits G D) (hd : D.down = false) (over : Bool) :
    Calls Try.prog 34 #[.pointer (some ⟨p.b, 0, none⟩), .int .i64 (G.first : Nat), .int .i64 (G.n : Nat), .bool over] w fun e w' => ∃ rb, e = .returned (.tuple #[.pointer (some ⟨rb, 0, none⟩), .int .i64 0]) ∧ RefAt w' rb p G D (newR over) ∧ w.heap.size ≤ rb ∧ Mods [] w w' := by
  have c2 := h.c2
  have c6 := h.c6
  rw [hd] at c6
  have hs := F.sec
  have hn := F.n2
  have hw := F.ok.wl
  have H := Lib.hid h
  have HF := Lib.hid F
  have d1 : decide (((G.n : Nat) : Int) < 2) = false := decide_eq_false (by omega)
  have d2 : decide (((D.wear.length : Nat) : Int) < ((G.n : Nat) : Int)) = false := decide_eq_false (by omega)
  have d2' : decide (D.wear.length < G.n) = false := decide_eq_false (by omega)
  have d3 : decide (((G.first : Nat) : Int) < 0) = false := decide_eq_false (by omega)
  have d4 : decide (((D.wear.length : Nat) : Int) - ((G.n : Nat) : Int) < ((G.first : Nat) : Int)) = false := decide_eq_false (by omega)
  have b1 : ((D.wear.length : Nat) : Int) ≤ 16 := by omega
  have b2 : ((G.n : Nat) : Int) ≤ 16 := by omega
  clear h F hd hs hn hw
  go_enter Try.func34, Try.ntmps34
  go_wp2_with fail
  go_ret2
  refine ⟨w.heap.size, rfl, ⟨?_, H.out.mods0 (Mods.refl.alloc _), fun hm => ?_, HF.out⟩, Nat.le_refl _, Mods.refl.alloc _⟩
  · exact heap_alloc_new w _
  · have := H.out.lt _ hm
    omega
end Go.Proofs.Ytkdadnlleepkfaa
