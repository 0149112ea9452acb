/- Dice and small comparisons: contracts. -/
import Derived.Test.YtkdadnlleepkfaaNums
namespace Go.Proofs.Ytkdadnlleepkfaa
open Go.RowKit

/-- Dice at block b over the numbers L, at place n. -/
structure IsDice (w : World) (b : Nat) (v : Value) (L : List Int) (n : Nat) : Prop where
  hb : ∃ T, w.heap[b]? = some (.cells #[v, .int .i64 n] T (0, 0))
  rd : Rd w v (i64s L)
  ne : L ≠ [] → ∀ k, v.ownBlock = some k → k ≠ b
  len : L.length ≤ 1000000
  bnd : ∀ i, I64 (L.getD i 0)
  le : n ≤ L.length

section
variable {w w' : World} {b n : Nat} {v : Value} {L : List Int}
theorem IsDice.c0 (h : IsDice w b v L n) : w.cell? ⟨b, 0, none⟩ = some v := by obtain ⟨T, h⟩ := h.hb; rw [cell_blk h]; rfl
theorem IsDice.c1 (h : IsDice w b v L n) : w.cell? ⟨b, 1, none⟩ = some (.int .i64 n) := by obtain ⟨T, h⟩ := h.hb; rw [cell_blk h]; rfl
theorem IsDice.fb (h : IsDice w b v L n) : ∀ i, w.frozen? ⟨b, i, none⟩ = false := by obtain ⟨T, h⟩ := h.hb; exact froz_blk h
theorem IsDice.lt (h : IsDice w b v L n) : b < w.heap.size := by obtain ⟨T, h⟩ := h.hb; exact lt_of_block h
theorem IsDice.mods {S : List Nat} (h : IsDice w b v L n) (hm : Mods S w w') (hn : b ∉ S) (hv : L ≠ [] → ∀ k, v.ownBlock = some k → k ∉ S) : IsDice w' b v L n := by
  obtain ⟨T, hb⟩ := h.hb
  exact ⟨⟨T, hm.heap hb hn⟩, h.rd.mods hm (fun hl => hv (fun e => hl (by rw [e]; rfl))), h.ne, h.len, h.bnd, h.le⟩
theorem IsDice.mods0 (h : IsDice w b v L n) (hm : Mods [] w w') : IsDice w' b v L n := h.mods hm (by simp) fun _ _ _ => by simp
theorem IsDice.set1 (h : IsDice w b v L n) {k : Nat} (hk : k ≤ L.length) : IsDice (w.setCell ⟨b, 1, none⟩ (.int .i64 k)) b v L k := by
  obtain ⟨T, hb⟩ := h.hb
  refine ⟨⟨T, by rw [heap_setCell hb]; rfl⟩, h.rd.mods (S := [b]) (Mods.refl.setCell (.inl (by simp)) _) (fun hl j hj => by simpa using h.ne (fun e => hl (by rw [e]; rfl)) j hj), h.ne, h.len, h.bnd, hk⟩
end

/-- A number of the dice from 0 to m - 1; the dice go on. -/
def Rolled (w : World) (b : Nat) (v : Value) (L : List Int) (m : Int) (e : Ending) (w' : World) : Prop :=
  ∃ (r : Int) (n : Nat), e = .returned (.int .i64 r) ∧ 0 ≤ r ∧ r < m ∧ IsDice w' b v L n ∧ Mods [b] w w'

set_option maxHeartbeats 400000 in
theorem next_ok (w : World) (b : Nat) (v : Value) (L : List Int) (n : Nat) (h : IsDice w b v L n) (m : Int) (hm : 0 < m) (hm2 : m ≤ 4611686018427387904) :
    Calls Try.prog 57 #[.pointer (some ⟨b, 0, none⟩), .int .i64 m] w fun e w' => Rolled w b v L m e w' := by
  have h0 := h.c0
  have h1 := h.c1
  have hf := h.fb
  have hle := h.le
  have hlen := h.len
  obtain ⟨ad, cap, rfl, hcap, hcap2, hcs⟩ := h.rd.i64
  have H := Lib.hid h
  by_cases hlt : n < L.length
  · obtain ⟨b', off, rfl, hc⟩ := hcs n hlt
    clear hcs
    have hne := h.ne (by rintro rfl; simp at hlt) b' rfl
    have hbn := h.bnd n
    generalize L.getD n 0 = x at hc hbn
    have hd : decide ((L.length : Int) ≤ (n : Int)) = false := by simp; omega
    have M := Lib.hid (Mods.refl (S := [b]) (w := w)).drew
    clear h hcap2
    go_enter Try.func57, Try.ntmps57
    go_wp2_with fail
    go_quiet (fail)
    have I1 : IsDice ((w.drewN nq).setCell ⟨b, 1, none⟩ (.int .i64 ((n : Int) + 1))) b (.slice (some ⟨b', off, none⟩) L.length cap) L (n + 1) := (H.out.mods0 (Mods.refl.drewN nq)).set1 (k := n + 1) (by omega)
    have M1 : Mods [b] w ((w.drewN nq).setCell ⟨b, 1, none⟩ (.int .i64 ((n : Int) + 1))) := (Mods.refl.drewN nq).setCell (.inl (by simp)) _
    have C1 := M1.cell hc (by simpa using hne)
    go_wp2_with fail
    generalize ((w.drewN nq).setCell ⟨b, 1, none⟩ (.int .i64 ((n : Int) + 1))) = w1 at I1 M1 C1 ⊢
    clear h0 h1 hf hc
    have h0 := I1.c0
    have h1 := I1.c1
    have J := Lib.hid I1
    have MM := Lib.hid M1
    clear I1 M1
    have hws : IntKind.i64.wrap (n : Int) = n := IntWalk.i64_in _ (by omega)
    have hz : (0 : Int) ≤ (n : Int) := by omega
    have hz2 : (n : Int) < (L.length : Int) := by omega
    go_quiet ((go_at_call 11; exact Calls.quiet_of_same ((mod_ok _ _ _ hbn hm hm2).mono fun _ _ ⟨h1, h2⟩ => ⟨h1, h2.symm⟩)))
    clear hws
    go_wp2
    go_ret
    exact ⟨x % m, n + 1, rfl, Int.emod_nonneg _ (by omega), Int.emod_lt_of_pos _ hm, J.out.mods0 (Mods.refl.drewN _), MM.out.drewN _⟩
  · have hd : decide ((L.length : Int) ≤ (n : Int)) = true := by simp; omega
    clear hcs
    go_enter Try.func57, Try.ntmps57
    go_wp2_with fail
    go_quiet (fail)
    go_wp2
    go_ret
    exact ⟨0, n, rfl, by omega, hm, H.out.mods0 (Mods.refl.drewN nq), Mods.refl.drewN nq⟩

set_option maxHeartbeats 400000 in
theorem roll_ok (w : World) (v : Value) (L : List Int) (hv : Rd w v (i64s L)) (hl : L.length ≤ 1000000) (hb : ∀ i, I64 (L.getD i 0)) :
    Calls Try.prog 21 #[v] w fun e w' => e = .returned (.pointer (some ⟨w.heap.size, 0, none⟩)) ∧ IsDice w' w.heap.size v L 0 ∧ Mods [] w w' ∧ w.heap.size < w'.heap.size := by
  obtain ⟨ad, cap, rfl⟩ := hv.len
  have H := Lib.hid (show IsDice (w.alloc (.cells #[.slice ad (i64s L).length cap, .int .i64 ((0 : Nat) : Int)] 104)) w.heap.size (.slice ad (i64s L).length cap) L 0 from
    ⟨⟨_, heap_alloc_new _ _⟩, hv.mods0 (Mods.refl.alloc _), fun hl k hk => by have := hv.block_lt (fun e => hl (List.eq_nil_of_length_eq_zero (by rw [← i64s_length, e]; rfl))) k hk; omega, hl, hb, Nat.zero_le _⟩)
  clear hv hb
  go_enter Try.func21, Try.ntmps21
  go_wp2
  go_ret
  exact ⟨rfl, H.out, Mods.refl.alloc _, by simp⟩

/-- A bool of the dice. -/
def RolledB (w : World) (b : Nat) (v : Value) (L : List Int) (e : Ending) (w' : World) : Prop :=
  ∃ (r : Bool) (n : Nat), e = .returned (.bool r) ∧ IsDice w' b v L n ∧ Mods [b] w w'
set_option maxHeartbeats 400000 in
theorem bool_ok (w : World) (b : Nat) (v : Value) (L : List Int) (n : Nat) (h : IsDice w b v L n) (m : Int) (hm : 0 < m) (hm2 : m ≤ 4611686018427387904) :
    Calls Try.prog 59 #[.pointer (some ⟨b, 0, none⟩), .int .i64 m] w fun e w' => RolledB w b v L e w' := by
  have H := Lib.hid h
  clear h
  go_enter Try.func59, Try.ntmps59
  go_wp2_with fail
  refine (next_ok w b v L n H.out m hm hm2).mono ?_
  rintro e w' ⟨r, n', rfl, h1, h2, h3, h4⟩
  go_wp2
  go_ret
  exact ⟨_, n', rfl, h3, h4⟩
/-- A byte of the dice. -/
def RolledBy (w : World) (b : Nat) (v : Value) (L : List Int) (e : Ending) (w' : World) : Prop :=
  ∃ (r : Int) (n : Nat), e = .returned (.int .u8 r) ∧ 0 ≤ r ∧ r ≤ 255 ∧ IsDice w' b v L n ∧ Mods [b] w w'
def limitsL : List Int := [0, 1, 127, 128, 254, 255, 15, 240]
theorem limit_byte (k : Nat) : 0 ≤ limitsL.getD k 0 ∧ limitsL.getD k 0 ≤ 255 := by
  rcases Nat.lt_or_ge k 8 with h | h
  · match k, h with
    | 0, _ | 1, _ | 2, _ | 3, _ | 4, _ | 5, _ | 6, _ | 7, _ => simp [limitsL]
  · simp [limitsL, List.getD_eq_getElem?_getD, List.getElem?_eq_none (show [(0 : Int), 1, 127, 128, 254, 255, 15, 240].length ≤ k by simpa using h)]
theorem limits_cell {w : World} {T : TypeId} {k : Nat} (hk : k < 8) : (w.alloc (.cells #[.int .u8 0, .int .u8 1, .int .u8 127, .int .u8 128, .int .u8 254, .int .u8 255, .int .u8 15, .int .u8 240] T)).cell? ⟨w.heap.size, k, none⟩ = some (.int .u8 (limitsL.getD k 0)) := by
  rw [World.cell?_alloc_at _ _ _ _ rfl]
  match k, hk with
  | 0, _ | 1, _ | 2, _ | 3, _ | 4, _ | 5, _ | 6, _ | 7, _ => rfl
set_option maxHeartbeats 1000000 in
theorem byte_ok (w : World) (b : Nat) (v : Value) (L : List Int) (n : Nat) (h : IsDice w b v L n) :
    Calls Try.prog 58 #[.pointer (some ⟨b, 0, none⟩)] w fun e w' => RolledBy w b v L e w' := by
  have hbl := h.lt
  have H := Lib.hid h
  clear h
  go_enter Try.func58, Try.ntmps58
  go_wp2_with fail
  have HL := Lib.hid (fun (k : Nat) (hk : k < 8) => limits_cell (w := w) (T := 127) hk)
  refine (bool_ok _ b v L n (H.out.mods0 (Mods.refl.alloc _)) 3 (by omega) (by omega)).mono ?_
  have M1 := (Mods.refl (S := [b]) (w := w)).alloc (.cells #[.int .u8 0, .int .u8 1, .int .u8 127, .int .u8 128, .int .u8 254, .int .u8 255, .int .u8 15, .int .u8 240] 127)
  rintro e w2 ⟨r, n2, rfl, J2, M2⟩
  cases r with
  | false =>
    have M3 := M1.trans M2
    clear M1 M2
    go_wp2_with fail
    refine (next_ok w2 b v L n2 J2 256 (by omega) (by omega)).mono ?_
    rintro e w3 ⟨r, n3, rfl, h1, h2, J3, M4⟩
    go_wp2
    go_ret
    exact ⟨r, n3, rfl, h1, by omega, J3, M3.trans M4⟩
  | true =>
    have M3 := M1.trans M2
    have HL2 := Lib.hid (fun (k : Nat) (hk : k < 8) => M2.cell (HL.out k hk) (by simp; omega))
    clear M1 M2
    go_wp2_with fail
    refine (next_ok w2 b v L n2 J2 8 (by omega) (by omega)).mono ?_
    rintro e w3 ⟨r, n3, rfl, h1, h2, J3, M4⟩
    obtain ⟨k, rfl⟩ := Int.eq_ofNat_of_zero_le h1
    have hk : k < 8 := by omega
    have hc := M4.cell (HL2.out k hk) (by simp; omega)
    have hb := limit_byte k
    generalize limitsL.getD k 0 = x at hc hb
    go_wp2
    go_ret
    exact ⟨x, n3, rfl, hb.1, hb.2, J3, M3.trans M4⟩

set_option maxHeartbeats 400000 in
theorem light_ok (w : World) (v : Value) (L : List Int) (hv : Rd w v (i64s L)) :
    Calls Try.prog 17 #[v] w fun e w' => e = .returned (.bool (decide (L.length ≤ 600))) ∧ w = w' := by
  obtain ⟨ad, cap, rfl⟩ := hv.len
  rw [i64s_length]
  clear hv
  go_enter Try.func17, Try.ntmps17
  go_wp2
  go_ret
  exact ⟨ret_bool (by simp; omega), rfl⟩

set_option maxHeartbeats 1000000 in
theorem same_ok (w : World) (va vb : Value) (A B : List Int) (ha : Rd w va (u8s A)) (hb : Rd w vb (u8s B)) :
    Calls Try.prog 78 #[va, vb] w fun e w' => e = .returned (.bool (A == B)) ∧ ∃ n, w' = w.drewN n := by
  obtain ⟨ada, capa, rfl, hca1, hca2, hca⟩ := ha.u8
  obtain ⟨adb, capb, rfl, hcb1, hcb2, hcb⟩ := hb.u8
  unfold maxLen at hca2 hcb2
  clear ha hb
  by_cases hl : A.length = B.length
  · have hl2 : ((A.length : Int) != (B.length : Int)) = false := by simp [hl]
    have HL := Lib.hid hl
    go_enter Try.func78, Try.ntmps78
    go_wp2_with fail
    go_loopw [5] (fun i wr => ∃ k : Nat, k ≤ A.length ∧ i = .int .i64 k ∧ (∃ n, wr = w.drewN n) ∧ Hid (∀ j, j < k → A.getD j 0 = B.getD j 0)) (fun i _ => A.length - (intOf i).toNat)
    case atStart => exact ⟨0, Nat.zero_le _, rfl, ⟨0, rfl⟩, fun j hj => by omega⟩
    case round =>
      obtain ⟨k, hk, rfl, ⟨nd, rfl⟩, hs⟩ := hrel
      by_cases hlt : k < A.length
      · obtain ⟨ba, oa, rfl, h1⟩ := hca k hlt
        obtain ⟨bb, ob, rfl, h2⟩ := hcb k (by rw [← HL.out]; exact hlt)
        have hlt2 : k < B.length := by rw [← HL.out]; exact hlt
        obtain ⟨x, hx⟩ : ∃ x, x = A.getD k 0 := ⟨_, rfl⟩
        obtain ⟨y, hy⟩ : ∃ y, y = B.getD k 0 := ⟨_, rfl⟩
        rw [← hx] at h1
        rw [← hy] at h2
        have HX := Lib.hid hx
        have HY := Lib.hid hy
        clear hca hcb hl hx hy
        have i1 : (0 : Int) ≤ (k : Int) := by omega
        have i2 : (k : Int) < (A.length : Int) := by omega
        have i3 : (k : Int) < (B.length : Int) := by omega
        by_cases hxy : x = y
        · have e1 : (x != y) = false := by simp [hxy]
          have HXY := Lib.hid hxy
          clear hxy
          go_wp2_with fail
          go_quiet (fail)
          go_wp2
          go_roundw
          case rel =>
            refine ⟨k + 1, by omega, by go_num, ⟨nd + nq, rfl⟩, fun j hj => ?_⟩
            rcases Nat.lt_or_ge j k with h | h
            · exact hs.out j h
            · obtain rfl : j = k := by omega
              rw [← HX.out, ← HY.out]; exact HXY.out
          case measure => simp [intOf]; omega
        · have e1 : (x != y) = true := by simp [hxy]
          have hne : A ≠ B := by intro e; apply hxy; rw [HX.out, HY.out, e]
          have HN := Lib.hid hne
          clear hxy hne
          go_wp2_with fail
          go_quiet (fail)
          go_wp2
          go_ret
          exact ⟨ret_bool (by have := HN.out; simp [this]), nd + nq, by first | rfl | rw [World.drewN_drewN]⟩
      · have e : A = B := by
          refine List.ext_getElem HL.out fun j h1 h2 => ?_
          have h3 := hs.out j (by omega)
          rw [List.getD_eq_getElem?_getD, List.getD_eq_getElem?_getD, List.getElem?_eq_getElem h1, List.getElem?_eq_getElem h2] at h3
          exact h3
        have HE := Lib.hid e
        clear e hca hcb hl
        go_wp2
        go_ret
        exact ⟨ret_bool (by have := HE.out; simp [this]), nd, rfl⟩
  · have hl2 : ((A.length : Int) != (B.length : Int)) = true := by simp; omega
    have HN := Lib.hid (show A ≠ B by intro e; exact hl (by rw [e]))
    clear hl hca hcb
    go_enter Try.func78, Try.ntmps78
    go_wp2
    go_ret
    exact ⟨ret_bool (by have := HN.out; simp [this]), 0, rfl⟩
end Go.Proofs.Ytkdadnlleepkfaa
