/- The dice's Text and Micro: contracts. -/
import Derived.Test.YtijjkonephjodaaMade
namespace Go.Proofs.Ytijjkonephjodaa
open Go.RowKit

theorem IsDice.vlt {w : World} {b n : Nat} {v : Value} {L : List Int} (h : IsDice w b v L n) : L ≠ [] → ∀ k, v.ownBlock = some k → k < w.heap.size := fun hl k hk =>
  h.rd.block_lt (fun e => hl (List.eq_nil_of_length_eq_zero (by rw [← i64s_length, e]; rfl))) k hk
theorem IsDice.set {w : World} {b n : Nat} {v : Value} {L : List Int} (h : IsDice w b v L n) {p : Addr} (hp : p.block ≠ b) (hv : L ≠ [] → ∀ k, v.ownBlock = some k → k ≠ p.block) (u : Value) : IsDice (w.setCell p u) b v L n :=
  h.mods (S := [p.block]) (Mods.refl.setCell (.inl (by simp)) _) (by simpa using fun e => hp e.symm) fun hl k hk hk2 => hv hl k hk (by simpa using hk2)
/-- A text of the dice. -/
def MadeText (w : World) (b : Nat) (v : Value) (L : List Int) (A : ByteArray) (m : Nat) (e : Ending) (w' : World) : Prop :=
  ∃ (s : ByteArray) (n : Nat), e = .returned (.string s) ∧ s.size = m ∧ (∀ c ∈ s.data.toList, c ∈ A.data.toList) ∧ IsDice w' b v L n ∧ Mods [b] w w'
theorem text_snoc {s A : ByteArray} {k j : Nat} (hs : s.size = k) (h : ∀ c ∈ s.data.toList, c ∈ A.data.toList) (hj : j < A.size) :
    (s ++ A.extract j (j + 1)).size = k + 1 ∧ Hid (∀ c ∈ (s ++ A.extract j (j + 1)).data.toList, c ∈ A.data.toList) := by
  refine ⟨by simp [hs]; omega, ?_⟩
  show ∀ c ∈ (s ++ A.extract j (j + 1)).data.toList, c ∈ A.data.toList
  intro c hc
  rw [ByteArray.data_append, Array.toList_append, List.mem_append] at hc
  rcases hc with hc | hc
  · exact h c hc
  · rw [ByteArray.data_extract, Array.toList_extract] at hc
    exact List.mem_of_mem_drop (List.mem_of_mem_take hc)
set_option maxHeartbeats 1000000 in
theorem text_ok (w : World) (b : Nat) (v : Value) (L : List Int) (n : Nat) (h : IsDice w b v L n) (A : ByteArray) (hA : 1 ≤ A.size) (hA2 : A.size ≤ 1000) (m : Nat) (hm : m ≤ 1000) :
    Calls Try.prog 45 #[.pointer (some ⟨b, 0, none⟩), .string A, .int .i64 m] w fun e w' => MadeText w b v L A m e w' := by
  have H := Lib.hid h
  clear h
  go_enter Try.func45, Try.ntmps45
  go_wp2_with fail
  go_loopw [7, 8] (fun t i wr => ∃ (k n2 : Nat) (s : ByteArray), k ≤ m ∧ i = .int .i64 k ∧ t = .string s ∧ s.size = k ∧ Hid (∀ c ∈ s.data.toList, c ∈ A.data.toList) ∧ IsDice wr b v L n2 ∧ Mods [b] w wr) (fun _ i _ => m - (intOf i).toNat)
  case atStart => exact ⟨0, n, ⟨#[]⟩, by omega, rfl, rfl, rfl, by intro c hc; simp at hc, H.out, Mods.refl⟩
  case round =>
    obtain ⟨k, n2, s, hk, rfl, rfl, hsz, hs, D, M⟩ := hrel
    have HSZ := Lib.hid hsz
    clear hsz
    by_cases hlt : k < m
    · go_wp2_with fail
      refine (next_ok wr b v L n2 D (A.size : Int) (by omega) (by omega)).mono ?_
      rintro e w2 ⟨r, n3, rfl, r1, r2, D3, M3⟩
      obtain ⟨j, rfl⟩ := Int.eq_ofNat_of_zero_le r1
      have hj : j < A.size := by omega
      have j1 : (0 : Int) ≤ (j : Int) + 1 := by omega
      have j2 : (j : Int) + 1 ≤ (A.size : Int) := by omega
      have hsb : s.size ≤ 1000 := by have := HSZ.out; omega
      have MM := Lib.hid (M.trans M3)
      have HX := Lib.hid (text_snoc HSZ.out hs.out hj)
      clear M M3 D
      go_wp2_with fail
      go_roundw
      case rel => exact ⟨k + 1, n3, _, by omega, by go_num, rfl, HX.out.1, HX.out.2, D3, MM.out⟩
      case measure => simp [intOf]; omega
    · have hkm : k = m := by omega
      subst hkm
      go_wp2
      go_ret
      exact ⟨s, n2, rfl, HSZ.out, hs.out, D, M⟩
/-- A fixed-point number of the dice. -/
def MadeMicro (w : World) (b : Nat) (v : Value) (L : List Int) (e : Ending) (w' : World) : Prop :=
  ∃ (x : Int) (n : Nat), e = .returned (.int .i64 x) ∧ -1000000000000 ≤ x ∧ x ≤ 1000000000000 ∧ IsDice w' b v L n ∧ Mods [b] w w'
def microL : List Int := [0, 1, -1, 1000000, -1000000, 1000000000000, -1000000000000, 500000]
theorem micro_bd {k : Nat} (hk : k < 8) : -1000000000000 ≤ microL.getD k 0 ∧ microL.getD k 0 ≤ 1000000000000 := by
  match k, hk with
  | 0, _ | 1, _ | 2, _ | 3, _ | 4, _ | 5, _ | 6, _ | 7, _ => simp [microL]
set_option maxHeartbeats 1000000 in
theorem micro_ok (w : World) (b : Nat) (v : Value) (L : List Int) (n : Nat) (h : IsDice w b v L n) :
    Calls Try.prog 80 #[.pointer (some ⟨b, 0, none⟩)] w fun e w' => MadeMicro w b v L e w' := by
  have hbl := h.lt
  have H := Lib.hid h
  clear h
  go_enter Try.func80, Try.ntmps80
  go_wp2_with fail
  have M1 := (Mods.refl (S := [b]) (w := w)).alloc (.cells #[.int .i64 0, .int .i64 1, .int .i64 (-1), .int .i64 1000000, .int .i64 (-1000000), .int .i64 1000000000000, .int .i64 (-1000000000000), .int .i64 500000] 132)
  have HL := Lib.hid (fun (k : Nat) (hk : k < 8) => (show (w.alloc (.cells #[.int .i64 0, .int .i64 1, .int .i64 (-1), .int .i64 1000000, .int .i64 (-1000000), .int .i64 1000000000000, .int .i64 (-1000000000000), .int .i64 500000] 132)).cell? ⟨w.heap.size, k, none⟩ = some (.int .i64 (microL.getD k 0)) by
    rw [World.cell?_alloc_at _ _ _ _ rfl]
    match k, hk with
    | 0, _ | 1, _ | 2, _ | 3, _ | 4, _ | 5, _ | 6, _ | 7, _ => rfl))
  have D1 := H.out.mods0 ((Mods.refl (S := []) (w := w)).alloc (.cells #[.int .i64 0, .int .i64 1, .int .i64 (-1), .int .i64 1000000, .int .i64 (-1000000), .int .i64 1000000000000, .int .i64 (-1000000000000), .int .i64 500000] 132))
  generalize w.alloc (.cells #[.int .i64 0, .int .i64 1, .int .i64 (-1), .int .i64 1000000, .int .i64 (-1000000), .int .i64 1000000000000, .int .i64 (-1000000000000), .int .i64 500000] 132) = w1 at M1 HL D1 ⊢
  have hg : w.heap.size ≠ b := by omega
  generalize w.heap.size = g at HL hg ⊢
  refine (next_ok w1 b v L n D1 3 (by omega) (by omega)).mono ?_
  rintro e w2 ⟨r, n2, rfl, r1, r2, D2, M2⟩
  have HL := Lib.hid (fun k hk => M2.cell (HL.out k hk) (by simpa using hg))
  have MM := Lib.hid (M1.trans M2)
  clear M1 M2 D1
  by_cases h0 : r = 0
  · have e0 : (r == 0) = true := by simp [h0]
    clear h0
    go_wp2_with fail
    refine (next_ok w2 b v L n2 D2 8 (by omega) (by omega)).mono ?_
    rintro e w3 ⟨q, n3, rfl, q1, q2, D3, M3⟩
    obtain ⟨k, rfl⟩ := Int.eq_ofNat_of_zero_le q1
    have hk : k < 8 := by omega
    have hc := M3.cell (HL.out k hk) (by simpa using hg)
    have hb := micro_bd hk
    generalize microL.getD k 0 = x at hc hb
    have MM := Lib.hid (MM.out.trans M3)
    clear M3
    go_wp2
    go_ret
    exact ⟨x, n3, rfl, hb.1, hb.2, D3, MM.out⟩
  · have e0 : (r == 0) = false := by simp [h0]
    by_cases h1 : r = 1
    · have e1 : (r == 1) = true := by simp [h1]
      clear h0 h1
      go_wp2_with fail
      refine (next_ok w2 b v L n2 D2 2000001 (by omega) (by omega)).mono ?_
      rintro e w3 ⟨q, n3, rfl, q1, q2, D3, M3⟩
      have MM := Lib.hid (MM.out.trans M3)
      clear M3
      go_wp2
      go_ret
      exact ⟨q - 1000000, n3, rfl, by omega, by omega, D3, MM.out⟩
    · have e1 : (r == 1) = false := by simp [h1]
      clear h0 h1
      go_wp2_with fail
      refine (next_ok w2 b v L n2 D2 2000001 (by omega) (by omega)).mono ?_
      rintro e w3 ⟨q, n3, rfl, q1, q2, D3, M3⟩
      have MM := Lib.hid (MM.out.trans M3)
      clear M3
      go_wp2_with fail
      refine (next_ok w3 b v L n3 D3 1000 (by omega) (by omega)).mono ?_
      rintro e w4 ⟨p, n4, rfl, p1, p2, D4, M4⟩
      have MM := Lib.hid (MM.out.trans M4)
      clear M4
      obtain ⟨a, ha⟩ : ∃ a, a = (q - 1000000) * 1000 := ⟨_, rfl⟩
      have a1 : -1000000000 ≤ a := by omega
      have a2 : a ≤ 1000000000 := by omega
      have hb1 : a * (1 + p) ≤ 1000000000 * 1000 := by
        rcases Int.lt_or_le a 0 with hn | hn
        · have := Int.mul_nonpos_of_nonpos_of_nonneg (show a ≤ 0 by omega) (show 0 ≤ 1 + p by omega); omega
        · exact Int.mul_le_mul a2 (by omega) (by omega) (by omega)
      have hb2 : -(1000000000 * 1000) ≤ a * (1 + p) := by
        rcases Int.lt_or_le a 0 with hn | hn
        · have h1 : (-a) * (1 + p) ≤ 1000000000 * 1000 := Int.mul_le_mul (by omega) (by omega) (by omega) (by omega)
          have h2 : (-a) * (1 + p) = -(a * (1 + p)) := Int.neg_mul _ _
          omega
        · have := Int.mul_nonneg hn (show 0 ≤ 1 + p by omega); omega
      rw [ha] at hb1 hb2
      clear ha a1 a2
      go_wp2
      go_ret
      exact ⟨(q - 1000000) * 1000 * (1 + p), n4, rfl, by omega, by omega, D4, MM.out⟩
end Go.Proofs.Ytijjkonephjodaa
