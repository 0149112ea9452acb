/- Joined texts. Dice as functions: what they give, in plain data; contracts. | Dice.Event: the contract. -/
import Derived.Test.YtkdadnlleepkfaaDice
import Derived.Test.YtkdadnlleepkfaaBothV
import Derived.Test.YtkdadnlleepkfaaEvt
namespace Go.Proofs.Ytkdadnlleepkfaa
open Go.RowKit
set_option linter.unusedVariables false
set_option linter.unusedSimpArgs false
def nextF (L : List Int) (n : Nat) (m : Int) : Int × Nat := if n < L.length then (L.getD n 0 % m, n + 1) else (0, n)
def boolF (L : List Int) (n : Nat) (m : Int) : Bool × Nat := (decide ((nextF L n m).1 = m - 1), (nextF L n m).2)
def byteF (L : List Int) (n : Nat) : Int × Nat :=
  if (boolF L n 3).1 then (limitsL.getD (nextF L (boolF L n 3).2 8).1.toNat 0, (nextF L (boolF L n 3).2 8).2) else nextF L (boolF L n 3).2 256
theorem nextF_rng (L : List Int) (n : Nat) (m : Int) (hm : 0 < m) : 0 ≤ (nextF L n m).1 ∧ (nextF L n m).1 < m := by
  unfold nextF
  split
  · exact ⟨Int.emod_nonneg _ (by omega), Int.emod_lt_of_pos _ hm⟩
  · exact ⟨by simp, hm⟩
theorem byteF_rng (L : List Int) (n : Nat) : 0 ≤ (byteF L n).1 ∧ (byteF L n).1 ≤ 255 := by
  unfold byteF
  split
  · exact limit_byte _
  · have := nextF_rng L (boolF L n 3).2 256 (by omega)
    exact ⟨this.1, by omega⟩
set_option maxHeartbeats 400000 in
theorem nextF_ok (w : World) (b : Nat) (v : Value) (L : List Int) (n : Nat) (h : IsDice w b v L n) (m : Int) (hm : 0 < m) (hm2 : m ≤ 4611686018427387904) :
    Calls Try.prog 57 #[.pointer (some ⟨b, 0, none⟩), .int .i64 m] w fun e w' => e = .returned (.int .i64 (nextF L n m).1) ∧ IsDice w' b v L (nextF L n m).2 ∧ Mods [b] w w' := by
  have h0 := h.c0
  have h1 := h.c1
  have hf := h.fb
  have hle := h.le
  have hlen := h.len
  obtain ⟨ad, cap, rfl, hcap, hcap2, hcs⟩ := h.rd.i64
  have H := Lib.hid h
  have HN := Lib.hid (show nextF L n m = if n < L.length then (L.getD n 0 % m, n + 1) else (0, n) from rfl)
  generalize nextF L n m = R at HN ⊢
  by_cases hlt : n < L.length
  · have HR := Lib.hid (HN.out.trans (if_pos hlt))
    clear HN
    obtain ⟨b', off, rfl, hc⟩ := hcs n hlt
    clear hcs
    have hne := h.ne (by rintro rfl; simp at hlt) b' rfl
    have hbn := h.bnd n
    generalize L.getD n 0 = x at hc hbn HR
    have hd : decide ((L.length : Int) ≤ (n : Int)) = false := by simp; omega
    have M := Lib.hid (Mods.refl (S := [b]) (w := w)).drew
    clear h hcap2
    go_enter Try.func57, Try.ntmps57
    go_wp2_with fail
    go_quiet (fail)
    have I1 : IsDice ((w.drewN nq).setCell ⟨b, 1, none⟩ (.int .i64 ((n : Int) + 1))) b (.slice (some ⟨b', off, none⟩) L.length cap) L (n + 1) := (H.out.mods0 (Mods.refl.drewN nq)).set1 (k := n + 1) (by omega)
    have M1 : Mods [b] w ((w.drewN nq).setCell ⟨b, 1, none⟩ (.int .i64 ((n : Int) + 1))) := (Mods.refl.drewN nq).setCell (.inl (by simp)) _
    have C1 := M1.cell hc (by simpa using hne)
    go_wp2_with fail
    generalize ((w.drewN nq).setCell ⟨b, 1, none⟩ (.int .i64 ((n : Int) + 1))) = w1 at I1 M1 C1 ⊢
    clear h0 h1 hf hc
    have h0 := I1.c0
    have h1 := I1.c1
    have J := Lib.hid I1
    have MM := Lib.hid M1
    clear I1 M1
    have hws : IntKind.i64.wrap (n : Int) = n := IntWalk.i64_in _ (by omega)
    have hz : (0 : Int) ≤ (n : Int) := by omega
    have hz2 : (n : Int) < (L.length : Int) := by omega
    go_quiet ((go_at_call 11; exact Calls.quiet_of_same ((mod_ok _ _ _ hbn hm hm2).mono fun _ _ ⟨h1, h2⟩ => ⟨h1, h2.symm⟩)))
    clear hws
    go_wp2
    go_ret
    exact ⟨by rw [HR.out]; rfl, by rw [HR.out]; exact J.out.mods0 (Mods.refl.drewN _), MM.out.drewN _⟩
  · have HR := Lib.hid (HN.out.trans (if_neg hlt))
    have hd : decide ((L.length : Int) ≤ (n : Int)) = true := by simp; omega
    clear hcs
    go_enter Try.func57, Try.ntmps57
    go_wp2_with fail
    go_quiet (fail)
    go_wp2
    go_ret
    exact ⟨by rw [HR.out]; rfl, by rw [HR.out]; exact H.out.mods0 (Mods.refl.drewN nq), Mods.refl.drewN nq⟩

set_option maxHeartbeats 400000 in
theorem boolF_ok (w : World) (b : Nat) (v : Value) (L : List Int) (n : Nat) (h : IsDice w b v L n) (m : Int) (hm : 0 < m) (hm2 : m ≤ 4611686018427387904) :
    Calls Try.prog 59 #[.pointer (some ⟨b, 0, none⟩), .int .i64 m] w fun e w' => e = .returned (.bool (boolF L n m).1) ∧ IsDice w' b v L (boolF L n m).2 ∧ Mods [b] w w' := by
  have H := Lib.hid h
  clear h
  go_enter Try.func59, Try.ntmps59
  go_wp2_with fail
  refine (nextF_ok w b v L n H.out m hm hm2).mono ?_
  rintro e w' ⟨rfl, h3, h4⟩
  have HB := Lib.hid (show boolF L n m = (decide ((nextF L n m).1 = m - 1), (nextF L n m).2) from rfl)
  generalize nextF L n m = X at HB h3 ⊢
  have H3 := Lib.hid h3
  have H4 := Lib.hid h4
  clear h3 h4
  go_wp2
  go_ret
  exact ⟨by rw [HB.out]; first | rfl | (simp; rfl) | simp_all, by rw [HB.out]; exact H3.out, H4.out⟩
set_option maxHeartbeats 1000000 in
theorem byteF_ok (w : World) (b : Nat) (v : Value) (L : List Int) (n : Nat) (h : IsDice w b v L n) :
    Calls Try.prog 58 #[.pointer (some ⟨b, 0, none⟩)] w fun e w' => e = .returned (.int .u8 (byteF L n).1) ∧ IsDice w' b v L (byteF L n).2 ∧ Mods [b] w w' := by
  have hbl := h.lt
  have H := Lib.hid h
  clear h
  go_enter Try.func58, Try.ntmps58
  go_wp2_with fail
  have HL := Lib.hid (fun (k : Nat) (hk : k < 8) => limits_cell (w := w) (T := 127) hk)
  refine (boolF_ok _ b v L n (H.out.mods0 (Mods.refl.alloc _)) 3 (by omega) (by omega)).mono ?_
  have M1 := (Mods.refl (S := [b]) (w := w)).alloc (.cells #[.int .u8 0, .int .u8 1, .int .u8 127, .int .u8 128, .int .u8 254, .int .u8 255, .int .u8 15, .int .u8 240] 127)
  rintro e w2 ⟨rfl, J2, M2⟩
  have HB := Lib.hid (show byteF L n = if (boolF L n 3).1 then (limitsL.getD (nextF L (boolF L n 3).2 8).1.toNat 0, (nextF L (boolF L n 3).2 8).2) else nextF L (boolF L n 3).2 256 from rfl)
  generalize boolF L n 3 = X at HB J2 ⊢
  obtain ⟨xb, n2⟩ := X
  simp only at HB J2 ⊢
  cases xb with
  | false =>
    have M3 := M1.trans M2
    clear M1 M2
    go_wp2_with fail
    refine (nextF_ok w2 b v L n2 J2 256 (by omega) (by omega)).mono ?_
    rintro e w3 ⟨rfl, J3, M4⟩
    have HR := Lib.hid (show byteF L n = nextF L n2 256 from by rw [HB.out]; rfl)
    have hrg := nextF_rng L n2 256 (by omega)
    generalize nextF L n2 256 = X at HR J3 hrg ⊢
    obtain ⟨h1, h2⟩ := hrg
    have JJ := Lib.hid J3
    have MM := Lib.hid (M3.trans M4)
    clear J3 M3 M4 J2 HB
    obtain ⟨x, n3⟩ := X
    simp only at h1 h2 ⊢
    go_wp2
    go_ret
    exact ⟨by rw [HR.out]; rfl, by rw [HR.out]; exact JJ.out, MM.out⟩
  | true =>
    have M3 := M1.trans M2
    have HL2 := Lib.hid (fun (k : Nat) (hk : k < 8) => M2.cell (HL.out k hk) (by simp; omega))
    clear M1 M2
    go_wp2_with fail
    refine (nextF_ok w2 b v L n2 J2 8 (by omega) (by omega)).mono ?_
    rintro e w3 ⟨rfl, J3, M4⟩
    have HR := Lib.hid (show byteF L n = (limitsL.getD (nextF L n2 8).1.toNat 0, (nextF L n2 8).2) from by rw [HB.out]; rfl)
    have hrg := nextF_rng L n2 8 (by omega)
    generalize nextF L n2 8 = X at HR J3 hrg ⊢
    obtain ⟨x8, n3⟩ := X
    obtain ⟨h1, h2⟩ := hrg
    simp only at h1 h2 J3 HR ⊢
    obtain ⟨k, rfl⟩ := Int.eq_ofNat_of_zero_le h1
    simp only [Int.toNat_natCast] at HR
    have hk : k < 8 := by omega
    have hc := M4.cell (HL2.out k hk) (by simp; omega)
    have hb := limit_byte k
    generalize limitsL.getD k 0 = x at hc hb HR
    have JJ := Lib.hid J3
    have MM := Lib.hid (M3.trans M4)
    clear J3 M3 M4 J2 HB
    go_wp2
    go_ret
    exact ⟨by rw [HR.out]; rfl, by rw [HR.out]; exact JJ.out, MM.out⟩

end Go.Proofs.Ytkdadnlleepkfaa

namespace Go.Proofs.Ytkdadnlleepkfaa
open Go.RowKit
set_option linter.unusedVariables false
set_option linter.unusedSimpArgs false
section
variable {P : Program} {ops : Array Oper} {Q : Exit → Act → World → Prop} {S : World → Prop} {md : Region.Mode} {T : TypeId} {z : Array Value} {vA : Nat → Value} {B iA dA fuel : Nat} {df : List Deferred} {lst : Array Bool} {t : Array Value} {w : World}
theorem bothV_take {i d : Nat} {oi : Oper} {v : Value} (hi : ops[i]? = some oi) (hd : oi.dst = some d) (hdA : d ≠ dA) (hiA : i ≠ iA) (hs : Region.noSelect ops = true)
    (hf1 : Region.free md ops lst i = true) (hr1 : (Region.ready md ops lst).contains i = true) (hf2 : Region.free md ops (lst.setIfInBounds iA true) i = true) (hr2 : (Region.ready md ops (lst.setIfInBounds iA true)).contains i = true)
    (hQ : ∀ c a w, Q (.panic c) (a.put oi.dst v) w → Q (.panic c) a w) (hy : ∀ t', (t' = t ∨ ∃ x, t' = t.setIfInBounds dA x) → YieldsIf P ops S oi v ⟨t', df⟩) (hS : S w)
    (h : BothV P md ops Q S T z vA B iA dA df fuel (lst.setIfInBounds i true) (t.setIfInBounds d v) w) : BothV P md ops Q S T z vA B iA dA df (fuel + 1) lst t w := by
  refine ⟨takeD hi hd hs hf1 hr1 hQ (hy t (.inl rfl)) hS h.1, fun g hb hg => takeD hi hd hs hf2 hr2 hQ (hy _ (.inr ⟨_, rfl⟩)) hS ?_⟩
  have := h.2 g hb hg
  rw [Array.setIfInBounds_comm _ _ hiA, Array.setIfInBounds_comm _ _ hdA] at this
  exact this
end
theorem IsDice.apart {w : World} {b n : Nat} {v : Value} {L : List Int} (h : IsDice w b v L n) {g : Nat} {z : Array Value} {T : TypeId} {fr : Nat × Nat} (hg : w.heap[g]? = some (.cells z T fr)) (hz : z.size ≠ 2) : g ∉ [b] := fun hm => by
  simp at hm
  subst hm
  obtain ⟨T', hb⟩ := h.hb
  rw [hb] at hg
  injection hg with hg
  injection hg with h1 _ _
  exact hz (by rw [← h1]; rfl)
def typesL : List Int := [1, 111, 127, 3]
theorem types_cell {w : World} {g : Nat} {T : TypeId} (h : w.heap[g]? = some (.cells #[.int .u8 1, .int .u8 111, .int .u8 127, .int .u8 3] T (0, 0))) {k : Nat} (hk : k < 4) : w.cell? ⟨g, k, none⟩ = some (.int .u8 (typesL.getD k 0)) := by
  rw [cell_blk h]
  match k, hk with
  | 0, _ | 1, _ | 2, _ | 3, _ => rfl
theorem types_rng (k : Nat) : 0 ≤ typesL.getD k 0 ∧ typesL.getD k 0 ≤ 127 := by
  rcases Nat.lt_or_ge k 4 with h | h
  · match k, h with
    | 0, _ | 1, _ | 2, _ | 3, _ => simp [typesL]
  · rw [List.getD_eq_getElem?_getD, List.getElem?_eq_none (by simpa [typesL] using h)]; simp
/-- The places of the dice while an event is made. -/
def e1 (L : List Int) (n : Nat) : Int × Nat := nextF L n 2000000
def e2 (L : List Int) (n : Nat) : Int × Nat := nextF L (e1 L n).2 65536
def e3 (L : List Int) (n : Nat) : Int × Nat := byteF L (e2 L n).2
def e4 (L : List Int) (n : Nat) : Int × Nat := byteF L (e3 L n).2
def e5 (L : List Int) (n : Nat) : Int × Nat := nextF L (e4 L n).2 4
def e6 (L : List Int) (n : Nat) : Bool × Nat := boolF L (e5 L n).2 2
def e7 (L : List Int) (n : Nat) : Int × Nat := byteF L (e6 L n).2
def e8 (L : List Int) (n : Nat) : Int × Nat := byteF L (e7 L n).2
def e9 (L : List Int) (n : Nat) : Int × Nat := byteF L (e8 L n).2
def e10 (L : List Int) (n : Nat) : Bool × Nat := boolF L (e9 L n).2 8
/-- The event that the dice make at place n, and where they stand behind it. -/
def rawE (L : List Int) (n : Nat) : Evt := ⟨f16 0, f32 (e1 L n).1.toNat, f16 (e2 L n).1.toNat, f8 (e3 L n).1.toNat, f8 (e4 L n).1.toNat, f8 (typesL.getD (e5 L n).1.toNat 0).toNat, (e6 L n).1, f8 (e7 L n).1.toNat, f8 (e8 L n).1.toNat, f8 (e9 L n).1.toNat⟩
def evF (L : List Int) (n : Nat) : Evt := if (e10 L n).1 then { rawE L n with time := f32 4294967294 } else rawE L n
def evN (L : List Int) (n : Nat) : Nat := (e10 L n).2
theorem evF_ok (L : List Int) (n : Nat) : validE (evF L n) = true ∧ (evF L n).id.val = 0 := by
  have h1 := nextF_rng L n 2000000 (by omega)
  have h5 := types_rng (e5 L n).1.toNat
  have hr : validE (rawE L n) = true := by
    refine (validE_iff _).2 ⟨by show 0 % 65536 ≤ 65534; omega, ?_, ?_⟩
    · show (e1 L n).1.toNat % 4294967296 ≤ 4294967294
      unfold e1
      omega
    · show (typesL.getD (e5 L n).1.toNat 0).toNat % 256 ≤ 127
      omega
  unfold evF
  split
  · obtain ⟨x1, x2, x3⟩ := (validE_iff _).1 hr
    exact ⟨(validE_iff _).2 ⟨x1, by show 4294967294 % 4294967296 ≤ 4294967294; omega, x3⟩, rfl⟩
  · exact ⟨hr, rfl⟩
theorem rawE_cells (L : List Int) (n : Nat) : (rawE L n).cells.toArray = #[.int .u16 0, .int .u32 (e1 L n).1, .int .u16 (e2 L n).1, .int .u8 (e3 L n).1, .int .u8 (e4 L n).1, .int .u8 (typesL.getD (e5 L n).1.toNat 0), .bool (e6 L n).1, .int .u8 (e7 L n).1, .int .u8 (e8 L n).1, .int .u8 (e9 L n).1] := by
  have h1 : 0 ≤ (e1 L n).1 ∧ (e1 L n).1 < 2000000 := nextF_rng L n 2000000 (by omega)
  have h2 : 0 ≤ (e2 L n).1 ∧ (e2 L n).1 < 65536 := nextF_rng L (e1 L n).2 65536 (by omega)
  have h3 : 0 ≤ (e3 L n).1 ∧ (e3 L n).1 ≤ 255 := byteF_rng L _
  have h4 : 0 ≤ (e4 L n).1 ∧ (e4 L n).1 ≤ 255 := byteF_rng L _
  have h5 := types_rng (e5 L n).1.toNat
  have h7 : 0 ≤ (e7 L n).1 ∧ (e7 L n).1 ≤ 255 := byteF_rng L _
  have h8 : 0 ≤ (e8 L n).1 ∧ (e8 L n).1 ≤ 255 := byteF_rng L _
  have h9 : 0 ≤ (e9 L n).1 ∧ (e9 L n).1 ≤ 255 := byteF_rng L _
  unfold rawE Evt.cells f8 f16 f32
  refine congrArg List.toArray ?_
  simp only [List.cons.injEq, Value.int.injEq, true_and, and_true, Value.bool.injEq]
  generalize (e1 L n).1 = a1 at *
  generalize (e2 L n).1 = a2 at *
  generalize (e3 L n).1 = a3 at *
  generalize (e4 L n).1 = a4 at *
  generalize typesL.getD (e5 L n).1.toNat 0 = a5 at *
  generalize (e7 L n).1 = a7 at *
  generalize (e8 L n).1 = a8 at *
  generalize (e9 L n).1 = a9 at *
  refine ⟨by omega, by omega, by omega, by omega, by omega, by omega, by omega, by omega, by omega⟩
set_option maxRecDepth 100000 in
set_option maxHeartbeats 8000000 in
theorem event_ok (w : World) (b : Nat) (v : Value) (L : List Int) (n : Nat) (h : IsDice w b v L n) :
    Calls Try.prog 22 #[.pointer (some ⟨b, 0, none⟩)] w fun e w' => e = .returned (.agg (evF L n).cells.toArray) ∧ IsDice w' b v L (evN L n) ∧ Mods [b] w w' := by
  have hbl := h.lt
  have HD := Lib.hid h
  clear h
  have M0 := Lib.hid (((Mods.refl (S := []) (w := w)).alloc (.cells #[.int .u16 0, .int .u32 0, .int .u16 0, .int .u8 0, .int .u8 0, .int .u8 0, .bool false, .int .u8 0, .int .u8 0, .int .u8 0] 37)).alloc (.cells #[.int .u8 1, .int .u8 111, .int .u8 127, .int .u8 3] 105))
  have BE := Lib.hid (heap_alloc (o' := .cells #[.int .u8 1, .int .u8 111, .int .u8 127, .int .u8 3] 105) (heap_alloc_new w (.cells #[.int .u16 0, .int .u32 0, .int .u16 0, .int .u8 0, .int .u8 0, .int .u8 0, .bool false, .int .u8 0, .int .u8 0, .int .u8 0] 37)))
  have BT := Lib.hid (heap_alloc_new (w.alloc (.cells #[.int .u16 0, .int .u32 0, .int .u16 0, .int .u8 0, .int .u8 0, .int .u8 0, .bool false, .int .u8 0, .int .u8 0, .int .u8 0] 37)) (.cells #[.int .u8 1, .int .u8 111, .int .u8 127, .int .u8 3] 105))
  have He1 := Lib.hid (fun W (h : IsDice W b v L n) => show Calls Try.prog 57 #[.pointer (some ⟨b, 0, none⟩), .int .i64 2000000] W fun e w' => e = .returned (.int .i64 (e1 L n).1) ∧ IsDice w' b v L (e1 L n).2 ∧ Mods [b] W w' from nextF_ok W b v L n h 2000000 (by omega) (by omega))
  have He2 := Lib.hid (fun W (h : IsDice W b v L (e1 L n).2) => show Calls Try.prog 57 #[.pointer (some ⟨b, 0, none⟩), .int .i64 65536] W fun e w' => e = .returned (.int .i64 (e2 L n).1) ∧ IsDice w' b v L (e2 L n).2 ∧ Mods [b] W w' from nextF_ok W b v L _ h 65536 (by omega) (by omega))
  have He3 := Lib.hid (fun W (h : IsDice W b v L (e2 L n).2) => show Calls Try.prog 58 #[.pointer (some ⟨b, 0, none⟩)] W fun e w' => e = .returned (.int .u8 (e3 L n).1) ∧ IsDice w' b v L (e3 L n).2 ∧ Mods [b] W w' from byteF_ok W b v L _ h)
  have He4 := Lib.hid (fun W (h : IsDice W b v L (e3 L n).2) => show Calls Try.prog 58 #[.pointer (some ⟨b, 0, none⟩)] W fun e w' => e = .returned (.int .u8 (e4 L n).1) ∧ IsDice w' b v L (e4 L n).2 ∧ Mods [b] W w' from byteF_ok W b v L _ h)
  have He5 := Lib.hid (fun W (h : IsDice W b v L (e4 L n).2) => show Calls Try.prog 57 #[.pointer (some ⟨b, 0, none⟩), .int .i64 4] W fun e w' => e = .returned (.int .i64 (e5 L n).1) ∧ IsDice w' b v L (e5 L n).2 ∧ Mods [b] W w' from nextF_ok W b v L _ h 4 (by omega) (by omega))
  have He6 := Lib.hid (fun W (h : IsDice W b v L (e5 L n).2) => show Calls Try.prog 59 #[.pointer (some ⟨b, 0, none⟩), .int .i64 2] W fun e w' => e = .returned (.bool (e6 L n).1) ∧ IsDice w' b v L (e6 L n).2 ∧ Mods [b] W w' from boolF_ok W b v L _ h 2 (by omega) (by omega))
  have He7 := Lib.hid (fun W (h : IsDice W b v L (e6 L n).2) => show Calls Try.prog 58 #[.pointer (some ⟨b, 0, none⟩)] W fun e w' => e = .returned (.int .u8 (e7 L n).1) ∧ IsDice w' b v L (e7 L n).2 ∧ Mods [b] W w' from byteF_ok W b v L _ h)
  have He8 := Lib.hid (fun W (h : IsDice W b v L (e7 L n).2) => show Calls Try.prog 58 #[.pointer (some ⟨b, 0, none⟩)] W fun e w' => e = .returned (.int .u8 (e8 L n).1) ∧ IsDice w' b v L (e8 L n).2 ∧ Mods [b] W w' from byteF_ok W b v L _ h)
  have He9 := Lib.hid (fun W (h : IsDice W b v L (e8 L n).2) => show Calls Try.prog 58 #[.pointer (some ⟨b, 0, none⟩)] W fun e w' => e = .returned (.int .u8 (e9 L n).1) ∧ IsDice w' b v L (e9 L n).2 ∧ Mods [b] W w' from byteF_ok W b v L _ h)
  have HT := Lib.hid (fun W (h : IsDice W b v L (e9 L n).2) => show Calls Try.prog 59 #[.pointer (some ⟨b, 0, none⟩), .int .i64 8] W fun e w' => e = .returned (.bool (e10 L n).1) ∧ IsDice w' b v L (e10 L n).2 ∧ Mods [b] W w' from boolF_ok W b v L _ h 8 (by omega) (by omega))
  have r1 : 0 ≤ (e1 L n).1 ∧ (e1 L n).1 < 2000000 := nextF_rng L n 2000000 (by omega)
  have r2 : 0 ≤ (e2 L n).1 ∧ (e2 L n).1 < 65536 := nextF_rng L (e1 L n).2 65536 (by omega)
  have r5 : 0 ≤ (e5 L n).1 ∧ (e5 L n).1 < 4 := nextF_rng L (e4 L n).2 4 (by omega)
  obtain ⟨r1a, r1b⟩ := r1
  obtain ⟨r2a, r2b⟩ := r2
  obtain ⟨k5, hk5⟩ := Int.eq_ofNat_of_zero_le r5.1
  have hk5l : k5 < 4 := by omega
  have HK5 := Lib.hid hk5
  have HRC := Lib.hid (rawE_cells L n)
  rw [hk5] at HRC
  clear r5 hk5
  have c1 : IntKind.u32.wrap (e1 L n).1 = (e1 L n).1 := by rw [IntKind.wrap_u32]; omega
  have c2 : IntKind.u16.wrap (e2 L n).1 = (e2 L n).1 := by rw [IntKind.wrap_u16]; omega
  have t0 := types_rng k5
  have tc := Lib.hid (fun (W : World) (h : W.heap[w.heap.size + 1]? = some (.cells #[.int .u8 1, .int .u8 111, .int .u8 127, .int .u8 3] 105 (0, 0))) => types_cell h hk5l)
  go_enter Try.func22, Try.ntmps22
  go_upto_region 2 with (fail)
  have BT : Hid (((w.alloc (.cells #[.int .u16 0, .int .u32 0, .int .u16 0, .int .u8 0, .int .u8 0, .int .u8 0, .bool false, .int .u8 0, .int .u8 0, .int .u8 0] 37)).alloc (.cells #[.int .u8 1, .int .u8 111, .int .u8 127, .int .u8 3] 105)).heap[w.heap.size + 1]? = some (.cells #[.int .u8 1, .int .u8 111, .int .u8 127, .int .u8 3] 105 (0, 0))) := Lib.hid (by have := BT.out; simpa using this)
  generalize (w.alloc (.cells #[.int .u16 0, .int .u32 0, .int .u16 0, .int .u8 0, .int .u8 0, .int .u8 0, .bool false, .int .u8 0, .int .u8 0, .int .u8 0] 37)).alloc (.cells #[.int .u8 1, .int .u8 111, .int .u8 127, .int .u8 3] 105) = w0 at M0 BE BT ⊢
  have HD0 := Lib.hid (HD.out.mods0 M0.out)
  generalize hgt : w.heap.size + 1 = gt at BT tc ⊢
  generalize hge : w.heap.size = ge at BE ⊢
  have HGT := Lib.hid (show gt ∉ [b] from by simp; omega)
  have HGE := Lib.hid (show ge ∉ [b] from by simp; omega)
  have HGW := Lib.hid (show w.heap.size ≤ ge by omega)
  have HVB := Lib.hid (show L ≠ [] → ∀ y, v.ownBlock = some y → y < ge from fun hl y hy => by
    have h1 := HD.out.rd.block_lt (fun e => hl (List.eq_nil_of_length_eq_zero (by rw [← i64s_length, e]; rfl))) y hy
    omega)
  clear hgt hge hbl
  refine heldStart (S := fun W => Mods [b] w0 W) 26 rfl (by kernel_rfl) Mods.refl.drew (fun hHeld => ?_)
  refine takeD (i := 0) (d := 6) (v := ?_) rfl rfl (by kernel_rfl) (by kernel_rfl) (by kernel_rfl) (fun _ _ _ h => h) (Or.inl ⟨by rfl, ?_⟩) hHeld ?_
  rotate_left 1
  · (intro w hSw; (try dsimp only at hSw); go_simp; (try with_reducible rfl))
  simp only [List.setIfInBounds_toArray, List.set_cons_zero, List.set_cons_succ]
  refine takeD (i := 3) (d := 9) (v := ?_) rfl rfl (by kernel_rfl) (by kernel_rfl) (by kernel_rfl) (fun _ _ _ h => h) (Or.inl ⟨by rfl, ?_⟩) hHeld ?_
  rotate_left 1
  · (intro w hSw; (try dsimp only at hSw); go_simp; (try with_reducible rfl))
  simp only [List.setIfInBounds_toArray, List.set_cons_zero, List.set_cons_succ]
  refine takeD (i := 6) (d := 12) (v := ?_) rfl rfl (by kernel_rfl) (by kernel_rfl) (by kernel_rfl) (fun _ _ _ h => h) (Or.inl ⟨by rfl, ?_⟩) hHeld ?_
  rotate_left 1
  · (intro w hSw; (try dsimp only at hSw); go_simp; (try with_reducible rfl))
  simp only [List.setIfInBounds_toArray, List.set_cons_zero, List.set_cons_succ]
  refine takeD (i := 8) (d := 14) (v := ?_) rfl rfl (by kernel_rfl) (by kernel_rfl) (by kernel_rfl) (fun _ _ _ h => h) (Or.inl ⟨by rfl, ?_⟩) hHeld ?_
  rotate_left 1
  · (intro w hSw; (try dsimp only at hSw); go_simp; (try with_reducible rfl))
  simp only [List.setIfInBounds_toArray, List.set_cons_zero, List.set_cons_succ]
  refine takeD (i := 10) (d := 16) (v := ?_) rfl rfl (by kernel_rfl) (by kernel_rfl) (by kernel_rfl) (fun _ _ _ h => h) (Or.inl ⟨by rfl, ?_⟩) hHeld ?_
  rotate_left 1
  · (intro w hSw; (try dsimp only at hSw); go_simp; (try with_reducible rfl))
  simp only [List.setIfInBounds_toArray, List.set_cons_zero, List.set_cons_succ]
  refine takeD (i := 14) (d := 20) (v := ?_) rfl rfl (by kernel_rfl) (by kernel_rfl) (by kernel_rfl) (fun _ _ _ h => h) (Or.inl ⟨by rfl, ?_⟩) hHeld ?_
  rotate_left 1
  · (intro w hSw; (try dsimp only at hSw); go_simp; (try with_reducible rfl))
  simp only [List.setIfInBounds_toArray, List.set_cons_zero, List.set_cons_succ]
  refine takeD (i := 16) (d := 22) (v := ?_) rfl rfl (by kernel_rfl) (by kernel_rfl) (by kernel_rfl) (fun _ _ _ h => h) (Or.inl ⟨by rfl, ?_⟩) hHeld ?_
  rotate_left 1
  · (intro w hSw; (try dsimp only at hSw); go_simp; (try with_reducible rfl))
  simp only [List.setIfInBounds_toArray, List.set_cons_zero, List.set_cons_succ]
  refine takeD (i := 18) (d := 24) (v := ?_) rfl rfl (by kernel_rfl) (by kernel_rfl) (by kernel_rfl) (fun _ _ _ h => h) (Or.inl ⟨by rfl, ?_⟩) hHeld ?_
  rotate_left 1
  · (intro w hSw; (try dsimp only at hSw); go_simp; (try with_reducible rfl))
  simp only [List.setIfInBounds_toArray, List.set_cons_zero, List.set_cons_succ]
  refine takeD (i := 20) (d := 26) (v := ?_) rfl rfl (by kernel_rfl) (by kernel_rfl) (by kernel_rfl) (fun _ _ _ h => h) (Or.inl ⟨by rfl, ?_⟩) hHeld ?_
  rotate_left 1
  · (intro w hSw; (try dsimp only at hSw); go_simp; (try with_reducible rfl))
  simp only [List.setIfInBounds_toArray, List.set_cons_zero, List.set_cons_succ]
  have hd0 := HD0.out.mods0 (Mods.refl.drew)
  refine (bothV_step (T := 37) (z := #[.int .u16 0, .int .u32 0, .int .u16 0, .int .u8 0, .int .u8 0, .int .u8 0, .bool false, .int .u8 0, .int .u8 0, .int .u8 0]) (vA := fun g => .pointer (some ⟨g, 0, none⟩)) (iA := 24) (dA := 4) (df := []) (B := w0.heap.size) rfl rfl rfl (fun _ _ _ => rfl) hHeld.size (i := 1) (d := 7) rfl (by decide) (by decide) (by kernel_rfl) (by kernel_rfl) (fun W M => hHeld.comp0 M) (J := fun u W => u = (.int .i64 (e1 L n).1) ∧ IsDice W b v L (e1 L n).2 ∧ Mods [b] w0 W) (fun _ _ h => h.2.2) ?_ ?_).1
  · intro W t' M ht K F hK
    have HC := Lib.hid (He1.out W (hd0.mods0 M))
    have MW := Lib.hid (hHeld.comp0 M)
    rcases ht with rfl | ⟨x, rfl⟩
    all_goals
      go_simp
      go_wp2_with (go_at_call 57; refine HC.out.mono ?_; rintro e W' ⟨rfl, D6, M6⟩)
      exact hK _ W' ⟨rfl, D6, MW.out.trans M6⟩ (fun g hg => M6.heap hg ((hd0.mods0 M).apart hg (by decide)))
  rintro _ We1 ⟨rfl, de1, hHeld⟩
  simp only [List.setIfInBounds_toArray, List.set_cons_zero, List.set_cons_succ]
  refine bothV_take (i := 2) (d := 8) (v := (.int .u32 (e1 L n).1)) rfl rfl (by decide) (by decide) (by kernel_rfl) (by kernel_rfl) (by kernel_rfl) (by kernel_rfl) (by kernel_rfl) (fun _ _ _ h => h) (fun t' ht => ?_) hHeld ?_
  · rcases ht with rfl | ⟨x, rfl⟩
    all_goals
      refine Or.inl ⟨by rfl, fun w hSw => ?_⟩
      go_simp
  simp only [List.setIfInBounds_toArray, List.set_cons_zero, List.set_cons_succ]
  refine (bothV_step (T := 37) (z := #[.int .u16 0, .int .u32 0, .int .u16 0, .int .u8 0, .int .u8 0, .int .u8 0, .bool false, .int .u8 0, .int .u8 0, .int .u8 0]) (vA := fun g => .pointer (some ⟨g, 0, none⟩)) (iA := 24) (dA := 4) (df := []) (B := w0.heap.size) rfl rfl rfl (fun _ _ _ => rfl) hHeld.size (i := 4) (d := 10) rfl (by decide) (by decide) (by kernel_rfl) (by kernel_rfl) (fun W M => hHeld.comp0 M) (J := fun u W => u = (.int .i64 (e2 L n).1) ∧ IsDice W b v L (e2 L n).2 ∧ Mods [b] w0 W) (fun _ _ h => h.2.2) ?_ ?_)
  · intro W t' M ht K F hK
    have HC := Lib.hid (He2.out W (de1.mods0 M))
    have MW := Lib.hid (hHeld.comp0 M)
    rcases ht with rfl | ⟨x, rfl⟩
    all_goals
      go_simp
      go_wp2_with (go_at_call 57; refine HC.out.mono ?_; rintro e W' ⟨rfl, D6, M6⟩)
      exact hK _ W' ⟨rfl, D6, MW.out.trans M6⟩ (fun g hg => M6.heap hg ((de1.mods0 M).apart hg (by decide)))
  rintro _ We2 ⟨rfl, de2, hHeld⟩
  simp only [List.setIfInBounds_toArray, List.set_cons_zero, List.set_cons_succ]
  refine bothV_take (i := 5) (d := 11) (v := (.int .u16 (e2 L n).1)) rfl rfl (by decide) (by decide) (by kernel_rfl) (by kernel_rfl) (by kernel_rfl) (by kernel_rfl) (by kernel_rfl) (fun _ _ _ h => h) (fun t' ht => ?_) hHeld ?_
  · rcases ht with rfl | ⟨x, rfl⟩
    all_goals
      refine Or.inl ⟨by rfl, fun w hSw => ?_⟩
      go_simp
  simp only [List.setIfInBounds_toArray, List.set_cons_zero, List.set_cons_succ]
  refine (bothV_step (T := 37) (z := #[.int .u16 0, .int .u32 0, .int .u16 0, .int .u8 0, .int .u8 0, .int .u8 0, .bool false, .int .u8 0, .int .u8 0, .int .u8 0]) (vA := fun g => .pointer (some ⟨g, 0, none⟩)) (iA := 24) (dA := 4) (df := []) (B := w0.heap.size) rfl rfl rfl (fun _ _ _ => rfl) hHeld.size (i := 7) (d := 13) rfl (by decide) (by decide) (by kernel_rfl) (by kernel_rfl) (fun W M => hHeld.comp0 M) (J := fun u W => u = (.int .u8 (e3 L n).1) ∧ IsDice W b v L (e3 L n).2 ∧ Mods [b] w0 W) (fun _ _ h => h.2.2) ?_ ?_)
  · intro W t' M ht K F hK
    have HC := Lib.hid (He3.out W (de2.mods0 M))
    have MW := Lib.hid (hHeld.comp0 M)
    rcases ht with rfl | ⟨x, rfl⟩
    all_goals
      go_simp
      go_wp2_with (go_at_call 58; refine HC.out.mono ?_; rintro e W' ⟨rfl, D6, M6⟩)
      exact hK _ W' ⟨rfl, D6, MW.out.trans M6⟩ (fun g hg => M6.heap hg ((de2.mods0 M).apart hg (by decide)))
  rintro _ We3 ⟨rfl, de3, hHeld⟩
  simp only [List.setIfInBounds_toArray, List.set_cons_zero, List.set_cons_succ]
  refine (bothV_step (T := 37) (z := #[.int .u16 0, .int .u32 0, .int .u16 0, .int .u8 0, .int .u8 0, .int .u8 0, .bool false, .int .u8 0, .int .u8 0, .int .u8 0]) (vA := fun g => .pointer (some ⟨g, 0, none⟩)) (iA := 24) (dA := 4) (df := []) (B := w0.heap.size) rfl rfl rfl (fun _ _ _ => rfl) hHeld.size (i := 9) (d := 15) rfl (by decide) (by decide) (by kernel_rfl) (by kernel_rfl) (fun W M => hHeld.comp0 M) (J := fun u W => u = (.int .u8 (e4 L n).1) ∧ IsDice W b v L (e4 L n).2 ∧ Mods [b] w0 W) (fun _ _ h => h.2.2) ?_ ?_)
  · intro W t' M ht K F hK
    have HC := Lib.hid (He4.out W (de3.mods0 M))
    have MW := Lib.hid (hHeld.comp0 M)
    rcases ht with rfl | ⟨x, rfl⟩
    all_goals
      go_simp
      go_wp2_with (go_at_call 58; refine HC.out.mono ?_; rintro e W' ⟨rfl, D6, M6⟩)
      exact hK _ W' ⟨rfl, D6, MW.out.trans M6⟩ (fun g hg => M6.heap hg ((de3.mods0 M).apart hg (by decide)))
  rintro _ We4 ⟨rfl, de4, hHeld⟩
  simp only [List.setIfInBounds_toArray, List.set_cons_zero, List.set_cons_succ]
  refine (bothV_step (T := 37) (z := #[.int .u16 0, .int .u32 0, .int .u16 0, .int .u8 0, .int .u8 0, .int .u8 0, .bool false, .int .u8 0, .int .u8 0, .int .u8 0]) (vA := fun g => .pointer (some ⟨g, 0, none⟩)) (iA := 24) (dA := 4) (df := []) (B := w0.heap.size) rfl rfl rfl (fun _ _ _ => rfl) hHeld.size (i := 11) (d := 17) rfl (by decide) (by decide) (by kernel_rfl) (by kernel_rfl) (fun W M => hHeld.comp0 M) (J := fun u W => u = (.int .i64 (e5 L n).1) ∧ IsDice W b v L (e5 L n).2 ∧ Mods [b] w0 W) (fun _ _ h => h.2.2) ?_ ?_)
  · intro W t' M ht K F hK
    have HC := Lib.hid (He5.out W (de4.mods0 M))
    have MW := Lib.hid (hHeld.comp0 M)
    rcases ht with rfl | ⟨x, rfl⟩
    all_goals
      go_simp
      go_wp2_with (go_at_call 57; refine HC.out.mono ?_; rintro e W' ⟨rfl, D6, M6⟩)
      exact hK _ W' ⟨rfl, D6, MW.out.trans M6⟩ (fun g hg => M6.heap hg ((de4.mods0 M).apart hg (by decide)))
  rintro _ We5 ⟨rfl, de5, hHeld⟩
  simp only [List.setIfInBounds_toArray, List.set_cons_zero, List.set_cons_succ]
  rw [HK5.out]
  refine bothV_take (i := 12) (d := 18) (v := (.pointer (some ⟨gt, k5, none⟩))) rfl rfl (by decide) (by decide) (by kernel_rfl) (by kernel_rfl) (by kernel_rfl) (by kernel_rfl) (by kernel_rfl) (fun _ _ _ h => h) (fun t' ht => ?_) hHeld ?_
  · rcases ht with rfl | ⟨x, rfl⟩
    all_goals
      refine Or.inl ⟨by rfl, fun w hSw => ?_⟩
      have q1 : ¬ (4 : Int) ≤ ((k5 : Nat) : Int) := by omega
      have q2 : ((k5 : Nat) : Int) < 4 := by omega
      go_simp
  simp only [List.setIfInBounds_toArray, List.set_cons_zero, List.set_cons_succ]
  refine bothV_take (i := 13) (d := 19) (v := (.int .u8 (typesL.getD k5 0))) rfl rfl (by decide) (by decide) (by kernel_rfl) (by kernel_rfl) (by kernel_rfl) (by kernel_rfl) (by kernel_rfl) (fun _ _ _ h => h) (fun t' ht => ?_) hHeld ?_
  · rcases ht with rfl | ⟨x, rfl⟩
    all_goals
      refine Or.inl ⟨by rfl, fun w hSw => ?_⟩
      have cst := tc.out w (hSw.heap BT.out HGT.out)
      go_simp
  simp only [List.setIfInBounds_toArray, List.set_cons_zero, List.set_cons_succ]
  refine (bothV_step (T := 37) (z := #[.int .u16 0, .int .u32 0, .int .u16 0, .int .u8 0, .int .u8 0, .int .u8 0, .bool false, .int .u8 0, .int .u8 0, .int .u8 0]) (vA := fun g => .pointer (some ⟨g, 0, none⟩)) (iA := 24) (dA := 4) (df := []) (B := w0.heap.size) rfl rfl rfl (fun _ _ _ => rfl) hHeld.size (i := 15) (d := 21) rfl (by decide) (by decide) (by kernel_rfl) (by kernel_rfl) (fun W M => hHeld.comp0 M) (J := fun u W => u = (.bool (e6 L n).1) ∧ IsDice W b v L (e6 L n).2 ∧ Mods [b] w0 W) (fun _ _ h => h.2.2) ?_ ?_)
  · intro W t' M ht K F hK
    have HC := Lib.hid (He6.out W (de5.mods0 M))
    have MW := Lib.hid (hHeld.comp0 M)
    rcases ht with rfl | ⟨x, rfl⟩
    all_goals
      go_simp
      go_wp2_with (go_at_call 59; refine HC.out.mono ?_; rintro e W' ⟨rfl, D6, M6⟩)
      exact hK _ W' ⟨rfl, D6, MW.out.trans M6⟩ (fun g hg => M6.heap hg ((de5.mods0 M).apart hg (by decide)))
  rintro _ We6 ⟨rfl, de6, hHeld⟩
  simp only [List.setIfInBounds_toArray, List.set_cons_zero, List.set_cons_succ]
  refine (bothV_step (T := 37) (z := #[.int .u16 0, .int .u32 0, .int .u16 0, .int .u8 0, .int .u8 0, .int .u8 0, .bool false, .int .u8 0, .int .u8 0, .int .u8 0]) (vA := fun g => .pointer (some ⟨g, 0, none⟩)) (iA := 24) (dA := 4) (df := []) (B := w0.heap.size) rfl rfl rfl (fun _ _ _ => rfl) hHeld.size (i := 17) (d := 23) rfl (by decide) (by decide) (by kernel_rfl) (by kernel_rfl) (fun W M => hHeld.comp0 M) (J := fun u W => u = (.int .u8 (e7 L n).1) ∧ IsDice W b v L (e7 L n).2 ∧ Mods [b] w0 W) (fun _ _ h => h.2.2) ?_ ?_)
  · intro W t' M ht K F hK
    have HC := Lib.hid (He7.out W (de6.mods0 M))
    have MW := Lib.hid (hHeld.comp0 M)
    rcases ht with rfl | ⟨x, rfl⟩
    all_goals
      go_simp
      go_wp2_with (go_at_call 58; refine HC.out.mono ?_; rintro e W' ⟨rfl, D6, M6⟩)
      exact hK _ W' ⟨rfl, D6, MW.out.trans M6⟩ (fun g hg => M6.heap hg ((de6.mods0 M).apart hg (by decide)))
  rintro _ We7 ⟨rfl, de7, hHeld⟩
  simp only [List.setIfInBounds_toArray, List.set_cons_zero, List.set_cons_succ]
  refine (bothV_step (T := 37) (z := #[.int .u16 0, .int .u32 0, .int .u16 0, .int .u8 0, .int .u8 0, .int .u8 0, .bool false, .int .u8 0, .int .u8 0, .int .u8 0]) (vA := fun g => .pointer (some ⟨g, 0, none⟩)) (iA := 24) (dA := 4) (df := []) (B := w0.heap.size) rfl rfl rfl (fun _ _ _ => rfl) hHeld.size (i := 19) (d := 25) rfl (by decide) (by decide) (by kernel_rfl) (by kernel_rfl) (fun W M => hHeld.comp0 M) (J := fun u W => u = (.int .u8 (e8 L n).1) ∧ IsDice W b v L (e8 L n).2 ∧ Mods [b] w0 W) (fun _ _ h => h.2.2) ?_ ?_)
  · intro W t' M ht K F hK
    have HC := Lib.hid (He8.out W (de7.mods0 M))
    have MW := Lib.hid (hHeld.comp0 M)
    rcases ht with rfl | ⟨x, rfl⟩
    all_goals
      go_simp
      go_wp2_with (go_at_call 58; refine HC.out.mono ?_; rintro e W' ⟨rfl, D6, M6⟩)
      exact hK _ W' ⟨rfl, D6, MW.out.trans M6⟩ (fun g hg => M6.heap hg ((de7.mods0 M).apart hg (by decide)))
  rintro _ We8 ⟨rfl, de8, hHeld⟩
  simp only [List.setIfInBounds_toArray, List.set_cons_zero, List.set_cons_succ]
  refine (bothV_step (T := 37) (z := #[.int .u16 0, .int .u32 0, .int .u16 0, .int .u8 0, .int .u8 0, .int .u8 0, .bool false, .int .u8 0, .int .u8 0, .int .u8 0]) (vA := fun g => .pointer (some ⟨g, 0, none⟩)) (iA := 24) (dA := 4) (df := []) (B := w0.heap.size) rfl rfl rfl (fun _ _ _ => rfl) hHeld.size (i := 21) (d := 27) rfl (by decide) (by decide) (by kernel_rfl) (by kernel_rfl) (fun W M => hHeld.comp0 M) (J := fun u W => u = (.int .u8 (e9 L n).1) ∧ IsDice W b v L (e9 L n).2 ∧ Mods [b] w0 W) (fun _ _ h => h.2.2) ?_ ?_)
  · intro W t' M ht K F hK
    have HC := Lib.hid (He9.out W (de8.mods0 M))
    have MW := Lib.hid (hHeld.comp0 M)
    rcases ht with rfl | ⟨x, rfl⟩
    all_goals
      go_simp
      go_wp2_with (go_at_call 58; refine HC.out.mono ?_; rintro e W' ⟨rfl, D6, M6⟩)
      exact hK _ W' ⟨rfl, D6, MW.out.trans M6⟩ (fun g hg => M6.heap hg ((de8.mods0 M).apart hg (by decide)))
  rintro _ We9 ⟨rfl, de9, hHeld⟩
  simp only [List.setIfInBounds_toArray, List.set_cons_zero, List.set_cons_succ]
  refine bothV_take (i := 22) (d := 28) (v := (.agg #[.int .u8 (e7 L n).1, .int .u8 (e8 L n).1, .int .u8 (e9 L n).1])) rfl rfl (by decide) (by decide) (by kernel_rfl) (by kernel_rfl) (by kernel_rfl) (by kernel_rfl) (by kernel_rfl) (fun _ _ _ h => h) (fun t' ht => ?_) hHeld ?_
  · rcases ht with rfl | ⟨x, rfl⟩
    all_goals
      refine Or.inl ⟨by rfl, fun w hSw => ?_⟩
      go_simp
      try rfl
  simp only [List.setIfInBounds_toArray, List.set_cons_zero, List.set_cons_succ]
  refine bothV_take (i := 23) (d := 29) (v := (.agg #[.int .u16 0, .int .u32 (e1 L n).1, .int .u16 (e2 L n).1, .int .u8 (e3 L n).1, .int .u8 (e4 L n).1, .int .u8 (typesL.getD k5 0), .bool (e6 L n).1, .int .u8 (e7 L n).1, .int .u8 (e8 L n).1, .int .u8 (e9 L n).1])) rfl rfl (by decide) (by decide) (by kernel_rfl) (by kernel_rfl) (by kernel_rfl) (by kernel_rfl) (by kernel_rfl) (fun _ _ _ h => h) (fun t' ht => ?_) hHeld ?_
  · rcases ht with rfl | ⟨x, rfl⟩
    all_goals
      refine Or.inl ⟨by rfl, fun w hSw => ?_⟩
      go_simp
      try rfl
  simp only [List.setIfInBounds_toArray, List.set_cons_zero, List.set_cons_succ]
  refine bothV_last (T := 37) (z := #[.int .u16 0, .int .u32 0, .int .u16 0, .int .u8 0, .int .u8 0, .int .u8 0, .bool false, .int .u8 0, .int .u8 0, .int .u8 0]) (vA := fun g => .pointer (some ⟨g, 0, none⟩)) (iA := 24) (dA := 4) (df := []) (B := w0.heap.size) rfl rfl rfl (fun _ _ _ => rfl) hHeld.size (by kernel_rfl) (fun W M => hHeld.comp0 M) (fun W4 g M4 hgb hg => ?_)
  replace hHeld := hHeld.comp0 M4
  have dW := de9.mods0 M4
  have HG4 := Lib.hid (show g ≠ ge from fun h => by have h1 := lt_of_block BE.out; omega)
  have HGB := Lib.hid (dW.apart hg (by decide))
  have hgeg : ge < g := by have h1 := lt_of_block BE.out; omega
  have HDW := Lib.hid dW
  try dsimp only
  refine wpAnyH_ready (rs := [25]) (by kernel_rfl) (by simp) ?_
  refine AllReadyH.cons rfl (fun K hK => ?_) AllReadyH.nil
  refine exec_store (cs := #[.int .u16 0, .int .u32 (e1 L n).1, .int .u16 (e2 L n).1, .int .u8 (e3 L n).1, .int .u8 (e4 L n).1, .int .u8 (typesL.getD k5 0), .bool (e6 L n).1, .int .u8 (e7 L n).1, .int .u8 (e8 L n).1, .int .u8 (e9 L n).1]) rfl rfl rfl hg rfl rfl rfl Try.sizeEv (by simp [Value.oneCell']) (fun W5 R5 M5 => ?_)
  have HR5 := Lib.hid (show W5.heap[g]? = some (.cells (rawE L n).cells.toArray 37 (0, 0)) from by
    rw [HRC.out]
    exact R5)
  have HM5 := Lib.hid (show Mods [b] w0 W5 from hHeld.comp M5 (fun y hy => .inr (by simp at hy; omega)))
  have HD5 := Lib.hid (HDW.out.mods M5 (by simp; intro h; exact HGB.out (by simp [h])) (fun hl y hy hm => by
    simp at hm
    have h1 := HD0.out.rd.block_lt (fun e => hl (List.eq_nil_of_length_eq_zero (by rw [← i64s_length, e]; rfl))) y hy
    omega))
  have HE5 := Lib.hid (HM5.out.heap BE.out HGE.out)
  clear hHeld
  refine hK.out _ _ HM5.out (fun hHeld => ?_)
  clear hHeld hK K R5 M5 hg
  refine wpAnyH_done (by kernel_rfl) ?_ _
  clear HRC He1 He2 He3 He4 He5 He6 He7 He8 He9 dW de1 de2 de3 de4 de5 de6 de7 de8 de9 hd0 t0 tc
  have HEV := Lib.hid (show evF L n = if (e10 L n).1 then { rawE L n with time := f32 4294967294 } else rawE L n from rfl)
  have HEN := Lib.hid (show evN L n = (e10 L n).2 from rfl)
  have HT5 := Lib.hid (HT.out W5 HD5.out)
  generalize rawE L n = X at HR5 HEV
  generalize e10 L n = Y at HT5 HEV HEN
  obtain ⟨yb, yn⟩ := Y
  simp only at HT5 HEV HEN
  cases yb with
  | true =>
    have HPRE := Lib.hid (show ∀ W6 : World, IsDice W6 b v L yn → Mods [b] W5 W6 → (W6.setCell ⟨g, 1, none⟩ (.int .u32 4294967294)).heap[g]? = some (.cells (({ X with time := f32 4294967294 } : Evt).cells.toArray) 37 (0, 0)) ∧ (W6.setCell ⟨g, 1, none⟩ (.int .u32 4294967294)).heap[ge]? = some (.cells #[.int .u16 0, .int .u32 0, .int .u16 0, .int .u8 0, .int .u8 0, .int .u8 0, .bool false, .int .u8 0, .int .u8 0, .int .u8 0] 37 (0, 0)) ∧ IsDice (W6.setCell ⟨g, 1, none⟩ (.int .u32 4294967294)) b v L yn ∧ Mods [b] w0 (W6.setCell ⟨g, 1, none⟩ (.int .u32 4294967294)) from fun W6 D6 M6 => by
      have MS := (Mods.refl (S := [g]) (w := W6)).setCell (p := ⟨g, 1, none⟩) (.inl (by simp)) (.int .u32 4294967294)
      refine ⟨heap_setCell (i := 1) (v := .int .u32 4294967294) (M6.heap HR5.out HGB.out), MS.heap (M6.heap HE5.out HGE.out) (by have := HG4.out; simp; omega), D6.mods MS (by have := HGB.out; simp at this ⊢; omega) (fun hl y hy hm => by
        simp at hm
        have := HVB.out hl y hy
        omega), (HM5.out.trans M6).comp MS (fun y hy => .inr (by simp at hy; omega))⟩)
    have HEV2 := Lib.hid (show evF L n = { X with time := f32 4294967294 } from HEV.out)
    generalize ({ X with time := f32 4294967294 } : Evt) = X2 at HPRE HEV2
    go_wp2_with (first
      | (go_at_call 59; refine HT5.out.mono ?_; rintro e W6 ⟨rfl, D6, M6⟩; have HR6 := Lib.hid (M6.heap HR5.out HGB.out); have HP := Lib.hid (HPRE.out W6 D6 M6); clear D6 M6; have c1 := (cell_blk HR6.out 1).trans (show _ = some (Value.int .u32 ((X.time.val : Nat) : Int)) from rfl); have f1 := froz_blk HR6.out 1)
      | (refine wpList_load_rowG (by rfl) 37 (.tmp 4) rfl g (by rfl) _ _ _ _ HP.out.1 Try.underlying37 rfl Try.sizeEv ?_)
      | (refine wpList_store_row (cs := X2.cells.toArray) rfl 37 (.tmp 2) (.tmp 33) rfl HP.out.2.1 (by rfl) (by rfl) (by rfl) Try.sizeEv (Evt.one _) ?_; intro W8 R8 M8; have HR8 := Lib.hid R8; have HM8 := Lib.hid M8; clear R8 M8))
    refine bodyPost_ret (results_cell_row rfl _ _ ge _ _ _ _ rfl HR8.out Try.underlying37 rfl Try.sizeEv) rfl ?_
    refine ⟨by rw [HEV2.out], ?_, ?_⟩
    · rw [HEN.out]
      exact HP.out.2.2.1.mods HM8.out (by have := HGE.out; simp at this ⊢; omega) (fun hl y hy hm => by
        simp at hm
        have := HVB.out hl y hy
        omega)
    · exact (M0.out.nil.trans HP.out.2.2.2).comp HM8.out (fun y hy => .inr (by simp at hy; subst hy; exact HGW.out))
  | false =>
    go_wp2_with (first
      | (go_at_call 59; refine HT5.out.mono ?_; rintro e W6 ⟨rfl, D6, M6⟩; have HR6 := Lib.hid (M6.heap HR5.out HGB.out); have HE6 := Lib.hid (M6.heap HE5.out HGE.out); have HD6 := Lib.hid D6; have HM6 := Lib.hid (HM5.out.trans M6); clear D6 M6)
      | (refine wpList_load_rowG (by rfl) 37 (.tmp 4) rfl g (by rfl) _ _ _ _ HR6.out Try.underlying37 rfl Try.sizeEv ?_)
      | (refine wpList_store_row (cs := X.cells.toArray) rfl 37 (.tmp 2) (.tmp 33) rfl HE6.out (by rfl) (by rfl) (by rfl) Try.sizeEv (Evt.one _) ?_; intro W7 R7 M7; have HR7 := Lib.hid R7; have HM7 := Lib.hid M7; clear R7 M7))
    refine bodyPost_ret (results_cell_row rfl _ _ ge _ _ _ _ rfl HR7.out Try.underlying37 rfl Try.sizeEv) rfl ?_
    refine ⟨by rw [HEV.out]; rfl, ?_, ?_⟩
    · rw [HEN.out]
      exact HD6.out.mods HM7.out (by have := HGE.out; simp at this ⊢; omega) (fun hl y hy hm => by
        simp at hm
        have := HVB.out hl y hy
        omega)
    · exact (M0.out.nil.trans HM6.out).comp HM7.out (fun y hy => .inr (by simp at hy; subst hy; exact HGW.out))
end Go.Proofs.Ytkdadnlleepkfaa
