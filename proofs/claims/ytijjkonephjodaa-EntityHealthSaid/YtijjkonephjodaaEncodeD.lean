/- sensor.Encode of a valid discrete sensor: contract. -/
import Derived.Test.YtijjkonephjodaaTwo
import Derived.Test.YtijjkonephjodaaAppendG
import Derived.Test.YtijjkonephjodaaSenValid
import Derived.Lib.AppendStr
import Derived.Laws.OwnMore
namespace Go.Proofs.Ytijjkonephjodaa
open Go.RowKit

def nameL (s : ByteArray) : List Int := s.data.toList.map fun b => (b.toNat : Int)
theorem nameL_cells (s : ByteArray) : Lib.strCells s = u8s (nameL s) := by simp [Lib.strCells, u8s, nameL]
theorem nameL_length (s : ByteArray) : (nameL s).length = s.size := by rw [nameL, List.length_map, Array.length_toList]; rfl
theorem nameL_bytes (s : ByteArray) : ∀ x ∈ nameL s, 0 ≤ x ∧ x ≤ 255 := by
  intro x hx
  obtain ⟨b, _, rfl⟩ := List.mem_map.1 hx
  have : b.toNat < 256 := b.toNat_lt
  constructor <;> omega
def flagD (S : Sen) : Int := if S.host then 7 else 5
def headL (S : Sen) (f : Int) : List Int := [1, S.number, S.type, S.unit, S.eid, S.einst, f, S.name.size]
/-- The bytes of a discrete sensor, without the sum. -/
def bodyD (S : Sen) : List Int := headL S (flagD S) ++ nameL S.name ++ twoL [S.states, S.asrt, S.deas]
theorem bytes_of {A : List Int} (h : ∀ x ∈ A, 0 ≤ x ∧ x ≤ 255) : Bytes A := fun i => by
  rcases Nat.lt_or_ge i A.length with hi | hi
  · rw [List.getD_eq_getElem?_getD, List.getElem?_eq_getElem hi]; exact h _ (List.getElem_mem hi)
  · rw [List.getD_eq_getElem?_getD, List.getElem?_eq_none hi]; decide
theorem owns_down {w : World} {B B' size n : Nat} {e : TypeId} {v : Value} {xs : List Value} (h : w.ownsRow B e size v n xs) (hb : B' ≤ B) : w.ownsRow B' e size v n xs := by
  obtain ⟨hl, h⟩ := h
  refine ⟨hl, ?_⟩
  rcases h with h | ⟨g, cap, cur, hv, hg, r⟩
  · exact .inl h
  · exact .inr ⟨g, cap, cur, hv, by omega, r⟩
def EncOut (w : World) (A : List Int) (e : Ending) (w' : World) : Prop :=
  ∃ v', e = .returned (.tuple #[v', .int .i64 0]) ∧ w'.ownsRow w.heap.size 5 1 v' (u8s A).length (u8s A) ∧ Mods [] w w'
set_option maxRecDepth 100000 in
set_option maxHeartbeats 2000000 in
theorem encodeD_ok (w : World) (S : Sen) (P : List Pt) (hS : IsSen w S P) (hd : S.disc = true) (hv : validB S P = true) :
    Calls Try.prog 16 #[.agg S.cells] w fun e w' => EncOut w (seal8 (bodyD S)) e w' := by
  have hsm : S.samples = 1 ∧ S.name.size ≤ 16 := by
    unfold validB at hv
    rw [hd] at hv
    simp only [Bool.and_eq_true, if_true, discB, nameB, decide_eq_true_eq] at hv
    exact ⟨hv.2.1.2.1, hv.1.1.1.2⟩
  obtain ⟨hs1, hn16⟩ := hsm
  have HV := Lib.hid hv
  have HS := Lib.hid hS
  have b0 := hS.number
  have b1 := hS.type
  have b2 := hS.unit
  have b4 := hS.eid
  have b5 := hS.einst
  have b23 := hS.states
  have b24 := hS.asrt
  have b25 := hS.deas
  clear hS hv
  have BB := Lib.hid (SenBox.new w S)
  have M0 := Lib.hid ((Mods.refl (S := []) (w := w)).alloc (.cells S.cells 32))
  obtain ⟨i0, hi, hz0, hz1, hz2⟩ := info_parts Try.infoB
  go_enter Try.func16, Try.ntmps16
  go_wp2_with (refine wpList_load_sen rfl (.tmp 1) rfl BB.out (by rfl) ?_)
  refine (valid_ok _ S P (HS.out.mods0 M0.out)).mono ?_
  rw [HV.out]
  rintro e w2 ⟨rfl, M2⟩
  have B2 := BB.out.mods0 M2
  have HM := Lib.hid (M0.out.trans M2)
  have c27 : w2.cell? ⟨w.heap.size, 27, none⟩ = some (.int .i64 1) := by rw [B2.rest.2.2.2.2.2.2, hs1]
  have c6 : w2.cell? ⟨w.heap.size, 6, none⟩ = some (.bool true) := by rw [B2.head.2.2.2.2.2.2, hd]
  have c26 := B2.rest.2.2.2.2.2.1
  obtain ⟨c0, c1, c2, c3, c4, c5, _⟩ := B2.head
  obtain ⟨_, _, c23, c24, c25, _, _⟩ := B2.rest
  have HH := Lib.hid (B2.blk)
  clear B2 BB M0 M2 HV HS
  generalize hg : w.heap.size = g at c27 c6 c26 c0 c1 c2 c3 c4 c5 c23 c24 c25 HH ⊢
  have HG := Lib.hid hg
  clear hg
  have f1 : bits .or .u8 4 1 = 5 := by decide
  have f2 : bits .or .u8 5 2 = 7 := by decide
  have hnm : S.name.size ≤ 9223372036854775807 := by omega
  cases hh : S.host with
  | false =>
    rw [hh] at c26
    have HF := Lib.hid (show flagD S = 5 by unfold flagD; rw [hh]; rfl)
    clear hh
    have MA := (Mods.refl (S := []) (w := w2)).alloc (.cells #[.int .u8 1, .int .u8 (S.number : Int), .int .u8 (S.type : Int), .int .u8 (S.unit : Int), .int .u8 (S.eid : Int), .int .u8 (S.einst : Int), .int .u8 5, .int .u8 (S.name.size : Int)] 5)
    have ca3 := MA.cell c3 (by simp)
    go_wp2_with (at_builtin; refine Lib.wpList_append_own_string _ rfl (.tmp 41) (.tmp 43) 33 9 rfl w.heap.size 5 i0 Try.underlying33 Try.underlying9 hi hz0 hz1 hz2 _ 8 (u8s (headL S 5)) (by rfl) (World.ownsRow_lit w2 #[.int .u8 1, .int .u8 S.number, .int .u8 S.type, .int .u8 S.unit, .int .u8 S.eid, .int .u8 S.einst, .int .u8 5, .int .u8 S.name.size] 8 HM.out.size (by decide) rfl) S.name (by rfl) (by unfold maxLen; omega) (by omega) (by have := HM.out.size; simp; omega) ?_; intro v3 w3 O3 G3 _; have HM3 := Lib.hid ((HM.out.trans MA).grown G3 (fun q hq => .inr (by simp [Value.ownBlock] at hq; have := HM.out.size; omega))); have HH3 : Hid (w3.heap[g]? = some (.cells S.cells 32 (0, 0))) := Lib.hid ((Mods.of_grown G3).heap (MA.heap HH.out (by simp)) (by have := lt_of_block HH.out; simp [Value.ownBlock]; omega)); have q6 : w3.cell? ⟨g, 6, none⟩ = some (.bool true) := (by rw [cell_blk HH3.out]; rw [cell_blk HH.out] at c6; exact c6); have q23 : w3.cell? ⟨g, 23, none⟩ = some (.int .u16 S.states) := (by rw [cell_blk HH3.out]; rfl); have q24 : w3.cell? ⟨g, 24, none⟩ = some (.int .u16 S.asrt) := (by rw [cell_blk HH3.out]; rfl); have q25 : w3.cell? ⟨g, 25, none⟩ = some (.int .u16 S.deas) := (by rw [cell_blk HH3.out]; rfl); have O3 := Lib.hid O3; clear G3)
    have R4 := heap_alloc_new w3 (.cells #[.int .u16 (S.states : Int), .int .u16 (S.asrt : Int), .int .u16 (S.deas : Int)] 30)
    have M4 := (Mods.refl (S := []) (w := w3)).alloc (.cells #[.int .u16 (S.states : Int), .int .u16 (S.asrt : Int), .int .u16 (S.deas : Int)] 30)
    have O4 := M4.owns O3.out (by simp)
    have HM4 := Lib.hid (HM3.out.trans M4)
    generalize w3.alloc (.cells #[.int .u16 (S.states : Int), .int .u16 (S.asrt : Int), .int .u16 (S.deas : Int)] 30) = w4 at R4 O4 HM4 ⊢
    generalize w3.heap.size = gl at R4 ⊢
    have HRL : Rd w4 (.slice (some ⟨gl, 0, none⟩) 3 3) (u16s [S.states, S.asrt, S.deas]) := ⟨some ⟨gl, 0, none⟩, 3, rfl, Nat.le_refl _, by decide, fun i hi => ⟨gl, 0, rfl, by
      rw [cell_blk R4]
      match i, hi with
      | 0, _ | 1, _ | 2, _ => rfl⟩⟩
    have H16 : ∀ n ∈ [S.states, S.asrt, S.deas], n < 65536 := fun n hn => by simp at hn; rcases hn with rfl | rfl | rfl <;> assumption
    clear MA M4 R4 ca3 q6 q23 q24 q25 c27 c6 c26 c0 c1 c2 c3 c4 c5 c23 c24 c25 HH HH3 O3 HM3
    refine (two_ok w4 _ [S.states, S.asrt, S.deas] HRL H16 (by simp)).mono ?_
    rintro e w5 ⟨v5, rfl, O5, M5⟩
    have O45 := M5.owns O4 (by simp)
    have HM5 := Lib.hid (HM4.out.trans M5)
    have ht6 : (u8s (twoL [S.states, S.asrt, S.deas])).length = 6 := by rw [u8s_length, twoL_length]; rfl
    clear HRL O4 HM4 M5
    go_wp2_with (at_builtin; refine wpList_append_two (by rfl) (.tmp 47) (.tmp 55) 33 rfl w.heap.size 5 i0 (.int .u8 0) 1 Try.underlying33 hi hz0 hz1 hz2 rfl v3 _ _ (by rfl) O45 v5 _ _ _ _ (by rfl) O5 (one_u8s _) (by rw [ht6]; omega) (by omega) HM5.out.size ?_; intro v6 w6 O6 M6)
    have HM6 := Lib.hid (HM5.out.then_from M6 (Nat.le_refl _))
    have HE : (u8s (headL S 5) ++ Lib.strCells S.name) ++ u8s (twoL [S.states, S.asrt, S.deas]) = u8s (bodyD S) := by rw [nameL_cells, bodyD, HF.out]; simp [u8s]
    rw [HE] at O6
    have HB : Bytes (bodyD S) := bytes_of fun x hx => by
      rw [bodyD, HF.out, List.mem_append, List.mem_append] at hx
      rcases hx with (hx | hx) | hx
      · simp only [headL, List.mem_cons, List.mem_nil_iff, or_false] at hx
        rcases hx with rfl | rfl | rfl | rfl | rfl | rfl | rfl | rfl <;> constructor <;> omega
      · exact nameL_bytes _ x hx
      · exact twoL_bytes _ H16 x hx
    have hlen : (bodyD S).length ≤ 100000 := by rw [bodyD, List.length_append, List.length_append, nameL_length, twoL_length]; simp [headL]; omega
    have HR6 := Rd.own O6
    clear O45 O5 O6 M6 HE HM5
    refine (seal8_ok w6 v6 (bodyD S) HR6 HB hlen).mono ?_
    rintro e w7 ⟨v7, rfl, O7, M7⟩
    have HM7 := Lib.hid (HM6.out.trans M7)
    have O7 := Lib.hid (owns_down O7 HM6.out.size)
    clear M7 HR6
    go_wp2
    go_ret2
    exact ⟨_, rfl, O7.out, HM7.out⟩
  | true =>
    rw [hh] at c26
    have HF := Lib.hid (show flagD S = 7 by unfold flagD; rw [hh]; rfl)
    clear hh
    have MA := (Mods.refl (S := []) (w := w2)).alloc (.cells #[.int .u8 1, .int .u8 (S.number : Int), .int .u8 (S.type : Int), .int .u8 (S.unit : Int), .int .u8 (S.eid : Int), .int .u8 (S.einst : Int), .int .u8 7, .int .u8 (S.name.size : Int)] 5)
    have ca3 := MA.cell c3 (by simp)
    go_wp2_with (at_builtin; refine Lib.wpList_append_own_string _ rfl (.tmp 41) (.tmp 43) 33 9 rfl w.heap.size 5 i0 Try.underlying33 Try.underlying9 hi hz0 hz1 hz2 _ 8 (u8s (headL S 7)) (by rfl) (World.ownsRow_lit w2 #[.int .u8 1, .int .u8 S.number, .int .u8 S.type, .int .u8 S.unit, .int .u8 S.eid, .int .u8 S.einst, .int .u8 7, .int .u8 S.name.size] 8 HM.out.size (by decide) rfl) S.name (by rfl) (by unfold maxLen; omega) (by omega) (by have := HM.out.size; simp; omega) ?_; intro v3 w3 O3 G3 _; have HM3 := Lib.hid ((HM.out.trans MA).grown G3 (fun q hq => .inr (by simp [Value.ownBlock] at hq; have := HM.out.size; omega))); have HH3 : Hid (w3.heap[g]? = some (.cells S.cells 32 (0, 0))) := Lib.hid ((Mods.of_grown G3).heap (MA.heap HH.out (by simp)) (by have := lt_of_block HH.out; simp [Value.ownBlock]; omega)); have q6 : w3.cell? ⟨g, 6, none⟩ = some (.bool true) := (by rw [cell_blk HH3.out]; rw [cell_blk HH.out] at c6; exact c6); have q23 : w3.cell? ⟨g, 23, none⟩ = some (.int .u16 S.states) := (by rw [cell_blk HH3.out]; rfl); have q24 : w3.cell? ⟨g, 24, none⟩ = some (.int .u16 S.asrt) := (by rw [cell_blk HH3.out]; rfl); have q25 : w3.cell? ⟨g, 25, none⟩ = some (.int .u16 S.deas) := (by rw [cell_blk HH3.out]; rfl); have O3 := Lib.hid O3; clear G3)
    have R4 := heap_alloc_new w3 (.cells #[.int .u16 (S.states : Int), .int .u16 (S.asrt : Int), .int .u16 (S.deas : Int)] 30)
    have M4 := (Mods.refl (S := []) (w := w3)).alloc (.cells #[.int .u16 (S.states : Int), .int .u16 (S.asrt : Int), .int .u16 (S.deas : Int)] 30)
    have O4 := M4.owns O3.out (by simp)
    have HM4 := Lib.hid (HM3.out.trans M4)
    generalize w3.alloc (.cells #[.int .u16 (S.states : Int), .int .u16 (S.asrt : Int), .int .u16 (S.deas : Int)] 30) = w4 at R4 O4 HM4 ⊢
    generalize w3.heap.size = gl at R4 ⊢
    have HRL : Rd w4 (.slice (some ⟨gl, 0, none⟩) 3 3) (u16s [S.states, S.asrt, S.deas]) := ⟨some ⟨gl, 0, none⟩, 3, rfl, Nat.le_refl _, by decide, fun i hi => ⟨gl, 0, rfl, by
      rw [cell_blk R4]
      match i, hi with
      | 0, _ | 1, _ | 2, _ => rfl⟩⟩
    have H16 : ∀ n ∈ [S.states, S.asrt, S.deas], n < 65536 := fun n hn => by simp at hn; rcases hn with rfl | rfl | rfl <;> assumption
    clear MA M4 R4 ca3 q6 q23 q24 q25 c27 c6 c26 c0 c1 c2 c3 c4 c5 c23 c24 c25 HH HH3 O3 HM3
    refine (two_ok w4 _ [S.states, S.asrt, S.deas] HRL H16 (by simp)).mono ?_
    rintro e w5 ⟨v5, rfl, O5, M5⟩
    have O45 := M5.owns O4 (by simp)
    have HM5 := Lib.hid (HM4.out.trans M5)
    have ht6 : (u8s (twoL [S.states, S.asrt, S.deas])).length = 6 := by rw [u8s_length, twoL_length]; rfl
    clear HRL O4 HM4 M5
    go_wp2_with (at_builtin; refine wpList_append_two (by rfl) (.tmp 47) (.tmp 55) 33 rfl w.heap.size 5 i0 (.int .u8 0) 1 Try.underlying33 hi hz0 hz1 hz2 rfl v3 _ _ (by rfl) O45 v5 _ _ _ _ (by rfl) O5 (one_u8s _) (by rw [ht6]; omega) (by omega) HM5.out.size ?_; intro v6 w6 O6 M6)
    have HM6 := Lib.hid (HM5.out.then_from M6 (Nat.le_refl _))
    have HE : (u8s (headL S 7) ++ Lib.strCells S.name) ++ u8s (twoL [S.states, S.asrt, S.deas]) = u8s (bodyD S) := by rw [nameL_cells, bodyD, HF.out]; simp [u8s]
    rw [HE] at O6
    have HB : Bytes (bodyD S) := bytes_of fun x hx => by
      rw [bodyD, HF.out, List.mem_append, List.mem_append] at hx
      rcases hx with (hx | hx) | hx
      · simp only [headL, List.mem_cons, List.mem_nil_iff, or_false] at hx
        rcases hx with rfl | rfl | rfl | rfl | rfl | rfl | rfl | rfl <;> constructor <;> omega
      · exact nameL_bytes _ x hx
      · exact twoL_bytes _ H16 x hx
    have hlen : (bodyD S).length ≤ 100000 := by rw [bodyD, List.length_append, List.length_append, nameL_length, twoL_length]; simp [headL]; omega
    have HR6 := Rd.own O6
    clear O45 O5 O6 M6 HE HM5
    refine (seal8_ok w6 v6 (bodyD S) HR6 HB hlen).mono ?_
    rintro e w7 ⟨v7, rfl, O7, M7⟩
    have HM7 := Lib.hid (HM6.out.trans M7)
    have O7 := Lib.hid (owns_down O7 HM6.out.size)
    clear M7 HR6
    go_wp2
    go_ret2
    exact ⟨_, rfl, O7.out, HM7.out⟩
end Go.Proofs.Ytijjkonephjodaa
