/- Joined texts. sensor.named and slices.IsSorted: contracts. | sensor.ordered: contract. | sensor.analog: contract. | sensor.discrete and sensor.Valid: contracts. | sensor.Valid: contract. -/
import Derived.Test.YtgjjmiaiclhidaaBaseB
import Derived.Laws.BitsAllLaws
import Derived.Deep.AppendLies
namespace Go.Proofs.Ytgjjmiaiclhidaa
open Go.RowKit

theorem nameB_bad {s : ByteArray} {k : Nat} (hk : k < s.size) (h : charB s[k] = false) : nameB s = false := by
  cases ht : nameB s with
  | false => rfl
  | true =>
    simp only [nameB, Bool.and_eq_true, List.all_eq_true] at ht
    have := ht.2 s[k] (by have : s[k] = s.data[k]'hk := rfl; rw [this]; simp)
    rw [this] at h
    cases h
theorem nameB_good {s : ByteArray} (h : ∀ k (hk : k < s.size), charB s[k] = true) : nameB s = decide (1 ≤ s.size ∧ s.size ≤ 16) := by
  have : s.data.toList.all charB = true := by
    rw [List.all_eq_true]
    intro c hc
    obtain ⟨i, hi, rfl⟩ := List.getElem_of_mem hc
    have e : s.data.toList[i] = s[i]'(by simpa using hi) := by simp; rfl
    rw [e]; exact h i _
  rw [nameB, this, Bool.and_true]
set_option maxRecDepth 100000 in
set_option maxHeartbeats 1000000 in
theorem named_ok (s : ByteArray) (hs : s.size ≤ 1000000) (w : World) :
    Calls Try.prog 86 #[.string s] w fun e w' => e = .returned (.bool (nameB s)) ∧ w = w' := by
  go_enter Try.func86, Try.ntmps86
  go_wp2_with fail
  go_loopw [6] (fun i wr => ∃ k : Nat, k ≤ s.size ∧ i = .int .i64 k ∧ wr = w ∧ Hid (∀ j (hj : j < s.size), j < k → charB s[j] = true)) (fun i _ => s.size - (intOf i).toNat)
  case atStart => exact ⟨0, Nat.zero_le _, rfl, rfl, fun j _ hj => by omega⟩
  case round =>
    obtain ⟨k, hk, rfl, hwr, hs2⟩ := hrel
    subst hwr
    by_cases hlt : k < s.size
    · have HX := Lib.hid (fun h => nameB_bad hlt h)
      obtain ⟨c, hc⟩ : ∃ c, c = s[k] := ⟨_, rfl⟩
      rw [← hc] at HX
      have HC := Lib.hid hc
      by_cases h1 : (c.toNat : Int) < 32
      · have e1 : decide ((s[k].toNat : Int) < 32) = true := by rw [← hc]; simpa using h1
        have HF := Lib.hid (HX.out (by simp [charB]; omega))
        clear h1 hc
        go_wp2
        go_ret
        exact ⟨ret_bool (by rw [HF.out]), rfl⟩
      · have e1 : decide ((s[k].toNat : Int) < 32) = false := by rw [← hc]; simpa using h1
        by_cases h2 : 126 < (c.toNat : Int)
        · have e2 : decide (126 < (s[k].toNat : Int)) = true := by rw [← hc]; simpa using h2
          have HF := Lib.hid (HX.out (by simp [charB]; omega))
          clear h1 h2 hc
          go_wp2
          go_ret
          exact ⟨ret_bool (by rw [HF.out]), rfl⟩
        · have e2 : decide (126 < (s[k].toNat : Int)) = false := by rw [← hc]; simpa using h2
          have HG := Lib.hid (show charB s[k] = true by rw [← hc]; simp [charB]; omega)
          clear h1 h2 hc
          go_wp2
          go_roundw
          case rel => exact ⟨k + 1, by omega, by go_num, by first | rfl | trivial, fun j hj hj2 => by
            rcases Nat.lt_or_ge j k with h | h
            · exact hs2.out j hj h
            · obtain rfl : j = k := by omega
              exact HG.out⟩
          case measure => simp [intOf]; omega
    · have HG := Lib.hid (nameB_good fun j hj => hs2.out j hj (by omega))
      go_wp2
      all_goals
        go_ret
        exact ⟨ret_bool (by rw [HG.out, Bool.eq_iff_iff]; simp; omega), rfl⟩

theorem sortedB_drop {L : List Int} {k : Nat} (hk : k + 1 < L.length) : sortedB (L.drop k) = (decide (L.getD k 0 ≤ L.getD (k + 1) 0) && sortedB (L.drop (k + 1))) := by
  rw [List.drop_eq_getElem_cons (by omega), List.drop_eq_getElem_cons (show k + 1 < L.length from hk), sortedB]
  simp [List.getD_eq_getElem?_getD, List.getElem?_eq_getElem hk, List.getElem?_eq_getElem (show k < L.length by omega)]
theorem sortedB_no {L : List Int} : ∀ k, sortedB (L.drop k) = false → sortedB L = false
  | 0, h => by simpa using h
  | k + 1, h => by
    refine sortedB_no k ?_
    rcases Nat.lt_or_ge (k + 1) L.length with hl | hl
    · rw [sortedB_drop hl, h, Bool.and_false]
    · rw [List.drop_eq_nil_of_le hl] at h; cases h
theorem sortedB_end {L : List Int} : sortedB (L.drop (L.length - 1)) = true := by
  rcases Nat.eq_zero_or_pos L.length with h | h
  · rw [List.drop_eq_nil_of_le (by omega)]; rfl
  · rw [List.drop_eq_getElem_cons (by omega), List.drop_eq_nil_of_le (by omega)]; rfl
theorem isNaN_ok (a : Int) (w : World) :
    Calls Try.prog 129 #[.int .i64 a] w fun e w' => e = .returned (.bool false) ∧ w = w' := by
  go_enter Try.func129, Try.ntmps129
  go_wp2
  go_ret
  exact ⟨ret_bool (by simp), rfl⟩
theorem less_ok (a b : Int) (w : World) :
    Calls Try.prog 146 #[.int .i64 a, .int .i64 b] w fun e w' => e = .returned (.bool (decide (a < b))) ∧ w = w' := by
  go_enter Try.func146, Try.ntmps146
  go_wp2_with fail
  refine (isNaN_ok a _).mono ?_
  rintro e w' ⟨rfl, rfl⟩
  go_wp2
  go_ret
  exact ⟨rfl, rfl⟩
set_option maxRecDepth 100000 in
set_option maxHeartbeats 1000000 in
theorem sorted_ok (w : World) (v : Value) (L : List Int) (hv : Rd w v (i64s L)) (hl : L.length ≤ 1000000) :
    Calls Try.prog 132 #[v] w fun e w' => e = .returned (.bool (sortedB L)) ∧ ∃ n, w' = w.drewN n := by
  obtain ⟨ad, cap, rfl, hc1, hc2, hcs⟩ := hv.i64
  unfold maxLen at hc2
  clear hv
  have HS := Lib.hid (sortedB_end (L := L))
  have HD := Lib.hid (fun k (hk : k + 1 < L.length) => sortedB_drop (L := L) hk)
  have HN := Lib.hid (fun k => sortedB_no (L := L) k)
  go_enter Try.func132, Try.ntmps132
  go_wp2_with fail
  go_loopw [3] (fun i wr => ∃ k : Int, k < L.length ∧ -1 ≤ k ∧ i = .int .i64 k ∧ (∃ n, wr = w.drewN n) ∧ Hid (sortedB (L.drop k.toNat) = true)) (fun i _ => (intOf i).toNat)
  case atStart => exact ⟨(L.length : Int) - 1, by omega, by omega, rfl, ⟨0, rfl⟩, by rw [show ((L.length : Int) - 1).toNat = L.length - 1 by omega]; exact HS.out⟩
  case round =>
    obtain ⟨k, hk, hk0, rfl, ⟨nd, rfl⟩, hs⟩ := hrel
    by_cases hlt : 0 < k
    · obtain ⟨j, rfl⟩ : ∃ j : Nat, k = (j : Int) + 1 := ⟨(k - 1).toNat, by omega⟩
      obtain ⟨ba, oa, rfl, x1⟩ := hcs (j + 1) (by omega)
      obtain ⟨_, _, he, x0⟩ := hcs j (by omega)
      injection he with he
      injection he with he1 he2
      subst he1 he2
      have HJ := Lib.hid (HD.out j (by omega))
      have HM := Lib.hid (HN.out j)
      have HK := Lib.hid (show sortedB (L.drop (j + 1)) = true from hs.out)
      clear hcs hs
      obtain ⟨x, hx⟩ : ∃ x, x = L.getD j 0 := ⟨_, rfl⟩
      obtain ⟨y, hy⟩ : ∃ y, y = L.getD (j + 1) 0 := ⟨_, rfl⟩
      rw [← hx] at x0 HJ
      rw [← hy] at x1 HJ
      clear hx hy
      have i1 : (0 : Int) ≤ (j : Int) := by omega
      have i2 : (j : Int) < (L.length : Int) := by omega
      have i3 : (j : Int) + 1 < (L.length : Int) := by omega
      have i4 : (0 : Int) ≤ (j : Int) + 1 := by omega
      have i5 : ((j : Int) + 1).toNat = j + 1 := by omega
      have i6 : IntKind.i64.wrap ((j : Int) + 1 - 1) = (j : Int) := by rw [show (j : Int) + 1 - 1 = j by omega]; exact IntWalk.i64_in _ (by omega)
      by_cases hxy : y < x
      · have HF := Lib.hid (HM.out (by rw [HJ.out, decide_eq_false (by omega), Bool.false_and]))
        go_wp2_with fail
        go_quiet ((go_at_call 146; exact quiet_add_left (less_ok _ _ _)))
        clear i6
        go_wp2
        go_ret
        exact ⟨ret_bool (by rw [HF.out]), nd + nq, by first | rfl | rw [World.drewN_drewN]⟩
      · have HF := Lib.hid (show sortedB (L.drop j) = true by rw [HJ.out, decide_eq_true (by omega), HK.out]; rfl)
        go_wp2_with fail
        go_quiet ((go_at_call 146; exact quiet_add_left (less_ok _ _ _)))
        clear i6
        go_wp2
        exact ⟨⟨(j : Int), by omega, by omega, rfl, ⟨nd + nq, by first | rfl | rw [World.drewN_drewN]⟩, HF.out⟩, by simp only [intOf]; omega⟩
    · have HF := Lib.hid (show sortedB L = true by have h0 : k.toNat = 0 := by omega
                                                   have := hs.out; rw [h0] at this; simpa using this)
      go_wp2
      go_ret
      exact ⟨ret_bool (by rw [HF.out]), _, rfl⟩
end Go.Proofs.Ytgjjmiaiclhidaa

namespace Go.Proofs.Ytgjjmiaiclhidaa
open Go.RowKit
theorem Try.infoI : (Try.prog.info? 3).map (fun i => (i.zero, i.size, i.bytes)) = some (some (.int .i64 0), 1, 8) := by kernel_rfl

/-- append of one element within a region that draws its order. -/
theorem step_push {P : Program} {ops : Array Oper} {o : Oper} {a : Act} {w : World} {K : Act → World → Prop} {Q : Exit → Act → World → Prop} {E : Prop} (hgd : o.guard = none) (s x : Operand) (t : TypeId)
    (ho : o.op = .call { callee := .builtin .append, args := #[s, x], argTypes := #[t, t] })
    (base : Nat) (e : TypeId) (i : TypeInfo) (z : Value) (bytes : Nat) (ht : P.underlying t = some (.slice e)) (hi : P.info? e = some i) (hz : i.zero = some z)
    (hsize : i.size = 1) (hby : i.bytes = bytes) (hzs : z.cells.size = 1)
    (v : Value) (n : Nat) (xs : List Value) (hs : a.eval s = v) (hown : w.ownsRow base e 1 v n xs) (g : Nat) (u : Value) (T : TypeId) (fr : Nat × Nat) (hg : w.heap[g]? = some (.cells #[u] T fr)) (hx : a.eval x = .slice (some ⟨g, 0, none⟩) 1 1) (hu : u.oneCell' = true)
    (hn : n ≤ 1000000) (hb : bytes ≤ 1000) (hbase : base ≤ w.heap.size)
    (h : ∀ v' w', w'.ownsRow base e 1 v' (n + 1) (xs ++ [u]) → Mods (from_ base w) w w' → K (a.put o.dst v') w') :
    if Region.wanted o (yielded ops a.tmps) = true then Oper.wp P o a w K Q else E := by
  refine step_append_lies _ hgd s x t ho base e i z 1 bytes ht hi hz hsize hby hzs (by decide) v n xs hs hown ⟨g, 0, none⟩ 1 1 [u] hx rfl ?_ (by intro u' hu'; simp at hu'; subst hu'; exact hu) (by decide) (by unfold maxLen; omega) ?_ hbase w.heap.size rfl ?_
  · intro j u' hj
    have := World.news_of_block (cs := #[u]) (t := T) (fr := fr) hg
    exact this j u' hj
  · have : (n + 1) * bytes ≤ 1000001 * 1000 := Nat.mul_le_mul (by omega) hb
    omega
  · intro g' cap w' h1 h2 _ _
    exact h _ _ h1 (Mods.of_from ((Below.refl base w).grown h2 hbase fun k hk => (hown.lt k hk).1))

theorem shr_nat (m i : Nat) : (m : Int) / 2 ^ i = ((m / 2 ^ i : Nat) : Int) := by simp
theorem bit8 {m : Nat} (hm : m < 256) (i : Nat) : bits .and .u8 ((m : Int) / 2 ^ i) 1 = if m.testBit i then 1 else 0 := by
  rw [shr_nat, show (1 : Int) = ((1 : Nat) : Int) from rfl, u8_and_nat _ _ (Nat.lt_of_le_of_lt (Nat.div_le_self _ _) hm) (by omega), nat_mask1, tb]
  rcases Nat.mod_two_eq_zero_or_one (m / 2 ^ i) with h | h <;> simp [h]
theorem bit16 {m : Nat} (hm : m < 65536) (i : Nat) : bits .and .u16 ((m : Int) / 2 ^ i) 1 = if m.testBit i then 1 else 0 := by
  rw [shr_nat, show (1 : Int) = ((1 : Nat) : Int) from rfl, u16_and_nat _ _ (Nat.lt_of_le_of_lt (Nat.div_le_self _ _) hm) (by omega), nat_mask1, tb]
  rcases Nat.mod_two_eq_zero_or_one (m / 2 ^ i) with h | h <;> simp [h]
theorem sel_snoc (m : Nat) (f : Nat → Int) (l : List Nat) (i : Nat) : sel m f (l ++ [i]) = sel m f l ++ if m.testBit i then [f i] else [] := by
  unfold sel
  rw [List.filter_append, List.map_append]
  cases h : m.testBit i <;> simp [List.filter, h]
theorem take_snocN {l : List Nat} {k : Nat} (h : k < l.length) : l.take (k + 1) = l.take k ++ [l.getD k 0] := by
  rw [List.take_succ_eq_append_getElem h, List.getD_eq_getElem?_getD, List.getElem?_eq_getElem h]; rfl
theorem Sen.raw_cell (S : Sen) {i : Nat} (h : i < 6) : S.cells[15 + i]? = some (.int .u8 (S.raw i)) := by
  match i, h with
  | 0, _ | 1, _ | 2, _ | 3, _ | 4, _ | 5, _ => rfl
/-- What the closure gives. -/
def NumsOut (w : World) (L : List Int) (e : Ending) (w' : World) : Prop := ∃ v', e = .returned v' ∧ w'.ownsRow w.heap.size 3 1 v' L.length (i64s L) ∧ Mods [] w w'
set_option maxRecDepth 100000 in
set_option maxHeartbeats 2000000 in
theorem numbers_ok (w : World) (S : Sen) (P : List Pt) (hS : IsSen w S P) (g : Nat) (hg : w.heap[g]? = some (.cells S.cells 32 (0, 0))) (v : Value) (I : List Nat) (hv : Rd w v (i64s (I.map fun i : Nat => (i : Int)))) (hI : ∀ i ∈ I, i < 6) (hl : I.length ≤ 6) :
    Calls Try.prog 131 #[v, .pointer (some ⟨g, 0, none⟩)] w fun e w' => NumsOut w (sel S.mask S.num I) e w' := by
  have hgl := lt_of_block hg
  have hm := hS.mask
  have HR := Lib.hid hS.raw
  have HG := Lib.hid hg
  have RD := Lib.hid hv
  have HI := Lib.hid hI
  obtain ⟨ad, cap, rfl, hc1, hc2, _⟩ := hv.i64
  rw [List.length_map] at hc1
  rw [List.length_map]
  unfold maxLen at hc2
  obtain ⟨i0, hi, hz0, hz1, hz2⟩ := info_parts Try.infoI
  clear hv hS hg hI
  go_enter Try.func131, Try.ntmps131
  go_wp2_with fail
  go_loopw [4, 9] (fun d i wr => ∃ k : Nat, k ≤ I.length ∧ i = .int .i64 k ∧ wr.ownsRow w.heap.size 3 1 d (sel S.mask S.num (I.take k)).length (i64s (sel S.mask S.num (I.take k))) ∧ Mods [] w wr) (fun _ i _ => I.length - (intOf i).toNat)
  case atStart => exact ⟨0, Nat.zero_le _, rfl, World.ownsRow_nil _ _ _ _, Mods.refl⟩
  case round =>
    obtain ⟨k, hk, rfl, O, M⟩ := hrel
    by_cases hlt : k < I.length
    · obtain ⟨_, _, he, _, _, hc⟩ := (RD.out.mods0 M).i64
      obtain ⟨bb, off, rfl, x0⟩ := hc k (by rw [List.length_map]; exact hlt)
      injection he with he1 he2 he3
      subst he1 he3
      clear hc he2
      obtain ⟨i, hi2⟩ : ∃ i, i = I.getD k 0 := ⟨_, rfl⟩
      have h6 : i < 6 := by rw [hi2, List.getD_eq_getElem?_getD, List.getElem?_eq_getElem hlt]; exact HI.out _ (List.getElem_mem hlt)
      have e0 : (I.map fun i : Nat => (i : Int)).getD k 0 = (i : Int) := by
        rw [hi2]; simp [List.getD_eq_getElem?_getD, List.getElem?_eq_getElem hlt]
      rw [e0] at x0
      have HI2 := Lib.hid hi2
      clear e0 hi2
      have H1 := M.heap HG.out (by simp)
      have z0 : wr.cell? ⟨g, 14, none⟩ = some (.int .u8 S.mask) := cell_blk H1 14
      have z1 : wr.cell? ⟨g, 15 + i, none⟩ = some (.int .u8 (S.raw i)) := by rw [cell_blk H1]; exact S.raw_cell h6
      have z2 : wr.cell? ⟨g, 8, none⟩ = some (.bool S.conv.sgn) := cell_blk H1 8
      have b8 := bit8 hm i
      cases hb : S.mask.testBit i with
      | false =>
        have HS := Lib.hid (show sel S.mask S.num (I.take (k + 1)) = sel S.mask S.num (I.take k) by rw [take_snocN hlt, sel_snoc, ← HI2.out, hb]; simp)
        rw [hb] at b8
        have b9 : (bits .and .u8 ((S.mask : Int) / 2 ^ i) 1 == 1) = false := by rw [b8]; rfl
        clear hb b8 z1 z2
        go_wp2
        go_roundw
        case rel => exact ⟨k + 1, by omega, by go_num, by rw [HS.out]; exact O, M⟩
        case measure => simp [intOf]; omega
      | true =>
        have HS := Lib.hid (show sel S.mask S.num (I.take (k + 1)) = sel S.mask S.num (I.take k) ++ [S.num i] by rw [take_snocN hlt, sel_snoc, ← HI2.out, hb]; simp)
        rw [hb] at b8
        have b9 : (bits .and .u8 ((S.mask : Int) / 2 ^ i) 1 == 1) = true := by rw [b8]; rfl
        have hr := HR.out i
        clear hb b8
        have i1 : (0 : Int) ≤ (i : Int) := by omega
        have i2 : (i : Int) < 6 := by omega
        have hn6 : (sel S.mask S.num (I.take k)).length ≤ 6 := by
          have : (sel S.mask S.num (I.take k)).length ≤ (I.take k).length := by unfold sel; rw [List.length_map]; exact List.length_filter_le _ _
          rw [List.length_take] at this
          omega
        go_wp2_with fail
        go_region_held3 (fun w' => w'.cell? ⟨g, 8, none⟩ = some (.bool S.conv.sgn) ∧ w'.cell? ⟨g, 15 + i, none⟩ = some (.int .u8 (S.raw i)))
          (first | go_keep | exact ⟨M5.cell (((Mods.refl (S := []) (w := wr)).alloc _).drew.cell z2 (by simp)) (not_from hgl), M5.cell (((Mods.refl (S := []) (w := wr)).alloc _).drew.cell z1 (by simp)) (not_from hgl)⟩)
          (first
            | (go_at_call 47; refine (number_ok S.conv.sgn (S.raw i) hr _).mono ?_; rintro e w' ⟨rfl, rfl⟩)
            | (refine step_push (by rfl) _ _ _ (by rfl) w.heap.size 3 i0 (.int .i64 0) 8 Try.underlying34 hi hz0 hz1 hz2 rfl _ _ _ (by rfl) ((O.alloc _).drew) wr.heap.size _ _ _ (heap_alloc_new wr _) (by rfl) (by rfl) (by omega) (by omega) (by have := M.size; simp; omega) ?_; intro v' w5 hown' M5))
        have M6 : Mods [] w w5 := ((M.alloc _).drew).then_from M5 (Nat.le_refl _)
        have O6 := Lib.hid (own_i64 hown')
        rename_i hHeld
        clear hHeld O M5 hown' z0 z1 z2 b9
        go_wp2
        go_roundw
        case rel =>
          refine ⟨k + 1, by omega, by go_num, ?_, M6⟩
          rw [HS.out, List.length_append]
          exact O6.out
        case measure => simp [intOf]; omega
    · have hkl : k = I.length := by omega
      subst hkl
      rw [List.take_length] at O
      go_wp2
      go_ret
      exact ⟨_, rfl, O, M⟩
set_option maxRecDepth 100000 in
set_option maxHeartbeats 2000000 in
theorem ordered_ok (w : World) (S : Sen) (P : List Pt) (hS : IsSen w S P) :
    Calls Try.prog 118 #[.agg S.cells] w fun e w' => e = .returned (.bool (ordB S.mask S.num)) ∧ Mods [] w w' := by
  have HO := Lib.hid (ord_eq S.mask S.num)
  have HS := Lib.hid hS
  clear hS
  go_enter Try.func118, Try.ntmps118
  go_wp2_with fail
  have G2 := heap_alloc2_old w (.cells S.cells 32) (.cells #[.int .i64 2, .int .i64 1, .int .i64 0] 3)
  have G3 := heap_alloc2_new w (.cells S.cells 32) (.cells #[.int .i64 2, .int .i64 1, .int .i64 0] 3)
  have M2 := ((Mods.refl (S := []) (w := w)).alloc (.cells S.cells 32)).alloc (.cells #[.int .i64 2, .int .i64 1, .int .i64 0] 3)
  have Z2 : ((w.alloc (.cells S.cells 32)).alloc (.cells #[.int .i64 2, .int .i64 1, .int .i64 0] 3)).heap.size = w.heap.size + 2 := by simp
  generalize (w.alloc (.cells S.cells 32)).alloc (.cells #[.int .i64 2, .int .i64 1, .int .i64 0] 3) = w2 at G2 G3 M2 Z2 ⊢
  generalize w.heap.size = g at G2 G3 Z2 ⊢
  have R2 : Rd w2 (.slice (some ⟨g + 1, 0, none⟩) 3 3) (i64s (List.map (fun i : Nat => (i : Int)) [2, 1, 0])) := ⟨_, 3, rfl, by decide, by decide, fun i hi => ⟨_, _, rfl, by
    rw [Nat.zero_add, cell_blk G3]
    match i, hi with
    | 0, _ | 1, _ | 2, _ => rfl⟩⟩
  refine (numbers_ok w2 S P (HS.out.mods0 M2) g G2 _ [2, 1, 0] R2 (by decide) (by decide)).mono ?_
  rintro e w3 ⟨v1, rfl, O1, M3⟩
  have G4 := M3.heap G2 (by simp)
  have Z3 := M3.size
  have HL1 := Lib.hid (show (sel S.mask S.num [2, 1, 0]).length ≤ 3 by unfold sel; rw [List.length_map]; exact List.length_filter_le _ [2, 1, 0])
  have MA := M2.trans M3
  generalize sel S.mask S.num [2, 1, 0] = L1 at O1 HO HL1
  have R1 := Lib.hid (Rd.own O1)
  clear G2 G3 R2 M2 M3 O1
  go_wp2_with fail
  have G5 := heap_alloc (o' := .cells #[.int .i64 3, .int .i64 4, .int .i64 5] 3) G4
  have G6 := heap_alloc_new w3 (.cells #[.int .i64 3, .int .i64 4, .int .i64 5] 3)
  have M4 := (Mods.refl (S := []) (w := w3)).alloc (.cells #[.int .i64 3, .int .i64 4, .int .i64 5] 3)
  generalize w3.alloc (.cells #[.int .i64 3, .int .i64 4, .int .i64 5] 3) = w4 at G5 G6 M4 ⊢
  generalize w3.heap.size = g2 at G6 ⊢
  have R2 : Rd w4 (.slice (some ⟨g2, 0, none⟩) 3 3) (i64s (List.map (fun i : Nat => (i : Int)) [3, 4, 5])) := ⟨_, 3, rfl, by decide, by decide, fun i hi => ⟨_, _, rfl, by
    rw [Nat.zero_add, cell_blk G6]
    match i, hi with
    | 0, _ | 1, _ | 2, _ => rfl⟩⟩
  refine (numbers_ok w4 S P (HS.out.mods0 (MA.trans M4)) g G5 _ [3, 4, 5] R2 (by decide) (by decide)).mono ?_
  rintro e w5 ⟨v2, rfl, O2, M5⟩
  have HL2 := Lib.hid (show (sel S.mask S.num [3, 4, 5]).length ≤ 3 by unfold sel; rw [List.length_map]; exact List.length_filter_le _ [3, 4, 5])
  generalize sel S.mask S.num [3, 4, 5] = L2 at O2 HO HL2
  have R1 := Lib.hid ((R1.out.mods0 M4).mods0 M5)
  have R2 := Lib.hid (Rd.own O2)
  have MM := Lib.hid ((MA.trans M4).trans M5)
  clear G4 G5 G6 M4 M5 MA O2 Z3 Z2
  obtain ⟨a1, c1, rfl, p1, q1, r1⟩ := R1.out.i64
  obtain ⟨a2, c2, rfl, p2, q2, r2⟩ := R2.out.i64
  unfold maxLen at q1 q2
  have l1 := HL1.out
  have l2 := HL2.out
  by_cases h1 : L1.length = 0
  · have HA := Lib.hid (show apartB L1 L2 = true by rw [List.eq_nil_of_length_eq_zero h1]; rfl)
    have e1 : (L1.length == 0) = true := by simp [h1]
    have e2 : ((L1.length : Int) == 0) = true := by simp [h1]
    clear h1
    go_wp2_with fail
    go_quiet (fail)
    clear r1 r2
    go_wp2_with fail
    refine (sorted_ok _ _ L1 (R1.out.mods0 (Mods.refl.drewN nq)) (by omega)).mono ?_
    rintro e w7 ⟨rfl, n7, rfl⟩
    cases hs1 : sortedB L1 with
    | false =>
      have HF := Lib.hid hs1
      clear hs1
      go_wp2_with fail
      go_ret
      exact ⟨ret_bool (by rw [← HO.out, HF.out]; rfl), MM.out.drewN _⟩
    | true =>
      have HF := Lib.hid hs1
      clear hs1
      go_wp2_with fail
      refine (sorted_ok _ _ L2 (R2.out.mods0 (Mods.refl.drewN (nq + n7))) (by omega)).mono ?_
      rintro e w8 ⟨rfl, n8, rfl⟩
      cases hs2 : sortedB L2 with
      | false =>
        have HF2 := Lib.hid hs2
        clear hs2
        go_wp2_with fail
        go_ret
        exact ⟨ret_bool (by rw [← HO.out, HF.out, HF2.out]; rfl), MM.out.drewN _⟩
      | true =>
        have HF2 := Lib.hid hs2
        clear hs2
        go_wp2_with fail
        go_ret
        exact ⟨ret_bool (by rw [← HO.out, HF.out, HF2.out, HA.out]; rfl), MM.out.drewN _⟩
  · have e1 : (L1.length == 0) = false := by simp [h1]
    have e2 : ((L1.length : Int) == 0) = false := beq_eq_false_iff_ne.2 (by omega)
    by_cases h2 : L2.length = 0
    · have HA := Lib.hid (show apartB L1 L2 = true by rw [List.eq_nil_of_length_eq_zero h2]; unfold apartB; cases L1.getLast? <;> rfl)
      have e3 : (L2.length == 0) = true := by simp [h2]
      have e4 : ((L2.length : Int) == 0) = true := by simp [h2]
      clear h1 h2
      go_wp2_with fail
      go_quiet (fail)
      clear r1 r2
      go_wp2_with fail
      refine (sorted_ok _ _ L1 (R1.out.mods0 (Mods.refl.drewN nq)) (by omega)).mono ?_
      rintro e w7 ⟨rfl, n7, rfl⟩
      cases hs1 : sortedB L1 with
      | false =>
        have HF := Lib.hid hs1
        clear hs1
        go_wp2_with fail
        go_ret
        exact ⟨ret_bool (by rw [← HO.out, HF.out]; rfl), MM.out.drewN _⟩
      | true =>
        have HF := Lib.hid hs1
        clear hs1
        go_wp2_with fail
        refine (sorted_ok _ _ L2 (R2.out.mods0 (Mods.refl.drewN (nq + n7))) (by omega)).mono ?_
        rintro e w8 ⟨rfl, n8, rfl⟩
        cases hs2 : sortedB L2 with
        | false =>
          have HF2 := Lib.hid hs2
          clear hs2
          go_wp2_with fail
          go_ret
          exact ⟨ret_bool (by rw [← HO.out, HF.out, HF2.out]; rfl), MM.out.drewN _⟩
        | true =>
          have HF2 := Lib.hid hs2
          clear hs2
          go_wp2_with fail
          go_ret
          exact ⟨ret_bool (by rw [← HO.out, HF.out, HF2.out, HA.out]; rfl), MM.out.drewN _⟩
    · have e3 : (L2.length == 0) = false := by simp [h2]
      have e4 : ((L2.length : Int) == 0) = false := beq_eq_false_iff_ne.2 (by omega)
      have HA := Lib.hid (show apartB L1 L2 = decide (L1.getD (L1.length - 1) 0 < L2.getD 0 0) by
        unfold apartB
        rw [List.getLast?_eq_getElem?, List.head?_eq_getElem?, List.getElem?_eq_getElem (show L1.length - 1 < L1.length by omega), List.getElem?_eq_getElem (show 0 < L2.length by omega)]
        simp [List.getD_eq_getElem?_getD, List.getElem?_eq_getElem (show L1.length - 1 < L1.length by omega), List.getElem?_eq_getElem (show 0 < L2.length by omega)])
      obtain ⟨b1, o1, rfl, x1⟩ := r1 (L1.length - 1) (by omega)
      obtain ⟨b2, o2, rfl, x2⟩ := r2 0 (by omega)
      rw [Nat.add_zero] at x2
      generalize L1.getD (L1.length - 1) 0 = y1 at x1 HA
      generalize L2.getD 0 0 = y2 at x2 HA
      have j1 : (0 : Int) ≤ (L1.length : Int) - 1 := by omega
      have j2 : (L1.length : Int) - 1 < (L1.length : Int) := by omega
      have j3 : ((L1.length : Int) - 1).toNat = L1.length - 1 := by omega
      have j4 : (0 : Int) < (L2.length : Int) := by omega
      have j7 : (1 : Int) ≤ (L1.length : Int) := by omega
      have j8 : 1 ≤ L1.length := by omega
      have j9 : 0 < L1.length := by omega
      have j5 : 0 < L2.length := by omega
      have j6 : IntKind.i64.wrap ((L1.length : Int) - 1) = (L1.length : Int) - 1 := IntWalk.i64_in _ (by omega)
      clear h1 h2
      go_wp2_with fail
      go_quiet (fail)
      clear j6 j3
      clear r1 r2
      go_wp2_with fail
      refine (sorted_ok _ _ L1 (R1.out.mods0 (Mods.refl.drewN nq)) (by omega)).mono ?_
      rintro e w7 ⟨rfl, n7, rfl⟩
      cases hs1 : sortedB L1 with
      | false =>
        have HF := Lib.hid hs1
        clear hs1
        go_wp2_with fail
        go_ret
        exact ⟨ret_bool (by rw [← HO.out, HF.out]; rfl), MM.out.drewN _⟩
      | true =>
        have HF := Lib.hid hs1
        clear hs1
        go_wp2_with fail
        refine (sorted_ok _ _ L2 (R2.out.mods0 (Mods.refl.drewN (nq + n7))) (by omega)).mono ?_
        rintro e w8 ⟨rfl, n8, rfl⟩
        cases hs2 : sortedB L2 with
        | false =>
          have HF2 := Lib.hid hs2
          clear hs2
          go_wp2_with fail
          go_ret
          exact ⟨ret_bool (by rw [← HO.out, HF.out, HF2.out]; rfl), MM.out.drewN _⟩
        | true =>
          have HF2 := Lib.hid hs2
          clear hs2
          go_wp2_with fail
          go_ret
          exact ⟨ret_bool (by rw [← HO.out, HF.out, HF2.out, HA.out]; rfl), MM.out.drewN _⟩
end Go.Proofs.Ytgjjmiaiclhidaa

namespace Go.Proofs.Ytgjjmiaiclhidaa
open Go.RowKit

/-- The cells of a sensor record that lies in a block. -/
structure SenBox (w : World) (g : Nat) (S : Sen) : Prop where
  blk : w.heap[g]? = some (.cells S.cells 32 (0, 0))
theorem SenBox.mods {w w' : World} {g : Nat} {S : Sen} {T : List Nat} (h : SenBox w g S) (hm : Mods T w w') (hn : g ∉ T) : SenBox w' g S := ⟨hm.heap h.blk hn⟩
theorem SenBox.mods0 {w w' : World} {g : Nat} {S : Sen} (h : SenBox w g S) (hm : Mods [] w w') : SenBox w' g S := h.mods hm (by simp)
theorem SenBox.new (w : World) (S : Sen) : SenBox (w.alloc (.cells S.cells 32)) w.heap.size S := ⟨heap_alloc_new _ _⟩
theorem SenBox.c {w : World} {g : Nat} {S : Sen} (h : SenBox w g S) (i : Nat) : w.cell? ⟨g, i, none⟩ = S.cells[i]? := cell_blk h.blk i
theorem SenBox.craw {w : World} {g : Nat} {S : Sen} (h : SenBox w g S) {i : Nat} (hi : i < 6) : w.cell? ⟨g, 15 + i, none⟩ = some (.int .u8 (S.raw i)) := by rw [h.c]; exact S.raw_cell hi
theorem SenBox.conv {w : World} {g : Nat} {S : Sen} (h : SenBox w g S) : w.cell? ⟨g, 7, none⟩ = some (.int .i64 S.conv.form) ∧ w.cell? ⟨g, 8, none⟩ = some (.bool S.conv.sgn) ∧ w.cell? ⟨g, 9, none⟩ = some (.int .i64 S.conv.m) ∧ w.cell? ⟨g, 10, none⟩ = some (.int .i64 S.conv.b) ∧ w.cell? ⟨g, 11, none⟩ = some (.int .i64 S.conv.k1) ∧ w.cell? ⟨g, 12, none⟩ = some (.int .i64 S.conv.k2) ∧ w.cell? ⟨g, 13, none⟩ = some S.conv.pts := by
  refine ⟨?_, ?_, ?_, ?_, ?_, ?_, ?_⟩ <;> (rw [h.c]; rfl)
theorem SenBox.lims {w : World} {g : Nat} {S : Sen} (h : SenBox w g S) : w.cell? ⟨g, 14, none⟩ = some (.int .u8 S.mask) ∧ w.cell? ⟨g, 15, none⟩ = some (.int .u8 S.r0) ∧ w.cell? ⟨g, 16, none⟩ = some (.int .u8 S.r1) ∧ w.cell? ⟨g, 17, none⟩ = some (.int .u8 S.r2) ∧ w.cell? ⟨g, 18, none⟩ = some (.int .u8 S.r3) ∧ w.cell? ⟨g, 19, none⟩ = some (.int .u8 S.r4) ∧ w.cell? ⟨g, 20, none⟩ = some (.int .u8 S.r5) := by
  refine ⟨?_, ?_, ?_, ?_, ?_, ?_, ?_⟩ <;> (rw [h.c]; rfl)
theorem SenBox.rest {w : World} {g : Nat} {S : Sen} (h : SenBox w g S) : w.cell? ⟨g, 21, none⟩ = some (.int .u8 S.hl) ∧ w.cell? ⟨g, 22, none⟩ = some (.int .u8 S.hu) ∧ w.cell? ⟨g, 23, none⟩ = some (.int .u16 S.states) ∧ w.cell? ⟨g, 24, none⟩ = some (.int .u16 S.asrt) ∧ w.cell? ⟨g, 25, none⟩ = some (.int .u16 S.deas) ∧ w.cell? ⟨g, 26, none⟩ = some (.bool S.host) ∧ w.cell? ⟨g, 27, none⟩ = some (.int .i64 S.samples) := by
  refine ⟨?_, ?_, ?_, ?_, ?_, ?_, ?_⟩ <;> (rw [h.c]; rfl)
theorem SenBox.head {w : World} {g : Nat} {S : Sen} (h : SenBox w g S) : w.cell? ⟨g, 0, none⟩ = some (.int .u8 S.number) ∧ w.cell? ⟨g, 1, none⟩ = some (.int .u8 S.type) ∧ w.cell? ⟨g, 2, none⟩ = some (.int .u8 S.unit) ∧ w.cell? ⟨g, 3, none⟩ = some (.string S.name) ∧ w.cell? ⟨g, 4, none⟩ = some (.int .u8 S.eid) ∧ w.cell? ⟨g, 5, none⟩ = some (.int .u8 S.einst) ∧ w.cell? ⟨g, 6, none⟩ = some (.bool S.disc) := by
  refine ⟨?_, ?_, ?_, ?_, ?_, ?_, ?_⟩ <;> (rw [h.c]; rfl)

theorem Sen.infoS (S : Sen) : (Try.prog.info? 32).map (·.size) = some S.cells.size := by
  show _ = some 28
  kernel_rfl
/-- A sensor record read whole out of its block. -/
theorem wpList_load_sen {ops : Array Oper} {rest : List Oper} {o : Oper} {a : Act} {w : World} {Q : Exit → Act → World → Prop} (hgd : o.guard = none) (x : Operand) (ho : o.op = .load 32 x)
    {g : Nat} {S : Sen} (hb : SenBox w g S) (hx : a.eval x = .pointer (some ⟨g, 0, none⟩)) (h : wpList Try.prog ops Q rest (a.put o.dst (.agg S.cells)) w) : wpList Try.prog ops Q (o :: rest) a w :=
  wpList_load_row hgd _ x ho g hx _ _ _ _ hb.blk Try.underlying32 rfl S.infoS h

theorem zeroRaw_no {S : Sen} {i : Nat} (hi : i < 6) (hb : S.mask.testBit i = false) (hr : S.raw i ≠ 0) : zeroRaw S = false := by
  cases hz : zeroRaw S with
  | false => rfl
  | true =>
    unfold zeroRaw at hz
    rw [List.all_eq_true] at hz
    have := hz i (List.mem_range.2 hi)
    rw [hb] at this
    simp at this
    exact absurd this hr
set_option maxRecDepth 100000 in
set_option maxHeartbeats 4000000 in
theorem analog_ok (w : World) (S : Sen) (P : List Pt) (hS : IsSen w S P) :
    Calls Try.prog 88 #[.agg S.cells] w fun e w' => e = .returned (.bool (analogB S P)) ∧ Mods [] w w' := by
  have hm := hS.mask
  have HS := Lib.hid hS
  have HR := Lib.hid hS.raw
  have hst := hS.states
  have ha := hS.asrt
  have hd := hS.deas
  clear hS
  go_enter Try.func88, Try.ntmps88
  have B0 := SenBox.new w S
  have M0 := (Mods.refl (S := []) (w := w)).alloc (.cells S.cells 32)
  obtain ⟨x7, x8, x9, x10, x11, x12, x13⟩ := B0.conv
  go_wp2_with fail
  refine (convValid_ok _ S.conv P (HS.out.mods0 M0).conv).mono ?_
  rintro e w2 ⟨rfl, M1⟩
  have B2 := B0.mods0 M1
  have M2 := Lib.hid (M0.trans M1)
  have BB := Lib.hid B2
  clear x7 x8 x9 x10 x11 x12 x13 M0 B0 M1
  generalize w.heap.size = g at B2 BB ⊢
  obtain ⟨y14, y15, y16, y17, y18, y19, y20⟩ := B2.lims
  obtain ⟨_, _, y23, y24, y25, _, _⟩ := B2.rest
  clear B2
  have ho : S.asrt ||| S.deas < 65536 := Nat.or_lt_two_pow (n := 16) ha hd
  have b1 : bits .or .u16 (S.asrt : Int) (S.deas : Int) = ((S.asrt ||| S.deas : Nat) : Int) := u16_or_nat _ _ ha hd
  have b2 : bits .andNot .u16 ((S.asrt ||| S.deas : Nat) : Int) (S.mask : Int) = (((S.asrt ||| S.deas) &&& (65535 - S.mask) : Nat) : Int) := u16_andNot_nat _ _ ho (by omega)
  cases hcv : convB S.conv P with
  | false =>
    have HF := Lib.hid (show analogB S P = false by simp only [analogB, hcv, Bool.false_and])
    clear hcv
    go_wp2_with fail
    go_ret
    exact ⟨ret_bool (by rw [HF.out]), M2.out⟩
  | true =>
    have HC := Lib.hid hcv
    clear hcv
    by_cases h64 : S.mask < 64
    · have e1 : decide (64 ≤ (S.mask : Int)) = false := by simp; omega
      by_cases h0 : S.states = 0
      · have e2 : ((S.states : Int) != 0) = false := by simp [h0]
        by_cases hx : (S.asrt ||| S.deas) &&& (65535 - S.mask) = 0
        · have e3 : ((((S.asrt ||| S.deas) &&& (65535 - S.mask) : Nat) : Int) != 0) = false := by simp only [hx]; rfl
          have HB := Lib.hid (show analogB S P = (zeroRaw S && ordB S.mask S.num) by simp only [analogB, HC.out, decide_eq_true h64, decide_eq_true h0, decide_eq_true hx, Bool.true_and])
          clear h0 hx
          go_wp2_with fail
          go_loopw [36] (fun i wr => ∃ k : Nat, k ≤ 6 ∧ i = .int .i64 k ∧ wr = w2 ∧ Hid (∀ j, j < k → (S.mask.testBit j || decide (S.raw j = 0)) = true)) (fun i _ => 6 - (intOf i).toNat)
          case atStart => exact ⟨0, by omega, rfl, rfl, fun j hj => by omega⟩
          case round =>
            obtain ⟨k, hk, rfl, hwr, hs⟩ := hrel
            subst hwr
            by_cases hlt : k < 6
            · have hix : ∀ W : World, (Instr.index 27 (.agg #[.int .u8 (S.r0 : Int), .int .u8 (S.r1 : Int), .int .u8 (S.r2 : Int), .int .u8 (S.r3 : Int), .int .u8 (S.r4 : Int), .int .u8 (S.r5 : Int)]) (.int .i64 (k : Int))).run Try.prog W = .ok (.int .u8 (S.raw k : Int)) W := by
                match k, hlt with
                | 0, _ | 1, _ | 2, _ | 3, _ | 4, _ | 5, _ => exact fun W => by kernel_rfl
              have b8 := bit8 hm k
              cases hb : S.mask.testBit k with
              | true =>
                rw [hb] at b8
                have b9 : (bits .and .u8 ((S.mask : Int) / 2 ^ k) 1 == 0) = false := by rw [b8]; rfl
                have HB2 := Lib.hid hb
                clear hb b8
                go_wp2_with fail
                go_roundw
                case rel => exact ⟨k + 1, by omega, by go_num, by first | rfl | trivial, fun j hj => by
                  rcases Nat.lt_or_ge j k with h | h
                  · exact hs.out j h
                  · obtain rfl : j = k := by omega
                    rw [HB2.out]; rfl⟩
                case measure => simp [intOf]; omega
              | false =>
                rw [hb] at b8
                have b9 : (bits .and .u8 ((S.mask : Int) / 2 ^ k) 1 == 0) = true := by rw [b8]; rfl
                have HB2 := Lib.hid hb
                have HZ := Lib.hid (fun h => zeroRaw_no hlt hb h)
                clear hb b8
                by_cases hr : S.raw k = 0
                · have e5 : ((S.raw k : Int) != 0) = false := by simp [hr]
                  have HR2 := Lib.hid hr
                  clear hr
                  go_wp2_with fail
                  go_roundw
                  case rel => exact ⟨k + 1, by omega, by go_num, by first | rfl | trivial, fun j hj => by
                    rcases Nat.lt_or_ge j k with h | h
                    · exact hs.out j h
                    · obtain rfl : j = k := by omega
                      rw [HR2.out]; simp⟩
                  case measure => simp [intOf]; omega
                · have e5 : ((S.raw k : Int) != 0) = true := by simp [hr]
                  have HF := Lib.hid (show analogB S P = false by rw [HB.out, HZ.out hr]; rfl)
                  clear hr
                  go_wp2_with fail
                  go_ret
                  exact ⟨ret_bool (by rw [HF.out]), M2.out⟩
            · have HZ := Lib.hid (show zeroRaw S = true by
                unfold zeroRaw
                rw [List.all_eq_true]
                exact fun j hj => hs.out j (by have := List.mem_range.1 hj; omega))
              go_wp2_with (refine wpList_load_sen rfl (.tmp 1) rfl BB.out (by rfl) ?_)
              refine (ordered_ok _ S P (HS.out.mods0 M2.out)).mono ?_
              rintro e w3 ⟨rfl, M3⟩
              go_wp2
              go_ret
              exact ⟨ret_bool (by rw [HB.out, HZ.out]; rfl), M2.out.trans M3⟩
        · have e3 : ((((S.asrt ||| S.deas) &&& (65535 - S.mask) : Nat) : Int) != 0) = true := by simp only [bne_iff_ne, ne_eq, Int.natCast_eq_zero]; exact hx
          have HF := Lib.hid (show analogB S P = false by simp only [analogB, decide_eq_false hx, Bool.false_and, Bool.and_false])
          clear h0 hx
          go_wp2_with fail
          go_ret
          exact ⟨ret_bool (by rw [HF.out]), M2.out⟩
      · have e2 : ((S.states : Int) != 0) = true := by simp [h0]
        have HF := Lib.hid (show analogB S P = false by simp only [analogB, decide_eq_false h0, Bool.false_and, Bool.and_false])
        clear h0
        go_wp2_with fail
        go_ret
        exact ⟨ret_bool (by rw [HF.out]), M2.out⟩
    · have e1 : decide (64 ≤ (S.mask : Int)) = true := by simp; omega
      have HF := Lib.hid (show analogB S P = false by simp only [analogB, decide_eq_false h64, Bool.false_and, Bool.and_false])
      go_wp2_with fail
      go_ret
      exact ⟨ret_bool (by rw [HF.out]), M2.out⟩
end Go.Proofs.Ytgjjmiaiclhidaa

namespace Go.Proofs.Ytgjjmiaiclhidaa
open Go.RowKit

theorem run_part_u8 (xs : Array Value) (i : Nat) (x : Int) (h : xs[i]? = some (.int .u8 x)) (w : World) : (part 5 xs i).run Try.prog w = .ok (.int .u8 x) w := by
  simp [part, go_sem, h]
theorem arr_eq (d : Nat) (x0 x1 x2 x3 x4 x5 y0 y1 y2 y3 y4 y5 : Int) (w : World) :
    (Op.equalIn (d + 2) 27 (.agg #[.int .u8 x0, .int .u8 x1, .int .u8 x2, .int .u8 x3, .int .u8 x4, .int .u8 x5]) (.agg #[.int .u8 y0, .int .u8 y1, .int .u8 y2, .int .u8 y3, .int .u8 y4, .int .u8 y5])).run Try.prog w
      = .ok (x0 == y0 && x1 == y1 && x2 == y2 && x3 == y3 && x4 == y4 && x5 == y5) w := by
  rw [Op.equalIn]
  simp only [Sem.run_bind, run_underlying Try.underlying27, Result.andThen_ok, Try.sizeOf5]
  simp only [Std.Legacy.Range.forIn_eq_forIn_range']
  simp [List.range', part, go_sem]
  by_cases h0 : x0 = y0 <;> by_cases h1 : x1 = y1 <;> by_cases h2 : x2 = y2 <;> by_cases h3 : x3 = y3 <;> by_cases h4 : x4 = y4 <;> by_cases h5 : x5 = y5 <;> simp [h0, h1, h2, h3, h4, h5]
theorem lims_eq (m x0 x1 x2 x3 x4 x5 n y0 y1 y2 y3 y4 y5 : Int) (w : World) :
    (binOp .eql 29 (.agg #[.int .u8 m, .int .u8 x0, .int .u8 x1, .int .u8 x2, .int .u8 x3, .int .u8 x4, .int .u8 x5]) (.agg #[.int .u8 n, .int .u8 y0, .int .u8 y1, .int .u8 y2, .int .u8 y3, .int .u8 y4, .int .u8 y5])).run Try.prog w
      = .ok (.bool (m == n && (x0 == y0 && x1 == y1 && x2 == y2 && x3 == y3 && x4 == y4 && x5 == y5))) w := by
  have ha := fun W => arr_eq 9997 x0 x1 x2 x3 x4 x5 y0 y1 y2 y3 y4 y5 W
  simp only [Nat.reduceAdd] at ha
  simp [go_sem, part]
  rw [ha]
  generalize (x0 == y0 && x1 == y1 && x2 == y2 && x3 == y3 && x4 == y4 && x5 == y5) = B
  by_cases h : m = n <;> cases B <;> simp [h]
theorem Sen.limc (S : Sen) : S.cells[14]? = some (.int .u8 S.mask) ∧ S.cells[15]? = some (.int .u8 S.r0) ∧ S.cells[16]? = some (.int .u8 S.r1) ∧ S.cells[17]? = some (.int .u8 S.r2) ∧ S.cells[18]? = some (.int .u8 S.r3) ∧ S.cells[19]? = some (.int .u8 S.r4) ∧ S.cells[20]? = some (.int .u8 S.r5) := ⟨rfl, rfl, rfl, rfl, rfl, rfl, rfl⟩
theorem Sen.restc (S : Sen) : S.cells[21]? = some (.int .u8 S.hl) ∧ S.cells[22]? = some (.int .u8 S.hu) ∧ S.cells[23]? = some (.int .u16 S.states) ∧ S.cells[24]? = some (.int .u16 S.asrt) ∧ S.cells[25]? = some (.int .u16 S.deas) ∧ S.cells[26]? = some (.bool S.host) ∧ S.cells[27]? = some (.int .i64 S.samples) := ⟨rfl, rfl, rfl, rfl, rfl, rfl, rfl⟩
theorem Sen.headc (S : Sen) : S.cells[0]? = some (.int .u8 S.number) ∧ S.cells[1]? = some (.int .u8 S.type) ∧ S.cells[2]? = some (.int .u8 S.unit) ∧ S.cells[3]? = some (.string S.name) ∧ S.cells[4]? = some (.int .u8 S.eid) ∧ S.cells[5]? = some (.int .u8 S.einst) ∧ S.cells[6]? = some (.bool S.disc) := ⟨rfl, rfl, rfl, rfl, rfl, rfl, rfl⟩
theorem Sen.convc (S : Sen) : S.cells[7]? = some (.int .i64 S.conv.form) ∧ S.cells[8]? = some (.bool S.conv.sgn) ∧ S.cells[9]? = some (.int .i64 S.conv.m) ∧ S.cells[10]? = some (.int .i64 S.conv.b) ∧ S.cells[11]? = some (.int .i64 S.conv.k1) ∧ S.cells[12]? = some (.int .i64 S.conv.k2) ∧ S.cells[13]? = some S.conv.pts := ⟨rfl, rfl, rfl, rfl, rfl, rfl, rfl⟩
set_option maxRecDepth 100000 in
set_option maxHeartbeats 4000000 in
theorem discrete_ok (w : World) (S : Sen) (P : List Pt) (hS : IsSen w S P) :
    Calls Try.prog 87 #[.agg S.cells] w fun e w' => e = .returned (.bool (discB S P)) ∧ Mods [] w w' := by
  have hm := hS.mask
  have hst := hS.states
  have ha := hS.asrt
  have hd := hS.deas
  have hpl := hS.conv.pok.len
  obtain ⟨ad, cap, hpts⟩ := hS.conv.rd.len
  clear hS
  have B0 := SenBox.new w S
  have M0 := (Mods.refl (S := []) (w := w)).alloc (.cells S.cells 32)
  obtain ⟨x7, x8, x9, x10, x11, x12, x13⟩ := B0.conv
  rw [hpts] at x13
  have ho : S.asrt ||| S.deas < 65536 := Nat.or_lt_two_pow (n := 16) ha hd
  have b1 : bits .or .u16 (S.asrt : Int) (S.deas : Int) = ((S.asrt ||| S.deas : Nat) : Int) := u16_or_nat _ _ ha hd
  have b2 : bits .andNot .u16 ((S.asrt ||| S.deas : Nat) : Int) (S.states : Int) = (((S.asrt ||| S.deas) &&& (65535 - S.states) : Nat) : Int) := u16_andNot_nat _ _ ho hst
  have hle := fun W => lims_eq (S.mask : Int) (S.r0 : Int) (S.r1 : Int) (S.r2 : Int) (S.r3 : Int) (S.r4 : Int) (S.r5 : Int) 0 0 0 0 0 0 0 W
  obtain ⟨y14, y15, y16, y17, y18, y19, y20⟩ := B0.lims
  obtain ⟨y21, y22, y23, y24, y25, _, y27⟩ := B0.rest
  have hlz : (((S.mask : Int) == 0) && (((S.r0 : Int) == 0) && ((S.r1 : Int) == 0) && ((S.r2 : Int) == 0) && ((S.r3 : Int) == 0) && ((S.r4 : Int) == 0) && ((S.r5 : Int) == 0))) = decide (S.mask = 0 ∧ S.r0 = 0 ∧ S.r1 = 0 ∧ S.r2 = 0 ∧ S.r3 = 0 ∧ S.r4 = 0 ∧ S.r5 = 0) := by
    rw [Bool.eq_iff_iff]; simp; omega
  rw [hlz] at hle
  clear hlz
  have HD := Lib.hid (show discB S P = (decide (S.conv.form = 0) && !S.conv.sgn && decide (S.conv.m = 0) && decide (S.conv.b = 0) && decide (S.conv.k1 = 0) && decide (S.conv.k2 = 0) && decide (P.length = 0)
      && decide (S.mask = 0 ∧ S.r0 = 0 ∧ S.r1 = 0 ∧ S.r2 = 0 ∧ S.r3 = 0 ∧ S.r4 = 0 ∧ S.r5 = 0) && decide (S.hl = 0) && decide (S.hu = 0) && decide (S.samples = 1) && decide (S.states ≤ 32767) && decide ((S.asrt ||| S.deas) &&& (65535 - S.states) = 0)) by
    unfold discB
    rw [Bool.eq_iff_iff]
    simp
    cases S.conv.sgn <;> simp [and_assoc])
  generalize decide (S.mask = 0 ∧ S.r0 = 0 ∧ S.r1 = 0 ∧ S.r2 = 0 ∧ S.r3 = 0 ∧ S.r4 = 0 ∧ S.r5 = 0) = lz at hle HD
  go_enter Try.func87, Try.ntmps87
  obtain ⟨z14, z15, z16, z17, z18, z19, z20⟩ := S.limc
  obtain ⟨z21, z22, z23, z24, z25, _, z27⟩ := S.restc
  go_wp2_with fail
  all_goals
    go_ret
    exact ⟨ret_bool (by rw [HD.out]; first | (simp_all; done) | (rw [Bool.eq_iff_iff]; simp_all; try omega)), by first | exact (Mods.refl.alloc _).alloc _ | exact Mods.refl.alloc _⟩
end Go.Proofs.Ytgjjmiaiclhidaa

namespace Go.Proofs.Ytgjjmiaiclhidaa
open Go.RowKit

set_option maxRecDepth 100000 in
set_option maxHeartbeats 4000000 in
theorem valid_ok (w : World) (S : Sen) (P : List Pt) (hS : IsSen w S P) :
    Calls Try.prog 38 #[.agg S.cells] w fun e w' => e = .returned (.bool (validB S P)) ∧ Mods [] w w' := by
  have hn := hS.name
  have HS := Lib.hid hS
  clear hS
  have B0 := SenBox.new w S
  have BB := Lib.hid B0
  have M0 := Lib.hid ((Mods.refl (S := []) (w := w)).alloc (.cells S.cells 32))
  obtain ⟨_, _, _, x3, _, _, x6⟩ := S.headc
  obtain ⟨_, _, _, _, _, _, x27⟩ := S.restc
  clear B0
  have HV := Lib.hid (show validB S P = (nameB S.name && decide (S.samples = 1 ∨ S.samples = 3 ∨ S.samples = 5) && if S.disc then discB S P else analogB S P) from rfl)
  go_enter Try.func38, Try.ntmps38
  go_wp2_with fail
  refine (named_ok S.name (by omega) _).mono ?_
  rintro e w' ⟨rfl, rfl⟩
  cases hnm : nameB S.name with
  | false =>
    have HN := Lib.hid hnm
    clear hnm
    go_wp2_with fail
    go_ret
    exact ⟨ret_bool (by rw [HV.out, HN.out]; rfl), M0.out⟩
  | true =>
    have HN := Lib.hid hnm
    clear hnm
    by_cases hs : S.samples = 1 ∨ S.samples = 3 ∨ S.samples = 5
    · have HV := Lib.hid (show validB S P = if S.disc then discB S P else analogB S P by rw [HV.out, HN.out, decide_eq_true hs]; rfl)
      cases hd : S.disc with
      | true =>
        have HD := Lib.hid hd
        rw [hd] at x6
        clear hd
        rcases hs with hs | hs | hs
        all_goals
          rw [hs] at x27
          clear hs
          go_wp2_with (refine wpList_load_sen rfl (.tmp 1) rfl BB.out (by rfl) ?_)
          refine (discrete_ok _ S P (HS.out.mods0 M0.out)).mono ?_
          rintro e w3 ⟨rfl, M3⟩
          go_wp2
          go_ret
          exact ⟨ret_bool (by rw [HV.out, HD.out]; rfl), M0.out.trans M3⟩
      | false =>
        have HD := Lib.hid hd
        rw [hd] at x6
        clear hd
        rcases hs with hs | hs | hs
        all_goals
          rw [hs] at x27
          clear hs
          go_wp2_with (refine wpList_load_sen rfl (.tmp 1) rfl BB.out (by rfl) ?_)
          refine (analog_ok _ S P (HS.out.mods0 M0.out)).mono ?_
          rintro e w3 ⟨rfl, M3⟩
          go_wp2
          go_ret
          exact ⟨ret_bool (by rw [HV.out, HD.out]; rfl), M0.out.trans M3⟩
    · have HF := Lib.hid (show validB S P = false by rw [HV.out, decide_eq_false hs, Bool.and_false, Bool.false_and])
      have e1 : (S.samples != 1) = true := by simp; omega
      have e3 : (S.samples != 3) = true := by simp; omega
      have e5 : (S.samples != 5) = true := by simp; omega
      clear hs
      go_wp2_with fail
      go_ret
      exact ⟨ret_bool (by rw [HF.out]), M0.out⟩
end Go.Proofs.Ytgjjmiaiclhidaa
