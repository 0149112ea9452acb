/- sensor.ordered: contract. -/
import Derived.Test.YtijjkonephjodaaNamed
import Derived.Laws.BitsAllLaws
import Derived.Deep.AppendLies
namespace Go.Proofs.Ytijjkonephjodaa
open Go.RowKit
theorem Try.infoI : (Try.prog.info? 3).map (fun i => (i.zero, i.size, i.bytes)) = some (some (.int .i64 0), 1, 8) := by kernel_rfl

/-- append of one element within a region that draws its order. -/
theorem step_push {P : Program} {ops : Array Oper} {o : Oper} {a : Act} {w : World} {K : Act → World → Prop} {Q : Exit → Act → World → Prop} {E : Prop} (hgd : o.guard = none) (s x : Operand) (t : TypeId)
    (ho : o.op = .call { callee := .builtin .append, args := #[s, x], argTypes := #[t, t] })
    (base : Nat) (e : TypeId) (i : TypeInfo) (z : Value) (bytes : Nat) (ht : P.underlying t = some (.slice e)) (hi : P.info? e = some i) (hz : i.zero = some z)
    (hsize : i.size = 1) (hby : i.bytes = bytes) (hzs : z.cells.size = 1)
    (v : Value) (n : Nat) (xs : List Value) (hs : a.eval s = v) (hown : w.ownsRow base e 1 v n xs) (g : Nat) (u : Value) (T : TypeId) (fr : Nat × Nat) (hg : w.heap[g]? = some (.cells #[u] T fr)) (hx : a.eval x = .slice (some ⟨g, 0, none⟩) 1 1) (hu : u.oneCell' = true)
    (hn : n ≤ 1000000) (hb : bytes ≤ 1000) (hbase : base ≤ w.heap.size)
    (h : ∀ v' w', w'.ownsRow base e 1 v' (n + 1) (xs ++ [u]) → Mods (from_ base w) w w' → K (a.put o.dst v') w') :
    if Region.wanted o (yielded ops a.tmps) = true then Oper.wp P o a w K Q else E := by
  refine step_append_lies _ hgd s x t ho base e i z 1 bytes ht hi hz hsize hby hzs (by decide) v n xs hs hown ⟨g, 0, none⟩ 1 1 [u] hx rfl ?_ (by intro u' hu'; simp at hu'; subst hu'; exact hu) (by decide) (by unfold maxLen; omega) ?_ hbase w.heap.size rfl ?_
  · intro j u' hj
    have := World.news_of_block (cs := #[u]) (t := T) (fr := fr) hg
    exact this j u' hj
  · have : (n + 1) * bytes ≤ 1000001 * 1000 := Nat.mul_le_mul (by omega) hb
    omega
  · intro g' cap w' h1 h2 _ _
    exact h _ _ h1 (Mods.of_from ((Below.refl base w).grown h2 hbase fun k hk => (hown.lt k hk).1))

theorem shr_nat (m i : Nat) : (m : Int) / 2 ^ i = ((m / 2 ^ i : Nat) : Int) := by simp
theorem bit8 {m : Nat} (hm : m < 256) (i : Nat) : bits .and .u8 ((m : Int) / 2 ^ i) 1 = if m.testBit i then 1 else 0 := by
  rw [shr_nat, show (1 : Int) = ((1 : Nat) : Int) from rfl, u8_and_nat _ _ (Nat.lt_of_le_of_lt (Nat.div_le_self _ _) hm) (by omega), nat_mask1, tb]
  rcases Nat.mod_two_eq_zero_or_one (m / 2 ^ i) with h | h <;> simp [h]
theorem bit16 {m : Nat} (hm : m < 65536) (i : Nat) : bits .and .u16 ((m : Int) / 2 ^ i) 1 = if m.testBit i then 1 else 0 := by
  rw [shr_nat, show (1 : Int) = ((1 : Nat) : Int) from rfl, u16_and_nat _ _ (Nat.lt_of_le_of_lt (Nat.div_le_self _ _) hm) (by omega), nat_mask1, tb]
  rcases Nat.mod_two_eq_zero_or_one (m / 2 ^ i) with h | h <;> simp [h]
theorem sel_snoc (m : Nat) (f : Nat → Int) (l : List Nat) (i : Nat) : sel m f (l ++ [i]) = sel m f l ++ if m.testBit i then [f i] else [] := by
  unfold sel
  rw [List.filter_append, List.map_append]
  cases h : m.testBit i <;> simp [List.filter, h]
theorem take_snocN {l : List Nat} {k : Nat} (h : k < l.length) : l.take (k + 1) = l.take k ++ [l.getD k 0] := by
  rw [List.take_succ_eq_append_getElem h, List.getD_eq_getElem?_getD, List.getElem?_eq_getElem h]; rfl
theorem Sen.raw_cell (S : Sen) {i : Nat} (h : i < 6) : S.cells[15 + i]? = some (.int .u8 (S.raw i)) := by
  match i, h with
  | 0, _ | 1, _ | 2, _ | 3, _ | 4, _ | 5, _ => rfl
/-- What the closure gives. -/
def NumsOut (w : World) (L : List Int) (e : Ending) (w' : World) : Prop := ∃ v', e = .returned v' ∧ w'.ownsRow w.heap.size 3 1 v' L.length (i64s L) ∧ Mods [] w w'
set_option maxRecDepth 100000 in
set_option maxHeartbeats 2000000 in
theorem numbers_ok (w : World) (S : Sen) (P : List Pt) (hS : IsSen w S P) (g : Nat) (hg : w.heap[g]? = some (.cells S.cells 32 (0, 0))) (v : Value) (I : List Nat) (hv : Rd w v (i64s (I.map fun i : Nat => (i : Int)))) (hI : ∀ i ∈ I, i < 6) (hl : I.length ≤ 6) :
    Calls Try.prog 114 #[v, .pointer (some ⟨g, 0, none⟩)] w fun e w' => NumsOut w (sel S.mask S.num I) e w' := by
  have hgl := lt_of_block hg
  have hm := hS.mask
  have HR := Lib.hid hS.raw
  have HG := Lib.hid hg
  have RD := Lib.hid hv
  have HI := Lib.hid hI
  obtain ⟨ad, cap, rfl, hc1, hc2, _⟩ := hv.i64
  rw [List.length_map] at hc1
  rw [List.length_map]
  unfold maxLen at hc2
  obtain ⟨i0, hi, hz0, hz1, hz2⟩ := info_parts Try.infoI
  clear hv hS hg hI
  go_enter Try.func114, Try.ntmps114
  go_wp2_with fail
  go_loopw [4, 9] (fun d i wr => ∃ k : Nat, k ≤ I.length ∧ i = .int .i64 k ∧ wr.ownsRow w.heap.size 3 1 d (sel S.mask S.num (I.take k)).length (i64s (sel S.mask S.num (I.take k))) ∧ Mods [] w wr) (fun _ i _ => I.length - (intOf i).toNat)
  case atStart => exact ⟨0, Nat.zero_le _, rfl, World.ownsRow_nil _ _ _ _, Mods.refl⟩
  case round =>
    obtain ⟨k, hk, rfl, O, M⟩ := hrel
    by_cases hlt : k < I.length
    · obtain ⟨_, _, he, _, _, hc⟩ := (RD.out.mods0 M).i64
      obtain ⟨bb, off, rfl, x0⟩ := hc k (by rw [List.length_map]; exact hlt)
      injection he with he1 he2 he3
      subst he1 he3
      clear hc he2
      obtain ⟨i, hi2⟩ : ∃ i, i = I.getD k 0 := ⟨_, rfl⟩
      have h6 : i < 6 := by rw [hi2, List.getD_eq_getElem?_getD, List.getElem?_eq_getElem hlt]; exact HI.out _ (List.getElem_mem hlt)
      have e0 : (I.map fun i : Nat => (i : Int)).getD k 0 = (i : Int) := by
        rw [hi2]; simp [List.getD_eq_getElem?_getD, List.getElem?_eq_getElem hlt]
      rw [e0] at x0
      have HI2 := Lib.hid hi2
      clear e0 hi2
      have H1 := M.heap HG.out (by simp)
      have z0 : wr.cell? ⟨g, 14, none⟩ = some (.int .u8 S.mask) := cell_blk H1 14
      have z1 : wr.cell? ⟨g, 15 + i, none⟩ = some (.int .u8 (S.raw i)) := by rw [cell_blk H1]; exact S.raw_cell h6
      have z2 : wr.cell? ⟨g, 8, none⟩ = some (.bool S.conv.sgn) := cell_blk H1 8
      have b8 := bit8 hm i
      cases hb : S.mask.testBit i with
      | false =>
        have HS := Lib.hid (show sel S.mask S.num (I.take (k + 1)) = sel S.mask S.num (I.take k) by rw [take_snocN hlt, sel_snoc, ← HI2.out, hb]; simp)
        rw [hb] at b8
        have b9 : (bits .and .u8 ((S.mask : Int) / 2 ^ i) 1 == 1) = false := by rw [b8]; rfl
        clear hb b8 z1 z2
        go_wp2
        go_roundw
        case rel => exact ⟨k + 1, by omega, by go_num, by rw [HS.out]; exact O, M⟩
        case measure => simp [intOf]; omega
      | true =>
        have HS := Lib.hid (show sel S.mask S.num (I.take (k + 1)) = sel S.mask S.num (I.take k) ++ [S.num i] by rw [take_snocN hlt, sel_snoc, ← HI2.out, hb]; simp)
        rw [hb] at b8
        have b9 : (bits .and .u8 ((S.mask : Int) / 2 ^ i) 1 == 1) = true := by rw [b8]; rfl
        have hr := HR.out i
        clear hb b8
        have i1 : (0 : Int) ≤ (i : Int) := by omega
        have i2 : (i : Int) < 6 := by omega
        have hn6 : (sel S.mask S.num (I.take k)).length ≤ 6 := by
          have : (sel S.mask S.num (I.take k)).length ≤ (I.take k).length := by unfold sel; rw [List.length_map]; exact List.length_filter_le _ _
          rw [List.length_take] at this
          omega
        go_wp2_with fail
        go_region_held3 (fun w' => w'.cell? ⟨g, 8, none⟩ = some (.bool S.conv.sgn) ∧ w'.cell? ⟨g, 15 + i, none⟩ = some (.int .u8 (S.raw i)))
          (first | go_keep | exact ⟨M5.cell (((Mods.refl (S := []) (w := wr)).alloc _).drew.cell z2 (by simp)) (not_from hgl), M5.cell (((Mods.refl (S := []) (w := wr)).alloc _).drew.cell z1 (by simp)) (not_from hgl)⟩)
          (first
            | (go_at_call 115; refine (number_ok S.conv.sgn (S.raw i) hr _).mono ?_; rintro e w' ⟨rfl, rfl⟩)
            | (refine step_push (by rfl) _ _ _ (by rfl) w.heap.size 3 i0 (.int .i64 0) 8 Try.underlying34 hi hz0 hz1 hz2 rfl _ _ _ (by rfl) ((O.alloc _).drew) wr.heap.size _ _ _ (heap_alloc_new wr _) (by rfl) (by rfl) (by omega) (by omega) (by have := M.size; simp; omega) ?_; intro v' w5 hown' M5))
        have M6 : Mods [] w w5 := ((M.alloc _).drew).then_from M5 (Nat.le_refl _)
        have O6 := Lib.hid (own_i64 hown')
        rename_i hHeld
        clear hHeld O M5 hown' z0 z1 z2 b9
        go_wp2
        go_roundw
        case rel =>
          refine ⟨k + 1, by omega, by go_num, ?_, M6⟩
          rw [HS.out, List.length_append]
          exact O6.out
        case measure => simp [intOf]; omega
    · have hkl : k = I.length := by omega
      subst hkl
      rw [List.take_length] at O
      go_wp2
      go_ret
      exact ⟨_, rfl, O, M⟩
set_option maxRecDepth 100000 in
set_option maxHeartbeats 2000000 in
theorem ordered_ok (w : World) (S : Sen) (P : List Pt) (hS : IsSen w S P) :
    Calls Try.prog 101 #[.agg S.cells] w fun e w' => e = .returned (.bool (ordB S.mask S.num)) ∧ Mods [] w w' := by
  have HO := Lib.hid (ord_eq S.mask S.num)
  have HS := Lib.hid hS
  clear hS
  go_enter Try.func101, Try.ntmps101
  go_wp2_with fail
  have G2 := heap_alloc2_old w (.cells S.cells 32) (.cells #[.int .i64 2, .int .i64 1, .int .i64 0] 3)
  have G3 := heap_alloc2_new w (.cells S.cells 32) (.cells #[.int .i64 2, .int .i64 1, .int .i64 0] 3)
  have M2 := ((Mods.refl (S := []) (w := w)).alloc (.cells S.cells 32)).alloc (.cells #[.int .i64 2, .int .i64 1, .int .i64 0] 3)
  have Z2 : ((w.alloc (.cells S.cells 32)).alloc (.cells #[.int .i64 2, .int .i64 1, .int .i64 0] 3)).heap.size = w.heap.size + 2 := by simp
  generalize (w.alloc (.cells S.cells 32)).alloc (.cells #[.int .i64 2, .int .i64 1, .int .i64 0] 3) = w2 at G2 G3 M2 Z2 ⊢
  generalize w.heap.size = g at G2 G3 Z2 ⊢
  have R2 : Rd w2 (.slice (some ⟨g + 1, 0, none⟩) 3 3) (i64s (List.map (fun i : Nat => (i : Int)) [2, 1, 0])) := ⟨_, 3, rfl, by decide, by decide, fun i hi => ⟨_, _, rfl, by
    rw [Nat.zero_add, cell_blk G3]
    match i, hi with
    | 0, _ | 1, _ | 2, _ => rfl⟩⟩
  refine (numbers_ok w2 S P (HS.out.mods0 M2) g G2 _ [2, 1, 0] R2 (by decide) (by decide)).mono ?_
  rintro e w3 ⟨v1, rfl, O1, M3⟩
  have G4 := M3.heap G2 (by simp)
  have Z3 := M3.size
  have HL1 := Lib.hid (show (sel S.mask S.num [2, 1, 0]).length ≤ 3 by unfold sel; rw [List.length_map]; exact List.length_filter_le _ [2, 1, 0])
  have MA := M2.trans M3
  generalize sel S.mask S.num [2, 1, 0] = L1 at O1 HO HL1
  have R1 := Lib.hid (Rd.own O1)
  clear G2 G3 R2 M2 M3 O1
  go_wp2_with fail
  have G5 := heap_alloc (o' := .cells #[.int .i64 3, .int .i64 4, .int .i64 5] 3) G4
  have G6 := heap_alloc_new w3 (.cells #[.int .i64 3, .int .i64 4, .int .i64 5] 3)
  have M4 := (Mods.refl (S := []) (w := w3)).alloc (.cells #[.int .i64 3, .int .i64 4, .int .i64 5] 3)
  generalize w3.alloc (.cells #[.int .i64 3, .int .i64 4, .int .i64 5] 3) = w4 at G5 G6 M4 ⊢
  generalize w3.heap.size = g2 at G6 ⊢
  have R2 : Rd w4 (.slice (some ⟨g2, 0, none⟩) 3 3) (i64s (List.map (fun i : Nat => (i : Int)) [3, 4, 5])) := ⟨_, 3, rfl, by decide, by decide, fun i hi => ⟨_, _, rfl, by
    rw [Nat.zero_add, cell_blk G6]
    match i, hi with
    | 0, _ | 1, _ | 2, _ => rfl⟩⟩
  refine (numbers_ok w4 S P (HS.out.mods0 (MA.trans M4)) g G5 _ [3, 4, 5] R2 (by decide) (by decide)).mono ?_
  rintro e w5 ⟨v2, rfl, O2, M5⟩
  have HL2 := Lib.hid (show (sel S.mask S.num [3, 4, 5]).length ≤ 3 by unfold sel; rw [List.length_map]; exact List.length_filter_le _ [3, 4, 5])
  generalize sel S.mask S.num [3, 4, 5] = L2 at O2 HO HL2
  have R1 := Lib.hid ((R1.out.mods0 M4).mods0 M5)
  have R2 := Lib.hid (Rd.own O2)
  have MM := Lib.hid ((MA.trans M4).trans M5)
  clear G4 G5 G6 M4 M5 MA O2 Z3 Z2
  obtain ⟨a1, c1, rfl, p1, q1, r1⟩ := R1.out.i64
  obtain ⟨a2, c2, rfl, p2, q2, r2⟩ := R2.out.i64
  unfold maxLen at q1 q2
  have l1 := HL1.out
  have l2 := HL2.out
  by_cases h1 : L1.length = 0
  · have HA := Lib.hid (show apartB L1 L2 = true by rw [List.eq_nil_of_length_eq_zero h1]; rfl)
    have e1 : (L1.length == 0) = true := by simp [h1]
    have e2 : ((L1.length : Int) == 0) = true := by simp [h1]
    clear h1
    go_wp2_with fail
    go_quiet (fail)
    clear r1 r2
    go_wp2_with fail
    refine (sorted_ok _ _ L1 (R1.out.mods0 (Mods.refl.drewN nq)) (by omega)).mono ?_
    rintro e w7 ⟨rfl, n7, rfl⟩
    cases hs1 : sortedB L1 with
    | false =>
      have HF := Lib.hid hs1
      clear hs1
      go_wp2_with fail
      go_ret
      exact ⟨ret_bool (by rw [← HO.out, HF.out]; rfl), MM.out.drewN _⟩
    | true =>
      have HF := Lib.hid hs1
      clear hs1
      go_wp2_with fail
      refine (sorted_ok _ _ L2 (R2.out.mods0 (Mods.refl.drewN (nq + n7))) (by omega)).mono ?_
      rintro e w8 ⟨rfl, n8, rfl⟩
      cases hs2 : sortedB L2 with
      | false =>
        have HF2 := Lib.hid hs2
        clear hs2
        go_wp2_with fail
        go_ret
        exact ⟨ret_bool (by rw [← HO.out, HF.out, HF2.out]; rfl), MM.out.drewN _⟩
      | true =>
        have HF2 := Lib.hid hs2
        clear hs2
        go_wp2_with fail
        go_ret
        exact ⟨ret_bool (by rw [← HO.out, HF.out, HF2.out, HA.out]; rfl), MM.out.drewN _⟩
  · have e1 : (L1.length == 0) = false := by simp [h1]
    have e2 : ((L1.length : Int) == 0) = false := beq_eq_false_iff_ne.2 (by omega)
    by_cases h2 : L2.length = 0
    · have HA := Lib.hid (show apartB L1 L2 = true by rw [List.eq_nil_of_length_eq_zero h2]; unfold apartB; cases L1.getLast? <;> rfl)
      have e3 : (L2.length == 0) = true := by simp [h2]
      have e4 : ((L2.length : Int) == 0) = true := by simp [h2]
      clear h1 h2
      go_wp2_with fail
      go_quiet (fail)
      clear r1 r2
      go_wp2_with fail
      refine (sorted_ok _ _ L1 (R1.out.mods0 (Mods.refl.drewN nq)) (by omega)).mono ?_
      rintro e w7 ⟨rfl, n7, rfl⟩
      cases hs1 : sortedB L1 with
      | false =>
        have HF := Lib.hid hs1
        clear hs1
        go_wp2_with fail
        go_ret
        exact ⟨ret_bool (by rw [← HO.out, HF.out]; rfl), MM.out.drewN _⟩
      | true =>
        have HF := Lib.hid hs1
        clear hs1
        go_wp2_with fail
        refine (sorted_ok _ _ L2 (R2.out.mods0 (Mods.refl.drewN (nq + n7))) (by omega)).mono ?_
        rintro e w8 ⟨rfl, n8, rfl⟩
        cases hs2 : sortedB L2 with
        | false =>
          have HF2 := Lib.hid hs2
          clear hs2
          go_wp2_with fail
          go_ret
          exact ⟨ret_bool (by rw [← HO.out, HF.out, HF2.out]; rfl), MM.out.drewN _⟩
        | true =>
          have HF2 := Lib.hid hs2
          clear hs2
          go_wp2_with fail
          go_ret
          exact ⟨ret_bool (by rw [← HO.out, HF.out, HF2.out, HA.out]; rfl), MM.out.drewN _⟩
    · have e3 : (L2.length == 0) = false := by simp [h2]
      have e4 : ((L2.length : Int) == 0) = false := beq_eq_false_iff_ne.2 (by omega)
      have HA := Lib.hid (show apartB L1 L2 = decide (L1.getD (L1.length - 1) 0 < L2.getD 0 0) by
        unfold apartB
        rw [List.getLast?_eq_getElem?, List.head?_eq_getElem?, List.getElem?_eq_getElem (show L1.length - 1 < L1.length by omega), List.getElem?_eq_getElem (show 0 < L2.length by omega)]
        simp [List.getD_eq_getElem?_getD, List.getElem?_eq_getElem (show L1.length - 1 < L1.length by omega), List.getElem?_eq_getElem (show 0 < L2.length by omega)])
      obtain ⟨b1, o1, rfl, x1⟩ := r1 (L1.length - 1) (by omega)
      obtain ⟨b2, o2, rfl, x2⟩ := r2 0 (by omega)
      rw [Nat.add_zero] at x2
      generalize L1.getD (L1.length - 1) 0 = y1 at x1 HA
      generalize L2.getD 0 0 = y2 at x2 HA
      have j1 : (0 : Int) ≤ (L1.length : Int) - 1 := by omega
      have j2 : (L1.length : Int) - 1 < (L1.length : Int) := by omega
      have j3 : ((L1.length : Int) - 1).toNat = L1.length - 1 := by omega
      have j4 : (0 : Int) < (L2.length : Int) := by omega
      have j7 : (1 : Int) ≤ (L1.length : Int) := by omega
      have j8 : 1 ≤ L1.length := by omega
      have j9 : 0 < L1.length := by omega
      have j5 : 0 < L2.length := by omega
      have j6 : IntKind.i64.wrap ((L1.length : Int) - 1) = (L1.length : Int) - 1 := IntWalk.i64_in _ (by omega)
      clear h1 h2
      go_wp2_with fail
      go_quiet (fail)
      clear j6 j3
      clear r1 r2
      go_wp2_with fail
      refine (sorted_ok _ _ L1 (R1.out.mods0 (Mods.refl.drewN nq)) (by omega)).mono ?_
      rintro e w7 ⟨rfl, n7, rfl⟩
      cases hs1 : sortedB L1 with
      | false =>
        have HF := Lib.hid hs1
        clear hs1
        go_wp2_with fail
        go_ret
        exact ⟨ret_bool (by rw [← HO.out, HF.out]; rfl), MM.out.drewN _⟩
      | true =>
        have HF := Lib.hid hs1
        clear hs1
        go_wp2_with fail
        refine (sorted_ok _ _ L2 (R2.out.mods0 (Mods.refl.drewN (nq + n7))) (by omega)).mono ?_
        rintro e w8 ⟨rfl, n8, rfl⟩
        cases hs2 : sortedB L2 with
        | false =>
          have HF2 := Lib.hid hs2
          clear hs2
          go_wp2_with fail
          go_ret
          exact ⟨ret_bool (by rw [← HO.out, HF.out, HF2.out]; rfl), MM.out.drewN _⟩
        | true =>
          have HF2 := Lib.hid hs2
          clear hs2
          go_wp2_with fail
          go_ret
          exact ⟨ret_bool (by rw [← HO.out, HF.out, HF2.out, HA.out]; rfl), MM.out.drewN _⟩
end Go.Proofs.Ytijjkonephjodaa
