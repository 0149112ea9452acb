/- convert.Nearest and the reference's: contracts. -/
import Derived.Test.YtgjjmiaiclhidaaValues
import Derived.Test.YtgjjmiaiclhidaaBaseG
namespace Go.Proofs.Ytgjjmiaiclhidaa
open Go.RowKit

set_option maxRecDepth 100000 in
set_option maxHeartbeats 1000000 in
theorem far_ok (w : World) (g3 : Nat) (T : TypeId) (v : Int) (hv : -1000000000000 ≤ v ∧ v ≤ 1000000000000) (hg3 : w.heap[g3]? = some (.cells #[.int .i64 v] T (0, 0))) (p : Pt) (hp : -1000000000000 ≤ p.val ∧ p.val ≤ 1000000000000) :
    Calls Try.prog 100 #[.agg #[.int .u8 (p.raw : Nat), .int .i64 p.val], .pointer (some ⟨g3, 0, none⟩)] w fun e w' => e = .returned (.int .i64 (absd v p)) ∧ Mods [] w w' := by
  have M0 := Lib.hid ((Mods.refl (S := []) (w := w)).alloc (.cells #[.int .u8 (p.raw : Nat), .int .i64 p.val] 131))
  have z3 : (w.alloc (.cells #[.int .u8 (p.raw : Nat), .int .i64 p.val] 131)).cell? ⟨g3, 0, none⟩ = some (.int .i64 v) := (cell_blk (heap_alloc hg3) 0).trans rfl
  have HA := Lib.hid (show absd v p = max (p.val - v) (v - p.val) from rfl)
  obtain ⟨v1, v2⟩ := hv
  obtain ⟨p1, p2⟩ := hp
  clear hg3
  generalize p.val = x at *
  generalize p.raw = r at *
  go_enter Try.func100, Try.ntmps100
  go_wp2
  all_goals
    go_ret
    exact ⟨ret_int (by rw [HA.out]; first | rfl | omega), M0.out⟩
def nearB : Option Pt → Int × Int
  | none => (0, 8)
  | some b => ((b.raw : Int), 0)
theorem nearI_eq (C : Conv) (P : List Pt) (v : Int) : nearI C P v = if convB C P then nearB (bestL (clampI v) (prA C P)) else (0, 1) := by
  unfold nearI
  split
  · generalize bestL (clampI v) (prA C P) = o
    cases o <;> rfl
  · rfl
def prC (p : Pt) : Array Value := #[.int .u8 p.raw, .int .i64 p.val]
theorem prC_one (p : Pt) : (prC p).all (·.oneCell') = true := by simp [prC, Value.oneCell']
theorem Try.infoPr2 : (Try.prog.info? 131).map (·.size) = some 2 := by kernel_rfl
theorem take_snocP {l : List Pt} {k : Nat} (h : k < l.length) : l.take (k + 1) = l.take k ++ [l.getD k default] := by
  rw [List.take_succ_eq_append_getElem h, List.getD_eq_getElem?_getD, List.getElem?_eq_getElem h]; rfl
theorem prL_bd {C : Conv} {P : List Pt} (h : convB C P = true) (n : Nat) {i : Nat} (hi : i < (prL C P n).length) : (-1000000000000 ≤ ((prL C P n).getD i default).val ∧ ((prL C P n).getD i default).val ≤ 1000000000000) ∧ ((prL C P n).getD i default).raw < 256 := by
  have hm : (prL C P n).getD i default ∈ prL C P n := by rw [List.getD_eq_getElem?_getD, List.getElem?_eq_getElem hi]; exact List.getElem_mem hi
  obtain ⟨j, _, e, _⟩ := prL_mem hm
  rw [e]
  exact ⟨valI_bd h _, rawAt_lt _ _⟩
theorem prA_bd {C : Conv} {P : List Pt} (h : convB C P = true) : ∀ i, i < (prA C P).length → (-1000000000000 ≤ ((prA C P).getD i default).val ∧ ((prA C P).getD i default).val ≤ 1000000000000) ∧ ((prA C P).getD i default).raw < 256 := by
  unfold prA
  exact fun i hi => prL_bd h 256 hi
theorem prA_len (C : Conv) (P : List Pt) : (prA C P).length ≤ 256 := prL_len C P 256
theorem amin_in {v : Int} {p : Pt} {l : List Pt} {Q : Pt → Prop} (hp : Q p) (hl : ∀ i, i < l.length → Q (l.getD i default)) (k : Nat) : Q (amin v p (l.take k)) := by
  obtain ⟨_, _, h⟩ := amin_le v (l.take k) p
  rcases h with h | h
  · rw [h]; exact hp
  · obtain ⟨i, hi, e⟩ := List.mem_iff_getElem.1 (List.mem_of_mem_take h)
    have := hl i hi
    rw [List.getD_eq_getElem?_getD, List.getElem?_eq_getElem hi] at this
    rw [← e]; exact this
set_option maxRecDepth 100000 in
set_option maxHeartbeats 2000000 in
theorem nearest_ok (w : World) (C : Conv) (P : List Pt) (v : Int) (hC : IsConv w C P) :
    Calls Try.prog 53 #[.agg C.cells, .int .i64 v] w fun e w' => e = .returned (.tuple #[.int .u8 (nearI C P v).1, .int .i64 (nearI C P v).2]) ∧ Mods [] w w' := by
  have HC := Lib.hid hC
  have R0 := heap_alloc (o' := .cells #[.int .i64 v] 2) (heap_alloc_new w (.cells C.cells 26))
  have R1 := heap_alloc_new (w.alloc (.cells C.cells 26)) (.cells #[.int .i64 v] 2)
  rw [World.size_alloc] at R1
  have M0 := ((Mods.refl (S := []) (w := w)).alloc (.cells C.cells 26)).alloc (.cells #[.int .i64 v] 2)
  have HR0 := Lib.hid R0
  have HR1 := Lib.hid R1
  have HM0 := Lib.hid M0
  have HN := Lib.hid (nearI_eq C P v)
  have CV := Lib.hid (fun W (M : Mods [] w W) => convValid_ok W C P (HC.out.mods0 M))
  clear hC R0 R1 M0
  generalize nearI C P v = N at HN ⊢
  cases hb : convB C P with
  | false =>
    rw [hb] at CV
    have HR := Lib.hid (HN.out.trans (if_neg (by rw [hb]; decide)))
    clear hb
    go_enter Try.func53, Try.ntmps53
    go_wp2_with (refine wpList_load_conv rfl (.tmp 2) rfl HR0.out (by rfl) ?_)
    refine (CV.out _ HM0.out).mono ?_
    rintro e w1 ⟨rfl, M1⟩
    go_wp2_with fail
    go_ret2
    exact ⟨ret_two HR.out, HM0.out.trans M1⟩
  | true =>
    rw [hb] at CV
    have HB := Lib.hid hb
    have HVS := Lib.hid (fun W (M : Mods [] w W) => values_ok W C P (HC.out.mods0 M) hb)
    have HBD := Lib.hid (prA_bd hb)
    have HPN := Lib.hid (prA_len C P)
    replace HN := Lib.hid (HN.out.trans (if_pos hb))
    clear hb
    generalize prA C P = l at *
    go_enter Try.func53, Try.ntmps53
    go_wp2_with (refine wpList_load_conv rfl (.tmp 2) rfl HR0.out (by rfl) ?_)
    refine (CV.out _ HM0.out).mono ?_
    rintro e w1 ⟨rfl, M1⟩
    have HM1 := Lib.hid (HM0.out.trans M1)
    have HR1' := Lib.hid (M1.heap HR0.out (by simp))
    have HQ1 := Lib.hid (M1.heap HR1.out (by simp))
    clear M1
    go_wp2_with (refine wpList_load_conv rfl (.tmp 2) rfl HR1'.out (by rfl) ?_)
    refine (HVS.out _ HM1.out).mono ?_
    rintro e w2 ⟨vl, rfl, O2, M2⟩
    have HM2 := Lib.hid (HM1.out.trans M2)
    have HQ2 := Lib.hid (M2.heap HQ1.out (by simp))
    have HO2 := Lib.hid O2
    have hw2 := M2.size
    have hw1 : w.heap.size + 1 < w1.heap.size := lt_of_block HQ1.out
    clear M2 HR1' HQ1 HVS CV
    cases l with
    | nil =>
      have HR := Lib.hid (show N = (0, 8) from HN.out)
      obtain ⟨_, _, rfl, _⟩ := O2.rd
      clear HN O2
      go_wp2_with fail
      go_ret2
      exact ⟨ret_two HR.out, HM2.out⟩
    | cons p0 l0 =>
      obtain ⟨gl, cap, rfl, hcap⟩ : ∃ gl cap, vl = .slice (some ⟨gl, 0, none⟩) (p0 :: l0).length cap ∧ w1.heap.size ≤ gl := by
        obtain ⟨g, cap, _, rfl, _⟩ := owns_form O2 (by simp)
        exact ⟨g, cap, rfl, (World.ownsRow.lt O2 g rfl).1⟩
      have HRD := Lib.hid O2.rd
      clear O2 HO2
      obtain ⟨l, hl⟩ : ∃ l, l = p0 :: l0 := ⟨_, rfl⟩
      have hlen : 0 < l.length := by rw [hl]; simp
      have hp0 : l.getD 0 default = p0 := by rw [hl]; rfl
      have HRES := Lib.hid (show N = (((amin (clampI v) p0 l).raw : Int), 0) by rw [HN.out, hl, amin_self]; rfl)
      rw [← hl] at HRD HBD HPN
      rw [← hl]
      clear HN hl
      have hn256 := HPN.out
      have hel : ((l.length : Int) == 0) = false := beq_eq_false_iff_ne.2 (by omega)
      have hel2 : (l.length == 0) = false := beq_eq_false_iff_ne.2 (by omega)
      have hcl := clampI_bd v
      have CC := Lib.hid (fun W => clamp_ok v W)
      generalize clampI v = cv at *
      have c3 : w2.cell? ⟨w.heap.size + 1, 0, none⟩ = some (.int .i64 v) := (cell_blk HQ2.out 0).trans rfl
      have f3 : w2.frozen? ⟨w.heap.size + 1, 0, none⟩ = false := froz_blk HQ2.out 0
      obtain ⟨_, _, he, _, _, _, hc⟩ := HRD.out.at hlen
      cases he
      obtain ⟨y0, y1⟩ := hc 0 hlen
      rw [hp0] at y0
      have y1' : w2.cell? ⟨gl, 1, none⟩ = some (.int .i64 p0.val) := by simpa [show ptV l 0 = p0.val from congrArg Pt.val hp0] using y1
      have y0' : w2.cell? ⟨gl, 0, none⟩ = some (.int .u8 p0.raw) := by simpa using y0
      have x0 : (w2.setCell ⟨w.heap.size + 1, 0, none⟩ (.int .i64 cv)).cell? ⟨gl, 0, none⟩ = some (.int .u8 p0.raw) := ((Mods.refl (S := [w.heap.size + 1])).setCell (p := ⟨w.heap.size + 1, 0, none⟩) (.inl (by simp)) (.int .i64 cv)).cell y0' (by simp; omega)
      have x1 : (w2.setCell ⟨w.heap.size + 1, 0, none⟩ (.int .i64 cv)).cell? ⟨gl, 1, none⟩ = some (.int .i64 p0.val) := ((Mods.refl (S := [w.heap.size + 1])).setCell (p := ⟨w.heap.size + 1, 0, none⟩) (.inl (by simp)) (.int .i64 cv)).cell y1' (by simp; omega)
      have HM3 := Lib.hid (HM2.out.setCell (p := ⟨w.heap.size + 1, 0, none⟩) (.inr (by simp)) (.int .i64 cv))
      have HQ3 : Hid ((w2.setCell ⟨w.heap.size + 1, 0, none⟩ (.int .i64 cv)).heap[w.heap.size + 1]? = some (.cells #[.int .i64 cv] 2 (0, 0))) := Lib.hid (heap_setCell (i := 0) (v := .int .i64 cv) HQ2.out)
      have HRD3 := Lib.hid (HRD.out.mods (S := [w.heap.size + 1]) ((Mods.refl).setCell (p := ⟨w.heap.size + 1, 0, none⟩) (.inl (by simp)) (.int .i64 cv)) (fun _ q hq hm => by simp [Value.ownBlock] at hq hm; omega))
      clear y0 y1 y0' y1' hc HQ2 HM2 HRD
      go_wp2_with fail
      refine (CC.out _).mono ?_
      rintro e w' ⟨rfl, rfl⟩
      go_wp2_with fail
      have HG8 := Lib.hid (heap_alloc_new (w2.setCell ⟨w.heap.size + 1, 0, none⟩ (.int .i64 cv)) (.cells #[.int .u8 p0.raw, .int .i64 p0.val] 131))
      have M4 := (Mods.refl (S := []) (w := w2.setCell ⟨w.heap.size + 1, 0, none⟩ (.int .i64 cv))).alloc (.cells #[.int .u8 p0.raw, .int .i64 p0.val] 131)
      have HM4 := Lib.hid (HM3.out.trans M4)
      have HQ4 := Lib.hid (M4.heap HQ3.out (by simp))
      have HRD4 := Lib.hid (HRD3.out.mods0 M4)
      have hz8 : (w2.setCell ⟨w.heap.size + 1, 0, none⟩ (.int .i64 cv)).heap.size = w2.heap.size := by simp
      rw [hz8] at HG8
      have hgl : gl < w2.heap.size := by
        obtain ⟨_, _, he, _, _, _, hc⟩ := HRD3.out.at hlen
        cases he
        have := World.block_lt_of_cell? _ _ (hc 0 hlen).1
        simpa using this
      have hg3 : w.heap.size + 1 < w2.heap.size := by omega
      have hg8 : w.heap.size ≤ w2.heap.size := by omega
      clear M4 HM3 HQ3 HRD3 x0 x1 hz8
      generalize (w2.setCell ⟨w.heap.size + 1, 0, none⟩ (.int .i64 cv)).alloc (.cells #[.int .u8 p0.raw, .int .i64 p0.val] 131) = wB at HG8 HM4 HQ4 HRD4 ⊢
      generalize w2.heap.size = g8 at HG8 hgl hg3 hg8 ⊢
      generalize w.heap.size + 1 = g3 at HQ4 hg3 ⊢
      have hcap3 : l.length ≤ 9223372036854775807 := by omega
      go_loopw [27] (fun i wr => ∃ k : Nat, k ≤ l.length ∧ i = .int .i64 k ∧ Mods [g8] wB wr ∧ wr.heap[g8]? = some (.cells (prC (amin cv p0 (l.take k))) 131 (0, 0))) (fun i _ => l.length - (intOf i).toNat)
      case atStart => exact ⟨0, by omega, rfl, Mods.refl, HG8.out⟩
      case round =>
        obtain ⟨k, hk, rfl, M, G⟩ := hrel
        have HG := Lib.hid G
        have HM := Lib.hid M
        have i0 : (0 : Int) ≤ (k : Int) := by omega
        clear G
        by_cases hlt : k < l.length
        · have i1 : (k : Int) < (l.length : Int) := by omega
          have HRK := Lib.hid (HRD4.out.mods M (fun _ q hq hm => by simp [Value.ownBlock] at hq hm; omega))
          have HQK := Lib.hid (M.heap HQ4.out (by simp; omega))
          obtain ⟨_, _, he, _, _, _, hc⟩ := HRK.out.at hlen
          cases he
          obtain ⟨y0, y1⟩ := hc k hlt
          have hbp := HBD.out k hlt
          have hbb := Lib.hid (amin_in (v := cv) (p := p0) (l := l) (Q := fun p => -1000000000000 ≤ p.val ∧ p.val ≤ 1000000000000) (by have := (HBD.out 0 hlen).1; rw [hp0] at this; exact this) (fun i hi => (HBD.out i hi).1) k)
          have HTS := Lib.hid (show amin cv p0 (l.take (k + 1)) = if absd cv (l.getD k default) < absd cv (amin cv p0 (l.take k)) then l.getD k default else amin cv p0 (l.take k) by rw [take_snocP hlt, amin_snoc])
          have e1 : ptV l k = (l.getD k default).val := rfl
          rw [e1] at y1
          rw [Nat.zero_add] at y0 y1
          clear e1 hc M
          generalize l.getD k default = p at y0 y1 hbp HTS
          generalize amin cv p0 (l.take k) = b at HG hbb HTS
          obtain ⟨hbp1, hbp2⟩ := hbp
          have hHB := hbb.out
          go_wp2_with fail
          have R10 := Lib.hid (heap_alloc_new wr (.cells (prC p) 131))
          have F10 := Lib.hid ((Mods.refl (S := []) (w := wr)).alloc (.cells (prC p) 131))
          have HG10 := Lib.hid (F10.out.heap HG.out (by simp))
          have HQ10 := Lib.hid (F10.out.heap HQK.out (by simp))
          change Code.wp _ _ _ _ (wr.alloc (.cells (prC p) 131))
          generalize wr.alloc (.cells (prC p) 131) = wa at R10 F10 HG10 HQ10 ⊢
          generalize wr.heap.size = g10 at R10 ⊢
          clear y0 y1 HRK HQK
          have FA := Lib.hid (fun W (M : Mods [] wa W) => far_ok W g3 _ cv hcl (M.heap HQ10.out (by simp)) p hbp1)
          have FB := Lib.hid (fun W (M : Mods [] wa W) => far_ok W g3 _ cv hcl (M.heap HQ10.out (by simp)) b hHB)
          generalize absd cv p = dp at *
          generalize absd cv b = db at *
          by_cases hd : dp < db
          · have dd : decide (dp < db) = true := decide_eq_true hd
            have HTS2 := Lib.hid (show amin cv p0 (l.take (k + 1)) = p by rw [HTS.out, if_pos hd])
            clear hd
            refine heldStart (S := fun W => Mods [] wa W) 7 rfl (by kernel_rfl) (Mods.refl.drew) (fun hHeld => ?_)
            refine takeD (i := 0) (d := 31) (v := ?_) rfl rfl (by kernel_rfl) (by kernel_rfl) (by kernel_rfl) (fun _ _ _ h => h) (Or.inl ⟨by rfl, ?_⟩) hHeld ?_
            rotate_left 1
            · (intro w hSw; (try dsimp only at hSw); go_simp; (try with_reducible rfl))
            simp only [List.setIfInBounds_toArray, List.set_cons_zero, List.set_cons_succ]
            refine takeD (i := 1) (d := 32) (v := .agg (prC p)) rfl rfl (by kernel_rfl) (by kernel_rfl) (by kernel_rfl) (fun _ _ _ h => h) (yieldsIf_load_row rfl 131 (.tmp 10) rfl g10 rfl 131 (prC p) (0, 0) _ (fun W M => M.heap R10.out (by simp)) Try.underlying131 rfl Try.infoPr2) hHeld ?_
            simp only [List.setIfInBounds_toArray, List.set_cons_zero, List.set_cons_succ]
            refine takeD (i := 3) (d := 34) (v := ?_) rfl rfl (by kernel_rfl) (by kernel_rfl) (by kernel_rfl) (fun _ _ _ h => h) (Or.inl ⟨by rfl, ?_⟩) hHeld ?_
            rotate_left 1
            · (intro w hSw; (try dsimp only at hSw); go_simp; (try with_reducible rfl))
            simp only [List.setIfInBounds_toArray, List.set_cons_zero, List.set_cons_succ]
            refine takeD (i := 4) (d := 35) (v := .agg (prC b)) rfl rfl (by kernel_rfl) (by kernel_rfl) (by kernel_rfl) (fun _ _ _ h => h) (yieldsIf_load_row rfl 131 (.tmp 8) rfl g8 rfl 131 (prC b) (0, 0) _ (fun W M => M.heap HG10.out (by simp)) Try.underlying131 rfl Try.infoPr2) hHeld ?_
            simp only [List.setIfInBounds_toArray, List.set_cons_zero, List.set_cons_succ]
            refine wpAnyH_ready (rs := [2]) (by kernel_rfl) (by simp) ?_
            refine AllReadyH.cons rfl (fun K hK => ?_) AllReadyH.nil
            go_simp
            go_wp2_with (go_at_call 100; refine (FA.out _ hHeld).mono ?_; rintro e w5 ⟨rfl, M5⟩)
            refine hK.out _ _ ?_ (fun hHeld => ?_)
            · exact hHeld.trans M5
            clear hK K
            refine wpAnyH_ready (rs := [5]) (by kernel_rfl) (by simp) ?_
            refine AllReadyH.cons rfl (fun K hK => ?_) AllReadyH.nil
            go_simp
            go_wp2_with (go_at_call 100; refine (FB.out _ hHeld).mono ?_; rintro e w6 ⟨rfl, M6⟩)
            refine hK.out _ _ ?_ (fun hHeld => ?_)
            · exact hHeld.trans M6
            clear hK K
            refine takeD (i := 6) (d := 37) (v := ?_) rfl rfl (by kernel_rfl) (by kernel_rfl) (by kernel_rfl) (fun _ _ _ h => h) (Or.inl ⟨by rfl, ?_⟩) hHeld ?_
            rotate_left 1
            · (intro w hSw; (try dsimp only at hSw); go_simp; (try with_reducible rfl))
            simp only [List.setIfInBounds_toArray, List.set_cons_zero, List.set_cons_succ]
            refine wpAnyH_done (by kernel_rfl) ?_ _
            have HF6 := Lib.hid hHeld
            have HG6 := Lib.hid (hHeld.heap HG10.out (by simp))
            have HR6 := Lib.hid (hHeld.heap R10.out (by simp))
            have HM6 := Lib.hid ((HM.out.comp0 F10.out).comp0 hHeld)
            clear hHeld FA FB M5 HF6
            go_wp2_with (first
              | (refine wpList_load_row rfl 131 (.tmp 10) rfl g10 (by rfl) _ _ _ _ HR6.out Try.underlying131 rfl Try.infoPr2 ?_)
              | (refine wpList_store_row (cs := prC p) rfl 131 (.tmp 8) (.tmp 38) rfl HG6.out (by rfl) (by rfl) rfl Try.infoPr2 (prC_one _) ?_; intro w7 R7 M7; have HR7 := Lib.hid R7; have HM7 := Lib.hid (HM6.out.trans M7); clear R7 M7))
            exact ⟨⟨k + 1, by omega, by go_num, HM7.out, by rw [HTS2.out]; exact HR7.out⟩, by simp only [intOf]; omega⟩
          · have dd : decide (dp < db) = false := decide_eq_false hd
            have HTS2 := Lib.hid (show amin cv p0 (l.take (k + 1)) = b by rw [HTS.out, if_neg hd])
            clear hd
            refine heldStart (S := fun W => Mods [] wa W) 7 rfl (by kernel_rfl) (Mods.refl.drew) (fun hHeld => ?_)
            refine takeD (i := 0) (d := 31) (v := ?_) rfl rfl (by kernel_rfl) (by kernel_rfl) (by kernel_rfl) (fun _ _ _ h => h) (Or.inl ⟨by rfl, ?_⟩) hHeld ?_
            rotate_left 1
            · (intro w hSw; (try dsimp only at hSw); go_simp; (try with_reducible rfl))
            simp only [List.setIfInBounds_toArray, List.set_cons_zero, List.set_cons_succ]
            refine takeD (i := 1) (d := 32) (v := .agg (prC p)) rfl rfl (by kernel_rfl) (by kernel_rfl) (by kernel_rfl) (fun _ _ _ h => h) (yieldsIf_load_row rfl 131 (.tmp 10) rfl g10 rfl 131 (prC p) (0, 0) _ (fun W M => M.heap R10.out (by simp)) Try.underlying131 rfl Try.infoPr2) hHeld ?_
            simp only [List.setIfInBounds_toArray, List.set_cons_zero, List.set_cons_succ]
            refine takeD (i := 3) (d := 34) (v := ?_) rfl rfl (by kernel_rfl) (by kernel_rfl) (by kernel_rfl) (fun _ _ _ h => h) (Or.inl ⟨by rfl, ?_⟩) hHeld ?_
            rotate_left 1
            · (intro w hSw; (try dsimp only at hSw); go_simp; (try with_reducible rfl))
            simp only [List.setIfInBounds_toArray, List.set_cons_zero, List.set_cons_succ]
            refine takeD (i := 4) (d := 35) (v := .agg (prC b)) rfl rfl (by kernel_rfl) (by kernel_rfl) (by kernel_rfl) (fun _ _ _ h => h) (yieldsIf_load_row rfl 131 (.tmp 8) rfl g8 rfl 131 (prC b) (0, 0) _ (fun W M => M.heap HG10.out (by simp)) Try.underlying131 rfl Try.infoPr2) hHeld ?_
            simp only [List.setIfInBounds_toArray, List.set_cons_zero, List.set_cons_succ]
            refine wpAnyH_ready (rs := [2]) (by kernel_rfl) (by simp) ?_
            refine AllReadyH.cons rfl (fun K hK => ?_) AllReadyH.nil
            go_simp
            go_wp2_with (go_at_call 100; refine (FA.out _ hHeld).mono ?_; rintro e w5 ⟨rfl, M5⟩)
            refine hK.out _ _ ?_ (fun hHeld => ?_)
            · exact hHeld.trans M5
            clear hK K
            refine wpAnyH_ready (rs := [5]) (by kernel_rfl) (by simp) ?_
            refine AllReadyH.cons rfl (fun K hK => ?_) AllReadyH.nil
            go_simp
            go_wp2_with (go_at_call 100; refine (FB.out _ hHeld).mono ?_; rintro e w6 ⟨rfl, M6⟩)
            refine hK.out _ _ ?_ (fun hHeld => ?_)
            · exact hHeld.trans M6
            clear hK K
            refine takeD (i := 6) (d := 37) (v := ?_) rfl rfl (by kernel_rfl) (by kernel_rfl) (by kernel_rfl) (fun _ _ _ h => h) (Or.inl ⟨by rfl, ?_⟩) hHeld ?_
            rotate_left 1
            · (intro w hSw; (try dsimp only at hSw); go_simp; (try with_reducible rfl))
            simp only [List.setIfInBounds_toArray, List.set_cons_zero, List.set_cons_succ]
            refine wpAnyH_done (by kernel_rfl) ?_ _
            have HF6 := Lib.hid hHeld
            have HG6 := Lib.hid (hHeld.heap HG10.out (by simp))
            have HR6 := Lib.hid (hHeld.heap R10.out (by simp))
            have HM6 := Lib.hid ((HM.out.comp0 F10.out).comp0 hHeld)
            clear hHeld FA FB M5 HF6
            go_wp2_with fail
            exact ⟨⟨k + 1, by omega, by go_num, HM6.out, by rw [HTS2.out]; exact HG6.out⟩, by simp only [intOf]; omega⟩
        · obtain rfl : k = l.length := by omega
          rw [List.take_length] at HG
          have i1 : ¬ (l.length : Int) < (l.length : Int) := by omega
          have z0 : wr.cell? ⟨g8, 0, none⟩ = some (.int .u8 (amin cv p0 l).raw) := (cell_blk HG.out 0).trans rfl
          clear M
          go_wp2_with fail
          go_ret2
          exact ⟨ret_two HRES.out, HM4.out.comp HM.out (fun q hq => by simp at hq; exact .inr (by omega))⟩
end Go.Proofs.Ytgjjmiaiclhidaa
