/- Joined texts. Log.down: the contract. | Len, Full: contracts. | Open in a place that does not fit. | Records: the contract. -/
import Derived.Test.YtkdadnlleepkfaaLgF
namespace Go.Proofs.Ytkdadnlleepkfaa
open Go.RowKit
set_option linter.unusedVariables false
set_option linter.unusedSimpArgs false

/-- The log that has ended. -/
def IsEnd (w : World) (b B : Nat) : Prop := IsLog w ⟨b, .slice none 0 0⟩ B (.pointer none) 0 0 endL
theorem Try.sizeLog : (Try.prog.info? 86).map (·.size) = some 13 := by kernel_rfl
/-- The thirteen cells of a log, each of them there. -/
theorem IsLog.all {w : World} {q : LogAt} {B first n : Nat} {pd : Value} {L : LogP} (h : IsLog w q B pd first n L) :
    w.cell? ⟨q.b, 1, none⟩ = some (.int .i64 (first : Nat)) ∧ w.cell? ⟨q.b, 2, none⟩ = some (.int .i64 (n : Nat)) ∧ w.cell? ⟨q.b, 3, none⟩ = some (.bool L.over) ∧ w.cell? ⟨q.b, 4, none⟩ = some (.int .i64 (L.s.newest : Nat)) ∧
    w.cell? ⟨q.b, 5, none⟩ = some (.int .i64 (L.s.tail : Nat)) ∧ w.cell? ⟨q.b, 6, none⟩ = some (.int .i64 (L.s.used : Nat)) ∧ w.cell? ⟨q.b, 7, none⟩ = some (.int .u16 (L.s.next : Nat)) ∧ w.cell? ⟨q.b, 8, none⟩ = some q.v ∧
    w.cell? ⟨q.b, 9, none⟩ = some (.bool L.full) ∧ w.cell? ⟨q.b, 10, none⟩ = some (.int .u16 (L.num : Nat)) ∧ w.cell? ⟨q.b, 11, none⟩ = some (.bool L.held) :=
  ⟨h.c 1, h.c 2, h.c 3, h.c 4, h.c 5, h.c 6, h.c 7, h.c 8, h.c 9, h.c 10, h.c 11⟩
def endCells : Array Value := logCells (.pointer none) 0 0 endL (.slice none 0 0)
theorem IsEnd.of {w W : World} {b B : Nat} (hb : b < B) (R : W.heap[b]? = some (.cells endCells 86 (0, 0))) : IsEnd W b B := ⟨R, OwnE.nil _ _ _, hb⟩
theorem end_world (w : World) (b : Nat) : (((((((((((((w.setCell ⟨b, 0, none⟩ (.pointer none)).setCell ⟨b, 1, none⟩ (.int .i64 0)).setCell ⟨b, 2, none⟩ (.int .i64 0)).setCell ⟨b, 3, none⟩ (.bool false)).setCell ⟨b, 4, none⟩ (.int .i64 0)).setCell ⟨b, 5, none⟩ (.int .i64 0)).setCell ⟨b, 6, none⟩ (.int .i64 0)).setCell ⟨b, 7, none⟩ (.int .u16 0)).setCell ⟨b, 8, none⟩ (.slice none 0 0)).setCell ⟨b, 9, none⟩ (.bool false)).setCell ⟨b, 10, none⟩ (.int .u16 0)).setCell ⟨b, 11, none⟩ (.bool false)).setCell ⟨b, 12, none⟩ (.bool true)) = w.setCells b 0 endCells.toList := rfl
theorem end_heap {w : World} {b : Nat} {cs : Array Value} {T : TypeId} (R : w.heap[b]? = some (.cells cs T (0, 0))) (hs : cs.size = 13) : (w.setCells b 0 endCells.toList).heap[b]? = some (.cells endCells T (0, 0)) := by
  rw [heap_setCells _ _ _ _ R, setAll_whole (by rw [hs]; rfl)]
set_option maxRecDepth 100000 in
set_option maxHeartbeats 4000000 in
theorem ldown_end (w : World) (b B : Nat) (h : IsEnd w b B) :
    Calls Try.prog 51 #[.pointer (some ⟨b, 0, none⟩)] w fun e w' => e = .returned (.bool true) ∧ IsEnd w' b B ∧ Mods [b] w w' := by
  have H := Lib.hid h
  have c12 := (h.c 12).trans (show _ = some (Value.bool true) from rfl)
  have c0 := (h.c 0).trans (show _ = some (Value.pointer none) from rfl)
  obtain ⟨c1, c2, c3, c4, c5, c6, c7, c8, c9, c10, c11⟩ := IsLog.all h
  have ff := h.f
  simp only [] at c1 c2 c3 c4 c5 c6 c7 c8 c9 c10 c11 ff
  clear h
  go_enter Try.func51, Try.ntmps51
  go_upto_region 3 with (fail)
  clear c0 c1 c2 c3 c4 c5 c6 c7 c8 c9 c10 c11 c12 ff
  rw [end_world]
  have HR4 := Lib.hid (end_heap H.out.blk (by rfl))
  have HM4 := Lib.hid (Mods.setCells (b := b) endCells.toList 0 w)
  generalize w.setCells b 0 endCells.toList = w4 at HR4 HM4 ⊢
  have c12' := (cell_blk HR4.out 12).trans (show _ = some (Value.bool true) from rfl)
  go_wp2_with fail
  go_ret
  exact ⟨rfl, IsEnd.of (w := w) H.out.lt HR4.out, HM4.out⟩
set_option maxRecDepth 100000 in
set_option maxHeartbeats 4000000 in
theorem ldown_ok (w : World) (q : LogAt) (B : Nat) (p : DevAt) (D : Dev) (hD : IsDev w p D) (first n : Nat) (L : LogP) (h : IsLog w q B (.pointer (some ⟨p.b, 0, none⟩)) first n L) (he : L.ended = false) :
    Calls Try.prog 51 #[.pointer (some ⟨q.b, 0, none⟩)] w fun e w' => e = .returned (.bool D.down) ∧ (if D.down = true then IsEnd w' q.b B ∧ Mods [q.b] w w' else w = w') := by
  have H := Lib.hid h
  have c12 := (h.c 12).trans (show _ = some (Value.bool L.ended) from rfl)
  rw [he] at c12
  have c0 := (h.c 0).trans (show _ = some (Value.pointer (some ⟨p.b, 0, none⟩)) from rfl)
  obtain ⟨c1, c2, c3, c4, c5, c6, c7, c8, c9, c10, c11⟩ := h.all
  have ff := h.f
  have HDN := Lib.hid (down_ok w p D hD)
  obtain ⟨dn, hdn⟩ : ∃ dn, dn = D.down := ⟨_, rfl⟩
  rw [← hdn] at HDN ⊢
  clear h hD hdn he
  cases dn with
  | true =>
    go_enter Try.func51, Try.ntmps51
    go_wp2_with fail
    refine HDN.out.mono ?_
    rintro e w' ⟨rfl, rfl⟩
    go_upto_region 3 with (fail)
    clear c0 c1 c2 c3 c4 c5 c6 c7 c8 c9 c10 c11 c12 ff
    rw [end_world]
    have HR4 := Lib.hid (end_heap H.out.blk (by rfl))
    have HM4 := Lib.hid (Mods.setCells (b := q.b) endCells.toList 0 w)
    generalize w.setCells q.b 0 endCells.toList = w4 at HR4 HM4 ⊢
    have c12' := (cell_blk HR4.out 12).trans (show _ = some (Value.bool true) from rfl)
    go_wp2_with fail
    go_ret
    exact ⟨rfl, by intros; exact ⟨IsEnd.of (w := w) H.out.lt HR4.out, HM4.out⟩⟩
  | false =>
    go_enter Try.func51, Try.ntmps51
    go_wp2_with fail
    refine HDN.out.mono ?_
    rintro e w' ⟨rfl, rfl⟩
    go_wp2_with fail
    go_ret
    exact ⟨rfl, by simp⟩
end Go.Proofs.Ytkdadnlleepkfaa

namespace Go.Proofs.Ytkdadnlleepkfaa
open Go.RowKit
set_option linter.unusedVariables false
set_option linter.unusedSimpArgs false
set_option maxRecDepth 100000 in
theorem llen_ok (w : World) (q : LogAt) (B first n : Nat) (pd : Value) (L : LogP) (h : IsLog w q B pd first n L) :
    Calls Try.prog 25 #[.pointer (some ⟨q.b, 0, none⟩)] w fun e w' => e = .returned (.int .i64 (L.s.recs.length : Nat)) ∧ w = w' := by
  have c8 := (h.c 8).trans (show _ = some q.v from rfl)
  obtain ⟨ad, cap, hv, _⟩ := h.own.rd recOk
  rw [hv] at c8
  clear h hv
  go_enter Try.func25, Try.ntmps25
  go_wp2_with fail
  go_ret
  exact ⟨rfl, rfl⟩
set_option maxRecDepth 100000 in
theorem lfull_ok (w : World) (q : LogAt) (B first n : Nat) (pd : Value) (L : LogP) (h : IsLog w q B pd first n L) :
    Calls Try.prog 24 #[.pointer (some ⟨q.b, 0, none⟩)] w fun e w' => e = .returned (.bool L.full) ∧ w = w' := by
  have c9 := (h.c 9).trans (show _ = some (Value.bool L.full) from rfl)
  clear h
  go_enter Try.func24, Try.ntmps24
  go_wp2_with fail
  go_ret
  exact ⟨rfl, rfl⟩
def resN (L : LogP) : Nat := if L.num = 65535 then 1 else L.num + 1
def resL (L : LogP) : LogP := { L with num := resN L, held := true }
set_option maxRecDepth 100000 in
set_option maxHeartbeats 2000000 in
theorem lreserve_ok (w : World) (q : LogAt) (B first n : Nat) (pd : Value) (L : LogP) (h : IsLog w q B pd first n L) (he : L.ended = false) (hn : L.num ≤ 65535) :
    Calls Try.prog 38 #[.pointer (some ⟨q.b, 0, none⟩)] w fun e w' => e = .returned (.int .u16 (resN L : Nat)) ∧ IsLog w' q B pd first n (resL L) ∧ Mods [q.b] w w' := by
  have c10 := (h.c 10).trans (show _ = some (Value.int .u16 (L.num : Nat)) from rfl)
  have c11 := (h.c 11).trans (show _ = some (Value.bool L.held) from rfl)
  have c12 := (h.c 12).trans (show _ = some (Value.bool L.ended) from rfl)
  rw [he] at c12
  have ff := h.f
  by_cases hl : L.num = 65535
  · have hN := Lib.hid (show resN L = 1 from if_pos hl)
    have H1 := h.set 10 (.int .u16 0) { L with num := 0 } rfl rfl
    have H2 := H1.1.set 10 (.int .u16 1) { L with num := 1 } rfl rfl
    have H3 := H2.1.set 11 (.bool true) (resL L) (by unfold resL; rw [hN.out]; rfl) rfl
    have HE := Lib.hid (show IsLog _ q B pd first n (resL L) ∧ Mods [q.b] w _ from ⟨H3.1, (H1.2.trans H2.2).trans H3.2⟩)
    have g1 : ((L.num : Nat) : Int) = 65535 := by rw [hl]; rfl
    rw [g1] at c10
    clear h hl H1 H2 H3 g1 he hn
    go_enter Try.func38, Try.ntmps38
    go_wp2_with fail
    go_ret
    exact ⟨by rw [hN.out]; rfl, HE.out⟩
  · have hN := Lib.hid (show resN L = L.num + 1 from if_neg hl)
    have H2 := h.set 10 (.int .u16 ((L.num : Nat) + 1)) { L with num := L.num + 1 } rfl rfl
    have H3 := H2.1.set 11 (.bool true) (resL L) (by unfold resL; rw [hN.out]; rfl) rfl
    have HE := Lib.hid (show IsLog _ q B pd first n (resL L) ∧ Mods [q.b] w _ from ⟨H3.1, H2.2.trans H3.2⟩)
    have g1 : ¬ ((L.num : Nat) : Int) = 65535 := by omega
    have g2 : ((L.num : Nat) : Int) < 65535 := by omega
    have g3 : (0 : Int) ≤ ((L.num : Nat) : Int) := by omega
    have g4 : ((L.num : Nat) : Int) + 1 ≤ 65535 := by omega
    clear h H2 H3 he hl hn
    generalize hM : ((L.num : Nat) : Int) = m at c10 HE g1 g2 g3 g4
    have HMM := Lib.hid hM
    clear hM
    go_enter Try.func38, Try.ntmps38
    go_wp2_with fail
    go_ret
    exact ⟨by rw [hN.out, Int.natCast_add, HMM.out]; rfl, HE.out⟩
set_option maxRecDepth 100000 in
theorem lreserve_end (w : World) (b B : Nat) (h : IsEnd w b B) :
    Calls Try.prog 38 #[.pointer (some ⟨b, 0, none⟩)] w fun e w' => e = .returned (.int .u16 0) ∧ w = w' := by
  have c12 := (h.c 12).trans (show _ = some (Value.bool true) from rfl)
  clear h
  go_enter Try.func38, Try.ntmps38
  go_wp2_with fail
  go_ret
  exact ⟨rfl, rfl⟩
end Go.Proofs.Ytkdadnlleepkfaa

namespace Go.Proofs.Ytkdadnlleepkfaa
open Go.RowKit
set_option linter.unusedVariables false
set_option linter.unusedSimpArgs false
set_option maxRecDepth 100000 in
set_option maxHeartbeats 4000000 in
theorem open_bad (w : World) (p : DevAt) (D : Dev) (h : IsDev w p D) (hs : D.wear.length ≤ 16) (first n : Int) (h1 : -100 ≤ first ∧ first ≤ 100) (h2 : -100 ≤ n ∧ n ≤ 100) (over : Bool)
    (hb : n < 2 ∨ first < 0 ∨ (D.wear.length : Int) < n ∨ (D.wear.length : Int) - n < first) :
    Calls Try.prog 13 #[.pointer (some ⟨p.b, 0, none⟩), .int .i64 first, .int .i64 n, .bool over] w fun e w' => e = .returned (.tuple #[.pointer none, .int .i64 2]) ∧ w = w' := by
  have HS := Lib.hid (sectors_ok w p D h)
  obtain ⟨a1, a2⟩ := h1
  obtain ⟨b1, b2⟩ := h2
  clear h
  by_cases k1 : n < 2
  · clear hb
    go_enter Try.func13, Try.ntmps13
    go_wp2_with fail
    go_ret2
    exact ⟨rfl, rfl⟩
  · by_cases k2 : first < 0
    · clear hb
      go_enter Try.func13, Try.ntmps13
      go_wp2_with fail
      go_ret2
      exact ⟨rfl, rfl⟩
    · by_cases k3 : (D.wear.length : Int) < n
      · clear hb
        go_enter Try.func13, Try.ntmps13
        go_wp2_with (go_at_call 46; refine HS.out.mono ?_; rintro e w' ⟨rfl, rfl⟩)
        go_ret2
        exact ⟨rfl, rfl⟩
      · have k4 : (D.wear.length : Int) - n < first := by omega
        clear hb
        go_enter Try.func13, Try.ntmps13
        go_wp2_with (go_at_call 46; refine HS.out.mono ?_; rintro e w' ⟨rfl, rfl⟩)
        go_ret2
        exact ⟨rfl, rfl⟩
end Go.Proofs.Ytkdadnlleepkfaa

namespace Go.Proofs.Ytkdadnlleepkfaa
open Go.RowKit
set_option linter.unusedVariables false
set_option linter.unusedSimpArgs false
theorem Try.sizeRec : (Try.prog.info? 101).map (·.size) = some 11 := by kernel_rfl
def recC (r : Nat × Evt) : Array Value := (Value.int .i64 ((r.1 : Nat) : Int) :: r.2.cells).toArray
theorem recC_one (r : Nat × Evt) : (recC r).all (·.oneCell') = true := by simp [recC, Evt.cells, Value.oneCell']
def RecsPost (w : World) (l : List Evt) (e : Ending) (w' : World) : Prop := ∃ v', e = .returned v' ∧ OwnE evE w' w.heap.size v' l ∧ Mods [] w w'
set_option maxRecDepth 100000 in
set_option maxHeartbeats 8000000 in
theorem lrecords_ok (w : World) (q : LogAt) (B first n : Nat) (pd : Value) (L : LogP) (h : IsLog w q B pd first n L) (hB : B ≤ w.heap.size) (hn : L.s.recs.length ≤ 100000) :
    Calls Try.prog 28 #[.pointer (some ⟨q.b, 0, none⟩)] w fun e w' => RecsPost w (L.s.recs.map (·.2)) e w' := by
  have c8 := (h.c 8).trans (show _ = some q.v from rfl)
  have HR := Lib.hid (h.own.rd recOk)
  obtain ⟨l, hl⟩ : ∃ l, l = L.s.recs := ⟨_, rfl⟩
  rw [← hl] at HR hn ⊢
  clear h hl
  obtain ⟨ad, cap, hv, k1, k2, -⟩ := HR.out
  rw [hv] at c8
  have HV := Lib.hid hv
  have k2 : cap ≤ 9223372036854775807 := k2
  clear hv
  go_enter Try.func28, Try.ntmps28
  go_wp2_with fail
  clear c8
  go_loopw [11, 3] (fun i o wx => ∃ k : Nat, k ≤ l.length ∧ i = .int .i64 k ∧ OwnE evE wx w.heap.size o ((l.take k).map (·.2)) ∧ Mods [] w wx) (fun i _ _ => l.length - (intOf i).toNat)
  case atStart => exact ⟨0, Nat.zero_le _, rfl, OwnE.nil _ _ _, Mods.refl⟩
  case round =>
    obtain ⟨k, hk, rfl, hO, hM⟩ := hrel
    have HO := Lib.hid hO
    have HM := Lib.hid hM
    clear hO hM
    have i0 : (0 : Int) ≤ (k : Int) := by omega
    by_cases hlt : k < l.length
    · have i1 : (k : Int) < (l.length : Int) := by omega
      obtain ⟨bb, off, cp, hv, -, -, hc⟩ := HR.out.at (by omega)
      have hv2 := HV.out.symm.trans hv
      injection hv2 with hv3 hv4 hv5
      clear hv4 hv5
      subst hv3
      have hck := hc k hlt
      generalize hr : l.getD k recE.dflt = r at hck
      have HRG := Lib.hid (show ∀ W : World, Mods [] w W → W.rangeAt bb (off + k * 11) (recC r).toList from fun W M i u hu => by
        have hi : i < 11 := by
          rcases Nat.lt_or_ge i 11 with h | h
          · exact h
          · rw [List.getElem?_eq_none (by simp [recC, Evt.cells]; omega)] at hu; cases hu
        exact M.cell ((hck i hi).trans (by simpa [recC, recE] using hu)) (by simp))
      have hln : (l.take k).length = k := by rw [List.length_take]; omega
      have HTK := Lib.hid (show (l.take (k + 1)).map (·.2) = (l.take k).map (·.2) ++ [r.2] by
        have h1 : l[k] = r := by rw [← hr, List.getD_eq_getElem?_getD, List.getElem?_eq_getElem hlt]; rfl
        rw [List.take_succ_eq_append_getElem hlt, List.map_append, h1]; rfl)
      have HLN := Lib.hid (show ((l.take k).map (·.2)).length = k by rw [List.length_map, hln])
      clear hc hck hr hv hln
      go_upto_region 5 with (first
        | (refine wpList_load_mid rfl 101 (.tmp 13) rfl bb (off + k * 11) (by rfl) (recC r).toList _ (HRG.out _ HM.out) Try.underlying101 rfl Try.sizeRec ?_)
        | (refine wpList_store_row (cs := recC r) rfl 101 (.tmp 5) (.tmp 14) rfl (heap_alloc_new wr _) (by rfl) (by rfl) (by rfl) Try.sizeRec (recC_one r) ?_; intro w4 R4 M4; have HF4 := Lib.hid (freshA M4); have HR4 := Lib.hid R4; clear R4 M4))
      have HM4 := Lib.hid (HM.out.trans HF4.out)
      have HO4 := Lib.hid (HO.out.mods0 HF4.out)
      have HZ4 := Lib.hid (lt_of_block HR4.out)
      generalize wr.heap.size = g5 at HR4 HZ4 ⊢
      have HRV := Lib.hid (show w4.rangeAt g5 1 [.int .u16 ((r.2.id.val : Nat) : Int), .int .u32 ((r.2.time.val : Nat) : Int), .int .u16 ((r.2.gen.val : Nat) : Int), .int .u8 ((r.2.st.val : Nat) : Int), .int .u8 ((r.2.sen.val : Nat) : Int), .int .u8 ((r.2.typ.val : Nat) : Int), .bool r.2.de, .int .u8 ((r.2.d0.val : Nat) : Int), .int .u8 ((r.2.d1.val : Nat) : Int), .int .u8 ((r.2.d2.val : Nat) : Int)] from fun i u hu => by
        have := (cell_blk HR4.out (1 + i)).trans (show (recC r)[1 + i]? = some u by rw [← hu]; show _ = r.2.cells[i]?; rw [Nat.add_comm]; simp [recC])
        exact this)
      have HAL := Lib.hid (show OwnE evE (w4.alloc (.cells #[.int .u16 ((r.2.id.val : Nat) : Int), .int .u32 ((r.2.time.val : Nat) : Int), .int .u16 ((r.2.gen.val : Nat) : Int), .int .u8 ((r.2.st.val : Nat) : Int), .int .u8 ((r.2.sen.val : Nat) : Int), .int .u8 ((r.2.typ.val : Nat) : Int), .bool r.2.de, .int .u8 ((r.2.d0.val : Nat) : Int), .int .u8 ((r.2.d1.val : Nat) : Int), .int .u8 ((r.2.d2.val : Nat) : Int)] 37)) w.heap.size u3 ((l.take k).map (·.2)) ∧ RdE evE (w4.alloc (.cells #[.int .u16 ((r.2.id.val : Nat) : Int), .int .u32 ((r.2.time.val : Nat) : Int), .int .u16 ((r.2.gen.val : Nat) : Int), .int .u8 ((r.2.st.val : Nat) : Int), .int .u8 ((r.2.sen.val : Nat) : Int), .int .u8 ((r.2.typ.val : Nat) : Int), .bool r.2.de, .int .u8 ((r.2.d0.val : Nat) : Int), .int .u8 ((r.2.d1.val : Nat) : Int), .int .u8 ((r.2.d2.val : Nat) : Int)] 37)) (.slice (some ⟨w4.heap.size, 0, none⟩) 1 1) [r.2] ∧ Mods [] w (w4.alloc (.cells #[.int .u16 ((r.2.id.val : Nat) : Int), .int .u32 ((r.2.time.val : Nat) : Int), .int .u16 ((r.2.gen.val : Nat) : Int), .int .u8 ((r.2.st.val : Nat) : Int), .int .u8 ((r.2.sen.val : Nat) : Int), .int .u8 ((r.2.typ.val : Nat) : Int), .bool r.2.de, .int .u8 ((r.2.d0.val : Nat) : Int), .int .u8 ((r.2.d1.val : Nat) : Int), .int .u8 ((r.2.d2.val : Nat) : Int)] 37)) from
        ⟨HO4.out.mods0 (Mods.refl.alloc _), RdE.one (a := r.2) (heap_alloc_new w4 _) rfl, HM4.out.alloc _⟩)
      go_wp2_with (first
        | (refine wpList_load_mid rfl 37 (.tmp 16) rfl g5 1 (by rfl) [.int .u16 ((r.2.id.val : Nat) : Int), .int .u32 ((r.2.time.val : Nat) : Int), .int .u16 ((r.2.gen.val : Nat) : Int), .int .u8 ((r.2.st.val : Nat) : Int), .int .u8 ((r.2.sen.val : Nat) : Int), .int .u8 ((r.2.typ.val : Nat) : Int), .bool r.2.de, .int .u8 ((r.2.d0.val : Nat) : Int), .int .u8 ((r.2.d1.val : Nat) : Int), .int .u8 ((r.2.d2.val : Nat) : Int)] _ HRV.out Try.underlying37 rfl Try.sizeEv ?_)
        | (at_builtin; refine wpList_appE evOk (by rfl) (.tmp 15) (.tmp 18) rfl (by rfl) HAL.out.1 (by rfl) HAL.out.2.1 (by have := HLN.out; simp; omega) (HAL.out.2.2.size) ?_; intro VB WB OB MB; have HST := Lib.hid (show OwnE evE WB w.heap.size VB ((l.take (k + 1)).map (·.2)) ∧ Mods [] w WB from ⟨by rw [HTK.out]; exact OB, HAL.out.2.2.comp MB (fun y hy => .inr (HAL.out.1.back hy))⟩); clear OB MB))
      go_roundw
      case rel => exact ⟨k + 1, by omega, by go_num, HST.out.1, HST.out.2⟩
      case measure => simp [intOf]; omega
    · have i1 : ¬ (k : Int) < (l.length : Int) := by omega
      obtain rfl : k = l.length := by omega
      rw [List.take_length] at HO
      go_wp2_with fail
      go_ret
      exact ⟨_, rfl, HO.out, HM.out⟩
end Go.Proofs.Ytkdadnlleepkfaa
