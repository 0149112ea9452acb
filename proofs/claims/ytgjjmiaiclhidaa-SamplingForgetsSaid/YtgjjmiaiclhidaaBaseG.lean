/- Joined texts. The dice's Analog, near and Near: contracts. | What stands in sen's Step of which this group has use. | A sensor of the dice that lies in its variable's block. | A struct that is read whole in a region that draws its order: it yields in every world that holds its block. -/
import Derived.Test.YtgjjmiaiclhidaaMadeSen
import Derived.Test.YtgjjmiaiclhidaaBaseD
import Derived.Test.YtgjjmiaiclhidaaBaseE
import Derived.Test.YtgjjmiaiclhidaaBaseC
import Derived.Deep.RegionHeld3
namespace Go.Proofs.Ytgjjmiaiclhidaa
open Go.RowKit

/-- The sensor where no analog one came up. -/
def dS (num : Nat) : Sen := ⟨num, 1, 0, ⟨#[120]⟩, 0, 0, false, ⟨1, false, 1, 0, 0, 0, .slice none 0 0⟩, 63, 30, 20, 10, 200, 210, 220, 2, 3, 0, 63, 63, false, 1⟩
theorem dS_valid (num : Nat) : validB (dS num) [] = true := by
  have e : validB (dS num) [] = validB (dS 0) [] := rfl
  rw [e]; decide +kernel
theorem dS_is (w : World) {num : Nat} (h : num < 256) : IsSen w (dS num) [] :=
  IsSen.made ⟨RdPts.nil _, PtsOk.nil, i64_small (x := 1) ⟨by omega, by omega⟩, i64_small (x := 1) ⟨by omega, by omega⟩, i64_small (x := 0) ⟨by omega, by omega⟩, i64_small (x := 0) ⟨by omega, by omega⟩, i64_small (x := 0) ⟨by omega, by omega⟩⟩
    ⟨h, (by decide : 1 < 256), (by decide : 0 < 256), (by decide : 1 ≤ 1000), (by decide : 0 < 256), (by decide : 0 < 256), (by decide : 63 < 256), (by decide : 2 < 256), (by decide : 3 < 256), (by decide : 0 < 65536), (by decide : 63 < 65536), (by decide : 63 < 65536)⟩
    (by decide : 30 < 256 ∧ 20 < 256 ∧ 10 < 256 ∧ 200 < 256 ∧ 210 < 256 ∧ 220 < 256) (i64_small (x := 1) ⟨by omega, by omega⟩)
/-- An analog sensor of the dice. -/
def MadeAna (w : World) (b : Nat) (v : Value) (L : List Int) (num : Nat) (e : Ending) (w' : World) : Prop :=
  ∃ (S : Sen) (P : List Pt) (n : Nat), e = .returned (.agg S.cells) ∧ IsSen w' S P ∧ validB S P = true ∧ S.disc = false ∧ OwnPts w' w.heap.size S.conv.pts P ∧ P.length ≤ 12 ∧ S.number = num ∧ IsDice w' b v L n ∧ Mods [b] w w'
set_option maxRecDepth 100000 in
set_option maxHeartbeats 2000000 in
theorem analogM_ok (w : World) (b : Nat) (v : Value) (L : List Int) (n : Nat) (h : IsDice w b v L n) (num : Nat) (hnum : num < 256) :
    Calls Try.prog 71 #[.pointer (some ⟨b, 0, none⟩), .int .u8 num] w fun e w' => MadeAna w b v L num e w' := by
  have hbl := h.lt
  have H := Lib.hid h
  have hv := Lib.hid h.vlt
  clear h
  go_enter Try.func71, Try.ntmps71
  go_wp2_with fail
  have M1 := Lib.hid ((Mods.refl (S := []) (w := w)).alloc (.cells zS.cells 32))
  have R1 := heap_alloc_new w (.cells zS.cells 32)
  have e0 : w.alloc (.cells zS.cells 32) = w.alloc (.cells #[.int .u8 0, .int .u8 0, .int .u8 0, .string ⟨#[]⟩, .int .u8 0, .int .u8 0, .bool false, .int .i64 0, .bool false, .int .i64 0, .int .i64 0, .int .i64 0, .int .i64 0, .slice none 0 0, .int .u8 0, .int .u8 0, .int .u8 0, .int .u8 0, .int .u8 0, .int .u8 0, .int .u8 0, .int .u8 0, .int .u8 0, .int .u16 0, .int .u16 0, .int .u16 0, .bool false, .int .i64 0] 32) := rfl
  rw [e0] at M1 R1
  clear e0
  have D1 := H.out.mods0 M1.out
  generalize w.alloc (.cells #[.int .u8 0, .int .u8 0, .int .u8 0, .string ⟨#[]⟩, .int .u8 0, .int .u8 0, .bool false, .int .i64 0, .bool false, .int .i64 0, .int .i64 0, .int .i64 0, .int .i64 0, .slice none 0 0, .int .u8 0, .int .u8 0, .int .u8 0, .int .u8 0, .int .u8 0, .int .u8 0, .int .u8 0, .int .u8 0, .int .u8 0, .int .u16 0, .int .u16 0, .int .u16 0, .bool false, .int .i64 0] 32) = w1 at M1 R1 D1 ⊢
  generalize hgr : w.heap.size = gr at R1 hbl ⊢
  have HGR := Lib.hid hgr
  clear hgr
  go_loopw [5] (fun i wr => ∃ (k n2 : Nat), k ≤ 3 ∧ i = .int .i64 k ∧ IsDice wr b v L n2 ∧ Mods [b] w wr ∧ wr.heap[gr]? = some (.cells zS.cells 32 (0, 0))) (fun i _ => 3 - (intOf i).toNat)
  case atStart => exact ⟨0, n, by omega, rfl, D1, M1.out.nil, R1⟩
  case round =>
    obtain ⟨k, n2, hk, rfl, D, M, R⟩ := hrel
    have HM := Lib.hid M
    have HR := Lib.hid R
    have hgl := Lib.hid (lt_of_block R)
    clear D1 R1 M R
    by_cases hlt : k < 3
    · go_wp2_with fail
      refine (sensor_ok wr b v L n2 D num hnum).mono ?_
      rintro e w2 ⟨S, P, n3, rfl, IS, VS, OP, PL, SN, D3, M3⟩
      have hone := Lib.hid IS.conv.rd.one
      have z3 := Lib.hid M3.size
      have R3 := Lib.hid (M3.heap HR.out (by simp; omega))
      have M3 := Lib.hid (HM.out.trans M3)
      have HS := Lib.hid IS
      have HV := Lib.hid VS
      have HO := Lib.hid OP
      have HD := Lib.hid D3
      have HN := Lib.hid SN
      have HP := Lib.hid PL
      have hb2 := Lib.hid D3.lt
      clear IS VS OP D3 SN PL D
      have HA : Hid (∀ W, Mods [w2.heap.size] (w2.alloc (.cells zS.cells 32)) W → IsSen W S P ∧ OwnPts W wr.heap.size S.conv.pts P ∧ IsDice W b v L n3 ∧ Mods [b] w W ∧ W.heap[gr]? = some (.cells zS.cells 32 (0, 0))) := Lib.hid (fun W hW => by
        have hn : gr < w2.heap.size := lt_of_block R3.out
        have hfar : ∀ q, S.conv.pts.ownBlock = some q → q ≠ w2.heap.size := fun q hq => by have := (HO.out.own q hq).2; omega
        have A0 := (Mods.refl (S := []) (w := w2)).alloc (.cells zS.cells 32)
        refine ⟨(HS.out.mods0 A0).mods hW (fun _ q hq => by simpa using hfar q hq), ?_, (HD.out.mods0 A0).mods hW (by have := hb2.out; simp; omega) (fun hl q hq => by have := hv.out hl q hq; have := HGR.out; simp; omega), ?_, hW.heap (heap_alloc R3.out) (by simp; omega)⟩
        · exact hW.owns (A0.owns HO.out (by simp)) (fun q hq => by simpa using hfar q hq)
        · exact (M3.out.trans A0.nil).comp hW (fun q hq => by simp at hq; subst hq; exact .inr (by have := HGR.out; omega)))
      cases hd : S.disc with
      | true =>
        have hd2 := Lib.hid hd
        clear hd
        go_wp2_with (refine wpList_store_row (cs := S.cells) rfl 32 (.tmp 6) (.tmp 13) rfl (heap_alloc_new w2 _) (by rfl) (by rfl) (by rfl) (Sen.infoS _) (Sen.one _ hone.out) ?_; intro w4 R4 M4; have c6 : w4.cell? ⟨w2.heap.size, 6, none⟩ = some (.bool true) := (by rw [cell_blk R4, ← hd2.out]; rfl); have HA4 := Lib.hid (HA.out w4 M4); clear M4)
        exact ⟨⟨k + 1, n3, by omega, by go_num, HA4.out.2.2.1, HA4.out.2.2.2.1, HA4.out.2.2.2.2⟩, by simp only [intOf]; omega⟩
      | false =>
        have hd2 := Lib.hid hd
        clear hd
        go_wp2_with (first
          | (refine wpList_store_row (cs := S.cells) rfl 32 (.tmp 6) (.tmp 13) rfl (heap_alloc_new w2 _) (by rfl) (by rfl) (by rfl) (Sen.infoS _) (Sen.one _ hone.out) ?_; intro w4 R4 M4; have c6 : w4.cell? ⟨w2.heap.size, 6, none⟩ = some (.bool false) := (by rw [cell_blk R4, ← hd2.out]; rfl); have HA4 := Lib.hid (HA.out w4 M4); have HB4 := Lib.hid (show SenBox w4 w2.heap.size S from ⟨R4⟩); clear M4 R4)
          | (refine wpList_load_sen rfl (.tmp 6) rfl HB4.out (by rfl) ?_)
          | (refine wpList_store_row (cs := S.cells) rfl 32 (.tmp 4) (.tmp 17) rfl HA4.out.2.2.2.2 (by rfl) (by rfl) (by rfl) (Sen.infoS _) (Sen.one _ hone.out) ?_; intro w5 R5 M5))
        have hA := HA4.out
        have hw5 := HGR.out
        have hgl2 := hgl.out
        refine bodyPost_ret (results_cell_row rfl _ _ gr _ _ _ _ rfl R5 Try.underlying32 rfl (Sen.infoS _)) rfl ?_
        have hO5 : OwnPts w5 wr.heap.size S.conv.pts P := hA.2.1.mods M5 (by simp; exact hgl2)
        refine ⟨S, P, n3, rfl, { hA.1 with conv := ⟨hO5.rd, hA.1.conv.pok, hA.1.conv.form, hA.1.conv.m, hA.1.conv.b, hA.1.conv.k1, hA.1.conv.k2⟩ }, HV.out, hd2.out, hO5.down (by omega), HP.out, HN.out, hA.2.2.1.mods M5 (by simp; omega) (fun hl q hq => by have := hv.out hl q hq; simp; omega), hA.2.2.2.1.comp M5 (fun q hq => by simp at hq; subst hq; exact .inr (by omega))⟩
    · have hD5 := Lib.hid (dS_valid num)
      go_wp2_with (refine wpList_store_row (cs := (dS num).cells) rfl 32 (.tmp 4) (.tmp 22) rfl HR.out (by rfl) (by rfl) (by rfl) (Sen.infoS _) (Sen.one _ rfl) ?_; intro w5 R5 M5)
      have hw5 := HGR.out
      refine bodyPost_ret (results_cell_row rfl _ _ gr _ _ _ _ rfl R5 Try.underlying32 rfl (Sen.infoS _)) rfl ?_
      exact ⟨dS num, [], n2, rfl, dS_is w5 hnum, hD5.out, rfl, OwnPts.nil _ _, by simp, rfl, D.mods M5 (by simp; omega) (fun hl q hq => by have := hv.out hl q hq; simp; omega), HM.out.comp M5 (fun q hq => by simp at hq; subst hq; exact .inr (by omega))⟩
end Go.Proofs.Ytgjjmiaiclhidaa

namespace Go.Proofs.Ytgjjmiaiclhidaa
/-- A valid analog sensor. -/
def anaB (S : Sen) (P : List Pt) : Bool := !S.disc && validB S P
/-- A valid discrete sensor. -/
def digB (S : Sen) (P : List Pt) : Bool := S.disc && validB S P
end Go.Proofs.Ytgjjmiaiclhidaa

namespace Go.Proofs.Ytgjjmiaiclhidaa
open Go.RowKit

/-- The sensor lies in block g; neither it nor its points lie in the dice's block b. -/
structure Sn (w : World) (b g : Nat) (S : Sen) (P : List Pt) : Prop where
  box : SenBox w g S
  sen : IsSen w S P
  gb : g ≠ b
  far : ∀ q, S.conv.pts.ownBlock = some q → q ≠ b ∧ q ≠ g
theorem Sn.mods0 {w w' : World} {b g : Nat} {S : Sen} {P : List Pt} (h : Sn w b g S P) (M : Mods [] w w') : Sn w' b g S P := ⟨h.box.mods0 M, h.sen.mods0 M, h.gb, h.far⟩
theorem Sn.dice {w w' : World} {b g : Nat} {S : Sen} {P : List Pt} (h : Sn w b g S P) (M : Mods [b] w w') : Sn w' b g S P := ⟨h.box.mods M (by simpa using h.gb), h.sen.mods M (fun _ q hq => by simpa using (h.far q hq).1), h.gb, h.far⟩
theorem fresh {w w' : World} {o : Obj} (M : Mods [w.heap.size] (w.alloc o) w') : Mods [] w w' := (Mods.refl.alloc o).comp M fun k hk => by simp at hk; subst hk; exact .inr (Nat.le_refl _)
/-- A sensor made, stored into a new block. -/
theorem Sn.made {w1 w2 w4 : World} {b n : Nat} {v : Value} {L : List Int} {S : Sen} {P : List Pt} {o : Obj} (hb : b < w1.heap.size) (IS : IsSen w2 S P) (OP : OwnPts w2 w1.heap.size S.conv.pts P) (D2 : IsDice w2 b v L n)
    (R4 : w4.heap[w2.heap.size]? = some (.cells S.cells 32 (0, 0))) (M4 : Mods [w2.heap.size] (w2.alloc o) w4) : Sn w4 b w2.heap.size S P ∧ IsDice w4 b v L n ∧ Mods [] w2 w4 := by
  have M := fresh M4
  have := D2.lt
  exact ⟨⟨⟨R4⟩, IS.mods0 M, by omega, fun q hq => by have := OP.own q hq; constructor <;> omega⟩, D2.mods0 M, M⟩
/-- Without hysteresis. -/
def Sen.plain (S : Sen) : Sen := { S with hl := 0, hu := 0 }
theorem Sn.plain {w : World} {b g : Nat} {S : Sen} {P : List Pt} (h : Sn w b g S P) : Sn ((w.setCell ⟨g, 21, none⟩ (.int .u8 0)).setCell ⟨g, 22, none⟩ (.int .u8 0)) b g S.plain P :=
  ⟨⟨heap_setCell (heap_setCell h.box.blk)⟩, { (h.sen.mods ((Mods.refl (S := [g])).setCell (p := ⟨g, 21, none⟩) (.inl (by simp)) (.int .u8 0) |>.setCell (p := ⟨g, 22, none⟩) (.inl (by simp)) (.int .u8 0)) (fun _ q hq => by simpa using (h.far q hq).2)) with hl := (by decide : 0 < 256), hu := (by decide : 0 < 256) }, h.gb, h.far⟩
theorem ana_plain {S : Sen} {P : List Pt} (h : anaB S P = true) : anaB S.plain P = true := by
  cases hd : S.disc with
  | true => rw [anaB, hd] at h; cases h
  | false =>
    have hd2 : S.plain.disc = false := hd
    have e : analogB S.plain P = analogB S P := rfl
    rw [anaB, validB, hd] at h
    rw [anaB, validB, hd2, if_neg (by simp), e]
    rw [if_neg (by simp)] at h
    exact h
end Go.Proofs.Ytgjjmiaiclhidaa

namespace Go.Proofs.Ytgjjmiaiclhidaa
open Go.RowKit

theorem yieldsIf_load_row {P : Program} {ops : Array Oper} {S : World → Prop} {o : Oper} {a : Act} (hgd : o.guard = none) (ty : TypeId) (x : Operand) (ho : o.op = .load ty x)
    (g : Nat) (hx : a.eval x = .pointer (some ⟨g, 0, none⟩)) (t : TypeId) (cs : Array Value) (fr : Nat × Nat) (d : TypeDesc) (hg : ∀ w, S w → w.heap[g]? = some (.cells cs t fr))
    (hu : P.underlying ty = some d) (hd : (match d with | .struct _ | .array _ _ => true | _ => false) = true) (hi : (P.info? ty).map (·.size) = some cs.size) : YieldsIf P ops S o (.agg cs) a := by
  refine .inl ⟨by simp [Region.wanted, hgd], fun w hS => ?_⟩
  unfold execOp
  simp only [ho, hx, Instr.loadAt, Instr.sureAddr, Sem.run_bind, Sem.run_pure, Result.andThen_ok, run_loadVar_row w g t ty cs fr d (hg w hS) hu hd hi]
/-- The beginning, the number of the operations told. -/
theorem heldStart {P : Program} {l : List Oper} {S : World → Prop} {Q : Exit → Act → World → Prop} {id : Nat} {a : Act} {w : World} (n : Nat) (hn : l.length = n) (hm : P.follows .mixedOrders = true) (hS : S w.drew)
    (h : S w.drew → wpAnyH P .any l.toArray Q S n (Array.replicate n false) a w.drew) : (Code.region id l.toArray true).wp P Q a w := by
  refine wp_region_held_drew hm hS fun hS => ?_
  have := h hS
  rw [← hn] at this
  simpa using this
/-- A take, the slot told. -/
theorem takeD {P : Program} {ops : Array Oper} {md : Region.Mode} {S : World → Prop} {Q : Exit → Act → World → Prop} {i d : Nat} {oi : Oper} {v : Value} {fuel : Nat} {listed : Array Bool} {a : Act} {w : World} (hi : ops[i]? = some oi) (hd : oi.dst = some d)
    (hs : Region.noSelect ops = true) (hf : Region.free md ops listed i = true) (hr : (Region.ready md ops listed).contains i = true)
    (hQ : ∀ c a w, Q (.panic c) (a.put oi.dst v) w → Q (.panic c) a w) (hy : YieldsIf P ops S oi v a) (hS : S w)
    (h : wpAnyH P md ops Q S fuel (listed.setIfInBounds i true) { a with tmps := a.tmps.setIfInBounds d v } w) : wpAnyH P md ops Q S (fuel + 1) listed a w :=
  wpAnyH_take hi hs hf hr hQ hy hS (by unfold Act.put; rw [hd]; exact h)
end Go.Proofs.Ytgjjmiaiclhidaa
