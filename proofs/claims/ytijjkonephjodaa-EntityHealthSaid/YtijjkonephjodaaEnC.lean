/- Joined texts. A map that tells which entities were met. | entity.Check: contract. -/
import Derived.Test.YtijjkonephjodaaEnB
import Derived.Maps.Own
import Derived.Maps.OwnOps
import Derived.Maps.Views
import Derived.DeepKeys4
import Derived.ChangeSame
namespace Go.Proofs.Ytijjkonephjodaa
open Go.RowKit Go.Maps

theorem Try.laidOutE : laidOutB Try.prog = true := by kernel_rfl
theorem Try.rowE : (23 : TypeId) < Try.prog.types.size := of_decide_eq_true (by kernel_rfl)
theorem Try.cellsE : Try.prog.cellsOf 23 = 2 := by kernel_rfl
theorem Try.cellsB1 : Try.prog.cellsOf 5 = 1 := by kernel_rfl
theorem Try.deepE : Try.prog.keyType 23 = true := by kernel_rfl
theorem Try.wideE : (match Try.prog.underlying 23 with | some (.array _ _) | some (.struct _) => true | _ => false) = true := by kernel_rfl
set_option maxRecDepth 100000 in
theorem Try.keyedE : Keyed Try.prog 23 := Keyed.of_law (deep_law_laid Try.laidOutE (m := 2) (by omega) Try.rowE (by kernel_rfl) Try.wideE)
theorem Try.zeroB (w : World) : (zeroValue 4).run Try.prog w = .ok (.bool false) w := by kernel_rfl
theorem Try.typesPos : ∃ m, Try.prog.types.size = m + 1 := by
  have h : decide (0 < Try.prog.types.size) = true := by kernel_rfl
  have h := of_decide_eq_true h
  exact ⟨Try.prog.types.size - 1, by omega⟩
theorem ent_key (e : Ent) : ∃ kl, keyOf Try.prog 23 (.agg e.cells.toArray) = some kl := by
  obtain ⟨m, hm⟩ := Try.typesPos
  obtain ⟨⟨a, ha⟩, ⟨b, hb⟩⟩ := e
  have wa : (Lit.int .u8 (a : Int)).wf = true := by have h1 : IntKind.u8.min = 0 := rfl; have h2 : IntKind.u8.max = 255 := rfl; simp [Lit.wf, h1, h2]; omega
  have wb : (Lit.int .u8 (b : Int)).wf = true := by have h1 : IntKind.u8.min = 0 := rfl; have h2 : IntKind.u8.max = 255 := rfl; simp [Lit.wf, h1, h2]; omega
  have hf : (Value.agg (Ent.cells ⟨⟨a, ha⟩, ⟨b, hb⟩⟩).toArray).formed Try.prog 23 = true := by
    simp [Value.formed, Try.underlying23, Try.cellsE, Ent.cells]
  unfold keyOf
  rw [Try.underlying23, Try.deepE, hf, hm]
  simp [Program.keyLits, Try.underlying23, Try.underlying5, Try.cellsE, Try.cellsB1, Ent.cells, Value.cells, wa, wb]
noncomputable def entKey (e : Ent) : Lit := (ent_key e).choose
theorem entKey_is (e : Ent) : keyOf Try.prog 23 (.agg e.cells.toArray) = some (entKey e) := (ent_key e).choose_spec
theorem entKey_inj {e f : Ent} (h : entKey e = entKey f) : e = f := by
  have := Try.keyedE.inj (entKey_is e) (by rw [h]; exact entKey_is f)
  injection this with h
  obtain ⟨⟨a, ha⟩, ⟨b, hb⟩⟩ := e
  obtain ⟨⟨c, hc⟩, ⟨d, hd⟩⟩ := f
  simp [Ent.cells] at h
  simp; omega
theorem plainElem_bool_inv {P : Program} {e : TypeId} (he : P.underlying e = some .bool) {v : Value} {z : DataW Unit × List MemPlace} (h : plainElem P e v = some z) : ∃ x, v = .bool x ∧ z = (.lit (.bool x), []) := by
  unfold plainElem at h
  rw [he] at h
  cases v <;> simp at h
  subst h
  exact ⟨_, rfl, rfl⟩
/-- Block b is a map of at most n entries that is true just at the entities of L. -/
def MetE (w : World) (b n : Nat) (L : List Ent) : Prop :=
  ∃ D : DataW Unit, w.ownsMap Try.prog 23 (plainElem Try.prog 4) b n D ∧ ∀ e : Ent, D.atKey (entKey e) (.lit (.bool false)) = .lit (.bool (decide (e ∈ L)))
theorem MetE.made (w : World) : MetE (w.alloc (.map #[] 0)) w.heap.size 0 [] := ⟨.map [], World.ownsMap_made _ _ _ _, fun _ => rfl⟩
theorem MetE.lt {w : World} {b n : Nat} {L : List Ent} (h : MetE w b n L) : b < w.heap.size := by obtain ⟨D, h, _⟩ := h; exact h.lt
theorem MetE.mods {S : List Nat} {w W : World} {b n : Nat} {L : List Ent} (h : MetE w b n L) (M : Mods S w W) (hb : b ∉ S) : MetE W b n L := by
  obtain ⟨D, ⟨es, clock, h1, h2⟩, h3⟩ := h
  exact ⟨D, ⟨es, clock, M.heap h1 hb, h2⟩, h3⟩
theorem MetE.mods0 {w W : World} {b n : Nat} {L : List Ent} (h : MetE w b n L) (M : Mods [] w W) : MetE W b n L := h.mods M (by simp)
theorem MetE.look {w : World} {b n : Nat} {L : List Ent} (h : MetE w b n L) (e : Ent) : (Instr.lookup 104 (.map (some b)) (.agg #[.int .u8 ((e.id.val : Nat) : Int), .int .u8 ((e.inst.val : Nat) : Int)]) false).run Try.prog w = .ok (.bool (decide (e ∈ L))) w := by
  obtain ⟨D, h1, h2⟩ := h
  obtain ⟨v, ps, hrun, hv⟩ := h1.lookup Try.keyedE Try.underlying104 (Try.zeroB w) (plainElem_bool Try.underlying4 false) (entKey_is e)
  obtain ⟨x, rfl, hx⟩ := plainElem_bool_inv Try.underlying4 hv
  rw [h2 e] at hx
  simp at hx
  obtain ⟨rfl, -⟩ := hx
  exact hrun
theorem wpList_met {ops : Array Oper} {rest : List Oper} {o : Oper} {a : Act} {Q : Exit → Act → World → Prop} {w : World} (hg : o.guard = none) (m x v : Operand) (hop : o.op = Op.mapUpdate 104 m x v)
    {b n : Nat} {L : List Ent} (hm : a.eval m = .map (some b)) (hown : MetE w b n L) (hn : n < 1000000) (e : Ent) (hx : a.eval x = .agg #[.int .u8 ((e.id.val : Nat) : Int), .int .u8 ((e.inst.val : Nat) : Int)]) (hv : a.eval v = .bool true)
    (hK : ∀ w', MetE w' b (n + 1) (L ++ [e]) → Mods [b] w w' → wpList Try.prog ops Q rest (a.put o.dst undef) w') : wpList Try.prog ops Q (o :: rest) a w := by
  obtain ⟨D, h1, h2⟩ := hown
  have hM : IsMap D := by obtain ⟨es, clock, _, _, _, h⟩ := h1; exact ⟨_, h⟩
  refine wpList_mapUpdate_own w hg m x v 104 hop 23 4 Try.keyedE Try.underlying104 _ b n D hm h1 (by unfold maxLen; omega) _ _ (entKey e) hx hv (entKey_is e) _ _ (plainElem_bool Try.underlying4 true) ?_
  intro w' h3 h4
  refine hK w' ⟨_, h3, fun f => ?_⟩ (by have := Mods.of_grown h4; simpa using this)
  by_cases hf : f = e
  · subst hf
    rw [atKey_put_same hM (Try.keyedE.key (entKey_is f))]
    simp
  · rw [atKey_put_other (fun h => hf (entKey_inj h)), h2 f]
    simp [hf]
end Go.Proofs.Ytijjkonephjodaa

namespace Go.Proofs.Ytijjkonephjodaa
open Go.RowKit

theorem Asc.one (x : Asc) : x.cells.toArray.all (·.oneCell') = true := by simp [Asc.cells, Value.oneCell']
theorem Try.sizeAsc : (Try.prog.info? 61).map (·.size) = some 4 := by kernel_rfl
theorem take_inn {l : List Asc} {k : Nat} (h : k < l.length) : (l.take (k + 1)).map (·.inn) = (l.take k).map (·.inn) ++ [(l.getD k default).inn] := by
  rw [List.take_succ_eq_append_getElem h, List.map_append, List.getD_eq_getElem?_getD, List.getElem?_eq_getElem h]
  rfl
theorem mem_take_inn {l : List Asc} {k : Nat} (h : k ≤ l.length) {e : Ent} : e ∈ (l.take k).map (·.inn) ↔ ∃ j, j < k ∧ (l.getD j default).inn = e := by
  constructor
  · intro he
    obtain ⟨x, hx, rfl⟩ := List.mem_map.1 he
    obtain ⟨j, hj, rfl⟩ := List.mem_iff_getElem.1 hx
    rw [List.length_take] at hj
    refine ⟨j, by omega, ?_⟩
    rw [List.getD_eq_getElem?_getD, List.getElem?_eq_getElem (by omega)]
    simp
  · rintro ⟨j, hj, rfl⟩
    refine List.mem_map.2 ⟨l.getD j default, ?_, rfl⟩
    rw [List.getD_eq_getElem?_getD, List.getElem?_eq_getElem (by omega)]
    exact List.mem_iff_getElem.2 ⟨j, by rw [List.length_take]; omega, by simp⟩
set_option maxRecDepth 100000 in
set_option maxHeartbeats 8000000 in
theorem check_ok (w : World) (l : List Asc) (v : Value) (hv : RdE ascE w v l) :
    Calls Try.prog 32 #[v] w fun en w' => en = .returned (.int .i64 (chkE l)) ∧ Mods [] w w' := by
  obtain ⟨ad, cap, rfl⟩ := hv.len
  have hcap := hv.bound
  have HV := Lib.hid hv
  have HCK := Lib.hid (show chkE l = if 32 < l.length then 3 else if dupB l = true then 7 else if cycB l = true then 14 else 0 from rfl)
  generalize chkE l = V at HCK ⊢
  clear hv
  by_cases h32 : 32 < l.length
  · have d1 : decide ((l.length : Int) > 32) = true := decide_eq_true (by omega)
    have HR := Lib.hid (HCK.out.trans (if_pos h32))
    clear h32
    go_enter Try.func32, Try.ntmps32
    go_wp2_with fail
    go_ret
    exact ⟨ret_int HR.out.symm, Mods.refl⟩
  · have d1 : decide ((l.length : Int) > 32) = false := decide_eq_false (by omega)
    have HR := Lib.hid (HCK.out.trans (if_neg h32))
    have hmm := @run_makeMap Try.prog
    have HM0 := Lib.hid ((Mods.refl (S := []) (w := w)).alloc (.map #[] 0))
    have HT0 := Lib.hid (MetE.made w)
    have hl32 : l.length ≤ 32 := by omega
    clear h32
    go_enter Try.func32, Try.ntmps32
    go_wp2_with fail
    generalize w.alloc (.map #[] 0) = w0 at HM0 HT0 ⊢
    generalize hbb : w.heap.size = b at HT0 ⊢
    have HBB := Lib.hid hbb
    clear hbb
    go_loopw [14] (fun i wr => ∃ k : Nat, k ≤ l.length ∧ i = .int .i64 k ∧ Mods [] w wr ∧ Hid (MetE wr b k ((l.take k).map (·.inn))) ∧ Hid (NoDup l k)) (fun i _ => l.length - (intOf i).toNat)
    case atStart => exact ⟨0, Nat.zero_le _, rfl, HM0.out, HT0, fun i hi => by omega⟩
    clear HM0 HT0
    case round =>
      obtain ⟨k, hk, rfl, M, hT, hND⟩ := hrel
      have i0 : (0 : Int) ≤ (k : Int) := by omega
      by_cases hlt : k < l.length
      · have i1 : (k : Int) < (l.length : Int) := by omega
        obtain ⟨bb, off, cap, hv2, _, _, hc⟩ := (HV.out.mods0 ascOk M).asc (by omega)
        injection hv2 with hv3 _ hv4
        subst hv3 hv4
        obtain ⟨y0, y1, y2, y3⟩ := hc k hlt
        have HX := Lib.hid (take_inn hlt)
        have HMM := Lib.hid (fun e => mem_take_inn (l := l) (k := k) hk (e := e))
        obtain ⟨x, hx⟩ : ∃ x, x = l.getD k default := ⟨_, rfl⟩
        rw [← hx] at y0 y1 y2 y3 HX
        have HXE := Lib.hid hx
        obtain ⟨r, hr⟩ : ∃ r, r = decide (x.inn ∈ (l.take k).map (·.inn)) := ⟨_, rfl⟩
        have HL : Hid (∀ W, Mods [] wr W → (Instr.lookup 104 (.map (some b)) (.agg #[.int .u8 ((x.inn.id.val : Nat) : Int), .int .u8 ((x.inn.inst.val : Nat) : Int)]) false).run Try.prog W = .ok (.bool r) W) := Lib.hid (fun W MW => by
          rw [hr]
          exact (hT.out.mods0 MW).look x.inn)
        have HRD := Lib.hid hr
        have HM := Lib.hid M
        have hbl : b < wr.heap.size := hT.out.lt
        clear hc hx hr M
        cases r with
        | true =>
          obtain ⟨j, hj, he⟩ := (HMM.out _).1 (of_decide_eq_true HRD.out.symm)
          have HDU := Lib.hid (dup_some hlt hj (by rw [he, HXE.out]))
          have HRR := Lib.hid (HR.out.trans (if_pos HDU.out))
          clear hj he
          go_wp2_with (first
            | (refine wpList_store_row (cs := #[.int .u8 ((x.out.id.val : Nat) : Int), .int .u8 ((x.out.inst.val : Nat) : Int), .int .u8 ((x.inn.id.val : Nat) : Int), .int .u8 ((x.inn.inst.val : Nat) : Int)]) rfl 61 (.tmp 5) (.tmp 17) rfl (heap_alloc_new wr _) (by rfl) (by rfl) (by rfl) Try.sizeAsc (Asc.one x) ?_; intro w3 R3 M3; have HF3 := Lib.hid (freshA M3); have c2 := cell_blk R3 2; have c3 := cell_blk R3 3; have hlk := HL.out w3 HF3.out; have HT3 := Lib.hid (hT.out.mods0 HF3.out); simp only [List.getElem?_toArray, List.getElem?_cons_succ, List.getElem?_cons_zero] at c2 c3; clear R3 M3)
            | (fail))
          go_ret
          exact ⟨ret_int HRR.out.symm, HM.out.trans HF3.out⟩
        | false =>
          have HND := Lib.hid (show NoDup l (k + 1) from fun i hi q hq => by
            rcases Nat.lt_or_ge i k with h | h
            · exact hND.out i h q hq
            · obtain rfl : i = k := by omega
              intro he
              exact of_decide_eq_false HRD.out.symm ((HMM.out _).2 ⟨q, hq, by rw [he, HXE.out]⟩))
          go_wp2_with (first
            | (refine wpList_store_row (cs := #[.int .u8 ((x.out.id.val : Nat) : Int), .int .u8 ((x.out.inst.val : Nat) : Int), .int .u8 ((x.inn.id.val : Nat) : Int), .int .u8 ((x.inn.inst.val : Nat) : Int)]) rfl 61 (.tmp 5) (.tmp 17) rfl (heap_alloc_new wr _) (by rfl) (by rfl) (by rfl) Try.sizeAsc (Asc.one x) ?_; intro w3 R3 M3; have HF3 := Lib.hid (freshA M3); have c2 := cell_blk R3 2; have c3 := cell_blk R3 3; have hlk := HL.out w3 HF3.out; have HT3 := Lib.hid (hT.out.mods0 HF3.out); simp only [List.getElem?_toArray, List.getElem?_cons_succ, List.getElem?_cons_zero] at c2 c3; clear R3 M3)
            | (at_mapUpdate; refine wpList_met rfl (.tmp 22) (.tmp 24) _ rfl rfl HT3.out (by omega) x.inn rfl rfl ?_; intro w4 HT4 M4; have HT5 := Lib.hid HT4; have HM4 := Lib.hid ((HM.out.trans HF3.out).comp M4 (fun q hq => by simp at hq; subst hq; exact .inr (by have := HBB.out; omega))); clear HT4 M4))
          go_roundw
          case rel => exact ⟨k + 1, by omega, by go_num, HM4.out, by rw [HX.out]; exact HT5, HND⟩
          case measure => simp [intOf]; omega
      · have i1 : ¬ (k : Int) < (l.length : Int) := by omega
        have hk2 : k = l.length := by omega
        have HR := Lib.hid (HR.out.trans (if_neg (by rw [dup_none (by rw [← hk2]; exact hND.out)]; simp)))
        have HM := Lib.hid M
        clear M hk2 hT hND hmm
        go_wp2_with fail
        go_loopw [28] (fun i wr => ∃ k : Nat, k ≤ l.length ∧ i = .int .i64 k ∧ Mods [] w wr ∧ Hid (NoCyc l k)) (fun i _ => l.length - (intOf i).toNat)
        case atStart => exact ⟨0, Nat.zero_le _, rfl, HM.out, fun i hi => by omega⟩
        clear HM hlt i1 i0 hk
        case round =>
          obtain ⟨k, hk, rfl, M, hNC⟩ := hrel
          have i0 : (0 : Int) ≤ (k : Int) := by omega
          by_cases hlt : k < l.length
          · have i1 : (k : Int) < (l.length : Int) := by omega
            obtain ⟨bb, off, cap, hv2, _, _, hc⟩ := (HV.out.mods0 ascOk M).asc (by omega)
            injection hv2 with hv3 _ hv4
            subst hv3 hv4
            obtain ⟨y0, y1, y2, y3⟩ := hc k hlt
            obtain ⟨x, hx⟩ : ∃ x, x = l.getD k default := ⟨_, rfl⟩
            rw [← hx] at y0 y1 y2 y3
            have HXE := Lib.hid hx
            have HM := Lib.hid M
            clear hc hx M
            go_wp2_with (refine wpList_store_row (cs := #[.int .u8 ((x.out.id.val : Nat) : Int), .int .u8 ((x.out.inst.val : Nat) : Int), .int .u8 ((x.inn.id.val : Nat) : Int), .int .u8 ((x.inn.inst.val : Nat) : Int)]) rfl 61 (.tmp 7) (.tmp 31) rfl (heap_alloc_new wr _) (by rfl) (by rfl) (by rfl) Try.sizeAsc (Asc.one x) ?_; intro w3 R3 M3; have HR3 := Lib.hid R3; have HM3 := Lib.hid (HM.out.trans (freshA M3)); clear R3 M3)
            generalize wr.heap.size = g at HR3 ⊢
            refine heldStart (S := fun W => W.heap[g]? = some (.cells #[.int .u8 ((x.out.id.val : Nat) : Int), .int .u8 ((x.out.inst.val : Nat) : Int), .int .u8 ((x.inn.id.val : Nat) : Int), .int .u8 ((x.inn.inst.val : Nat) : Int)] 61 (0, 0))) 7 rfl (by kernel_rfl) HR3.out (fun hHeld => ?_)
            refine takeD (i := 0) (d := 32) (v := ?_) rfl rfl (by kernel_rfl) (by kernel_rfl) (by kernel_rfl) (fun _ _ _ h => h) (Or.inl ⟨by rfl, ?_⟩) hHeld ?_
            rotate_left 1
            · (intro w hSw; (try dsimp only at hSw); go_simp; (try with_reducible rfl))
            simp only [List.setIfInBounds_toArray, List.set_cons_zero, List.set_cons_succ]
            refine takeD (i := 1) (d := 33) (v := ?_) rfl rfl (by kernel_rfl) (by kernel_rfl) (by kernel_rfl) (fun _ _ _ h => h) (Or.inl ⟨by rfl, ?_⟩) hHeld ?_
            rotate_left 1
            · (intro w hSw; (try dsimp only at hSw); go_simp; (try with_reducible rfl))
            simp only [List.setIfInBounds_toArray, List.set_cons_zero, List.set_cons_succ]
            refine takeD (i := 2) (d := 34) (v := .agg #[.int .u8 ((x.inn.id.val : Nat) : Int), .int .u8 ((x.inn.inst.val : Nat) : Int)]) rfl rfl (by kernel_rfl) (by kernel_rfl) (by kernel_rfl) (fun _ _ _ h => h) (Or.inl ⟨by rfl, fun w hSw => ?_⟩) hHeld ?_
            · have c2 := (cell_blk hSw 2).trans (show _ = some (Value.int .u8 ((x.inn.id.val : Nat) : Int)) from rfl)
              have c3 := (cell_blk hSw 3).trans (show _ = some (Value.int .u8 ((x.inn.inst.val : Nat) : Int)) from rfl)
              go_simp
            simp only [List.setIfInBounds_toArray, List.set_cons_zero, List.set_cons_succ]
            refine takeD (i := 4) (d := 36) (v := ?_) rfl rfl (by kernel_rfl) (by kernel_rfl) (by kernel_rfl) (fun _ _ _ h => h) (Or.inl ⟨by rfl, ?_⟩) hHeld ?_
            rotate_left 1
            · (intro w hSw; (try dsimp only at hSw); go_simp; (try with_reducible rfl))
            simp only [List.setIfInBounds_toArray, List.set_cons_zero, List.set_cons_succ]
            refine takeD (i := 5) (d := 37) (v := .agg #[.int .u8 ((x.inn.id.val : Nat) : Int), .int .u8 ((x.inn.inst.val : Nat) : Int)]) rfl rfl (by kernel_rfl) (by kernel_rfl) (by kernel_rfl) (fun _ _ _ h => h) (Or.inl ⟨by rfl, fun w hSw => ?_⟩) hHeld ?_
            · have c2 := (cell_blk hSw 2).trans (show _ = some (Value.int .u8 ((x.inn.id.val : Nat) : Int)) from rfl)
              have c3 := (cell_blk hSw 3).trans (show _ = some (Value.int .u8 ((x.inn.inst.val : Nat) : Int)) from rfl)
              go_simp
            simp only [List.setIfInBounds_toArray, List.set_cons_zero, List.set_cons_succ]
            have HAR := Lib.hid (around_ok w3.drew l (by omega) x.inn _ (HV.out.mods0 ascOk HM3.out.drew))
            refine wpAnyH_ready (rs := [3]) (by kernel_rfl) (by simp) ?_
            refine AllReadyH.cons rfl (fun K hK => ?_) AllReadyH.nil
            go_simp
            go_wp2_with (refine HAR.out.mono ?_; rintro en w4 ⟨va, A, rfl, OA, HA, M4⟩)
            refine hK.out _ _ ?_ (fun hHeld => ?_)
            · exact M4.heap hHeld (by simp)
            clear hK K
            have HM4 := Lib.hid (HM3.out.drew.trans M4)
            have HCO := Lib.hid (contains_ok w4 A x.inn va (OA.rd entOk))
            rw [HA.ab] at HCO
            obtain ⟨r, hr⟩ : ∃ r, r = abv l x.inn x.inn := ⟨_, rfl⟩
            rw [← hr] at HCO
            have HRD := Lib.hid hr
            clear hr M4 OA HA HAR
            refine wpAnyH_ready (rs := [6]) (by kernel_rfl) (by simp) ?_
            refine AllReadyH.cons rfl (fun K hK => ?_) AllReadyH.nil
            go_simp
            go_wp2_with (refine HCO.out.mono ?_; rintro en w5 ⟨rfl, M5⟩)
            refine hK.out _ _ ?_ (fun hHeld => ?_)
            · exact M5.heap hHeld (by simp)
            clear hK K
            have HM5 := Lib.hid (HM4.out.trans M5)
            clear M5 HCO
            refine wpAnyH_done (by kernel_rfl) ?_ _
            cases r with
            | true =>
              have HCY := Lib.hid (cyc_some hlt (by rw [← HXE.out]; exact HRD.out.symm))
              have HRR := Lib.hid (HR.out.trans (if_pos HCY.out))
              go_wp2_with fail
              go_ret
              exact ⟨ret_int HRR.out.symm, HM5.out⟩
            | false =>
              have HNC := Lib.hid (show NoCyc l (k + 1) from fun i hi => by
                rcases Nat.lt_or_ge i k with h | h
                · exact hNC.out i h
                · obtain rfl : i = k := by omega
                  rw [← HXE.out]
                  exact HRD.out.symm)
              go_wp2_with fail
              go_roundw
              case rel => exact ⟨k + 1, by omega, by go_num, HM5.out, HNC⟩
              case measure => simp [intOf]; omega
          · have i1 : ¬ (k : Int) < (l.length : Int) := by omega
            have hk2 : k = l.length := by omega
            have HRR := Lib.hid (HR.out.trans (if_neg (by rw [cyc_none (by rw [← hk2]; exact hNC.out)]; simp)))
            have HM := Lib.hid M
            clear M hk2
            go_wp2_with fail
            go_ret
            exact ⟨ret_int HRR.out.symm, HM.out⟩
end Go.Proofs.Ytijjkonephjodaa
