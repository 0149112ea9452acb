/- Joined texts. entity.within and Within, Present: contracts. | entity.Within and Present, the reference's Present: contracts. -/
import Derived.Test.YtijjkonephjodaaEnD
namespace Go.Proofs.Ytijjkonephjodaa
open Go.RowKit

def inL (l : List Asc) (e : Ent) (k : Nat) : List Ent := e :: ((l.take k).map (·.inn)).filter fun x => abv l x e
theorem inL_succ {l : List Asc} {e : Ent} {k : Nat} (h : k < l.length) : inL l e (k + 1) = if abv l (l.getD k default).inn e = true then inL l e k ++ [(l.getD k default).inn] else inL l e k := by
  unfold inL
  rw [take_inn h, List.filter_append]
  generalize (l.getD k default).inn = y
  by_cases hx : abv l y e = true
  · rw [if_pos hx]
    simp [hx]
  · rw [if_neg hx]
    simp [hx]
theorem inL_all (l : List Asc) (e : Ent) : inL l e l.length = withinL l e := by unfold inL withinL; rw [List.take_length]
theorem inL_len (l : List Asc) (e : Ent) (k : Nat) : (inL l e k).length ≤ l.length + 1 := by
  unfold inL
  rw [List.length_cons]
  have := List.length_filter_le (fun x => abv l x e) ((l.take k).map (·.inn))
  rw [List.length_map, List.length_take] at this
  omega
def WithinRes (w : World) (l : List Asc) (e : Ent) (en : Ending) (w' : World) : Prop := ∃ v, en = .returned v ∧ RdE entE w' v (wthL l e) ∧ Mods [] w w'
def WiRel (w : World) (l : List Asc) (e : Ent) (u : Value) (wr : World) (k : Nat) : Prop := OwnE entE wr (w.heap.size + 1) u (inL l e k) ∧ EntBox wr w.heap.size e ∧ Mods [] w wr
set_option maxRecDepth 100000 in
set_option maxHeartbeats 8000000 in
theorem within_ok (w : World) (l : List Asc) (hl : l.length ≤ 1000) (v : Value) (hv : RdE ascE w v l) (e : Ent) :
    Calls Try.prog 67 #[v, .agg e.cells.toArray] w fun en w' => WithinRes w l e en w' := by
  obtain ⟨ad, cap, rfl⟩ := hv.len
  have HV := Lib.hid hv
  have M0 := (Mods.refl (S := []) (w := w)).alloc (.cells e.cells.toArray 23)
  have B0 := EntBox.new w e
  have O1 := OwnE.lit entOk (w.alloc (.cells e.cells.toArray 23)) (B := w.heap.size + 1) (by simp) [e] (by unfold maxLen; simp)
  have M1 := M0.alloc (.cells #[.int .u8 ((e.id.val : Nat) : Int), .int .u8 ((e.inst.val : Nat) : Int)] 23)
  have HS0 := Lib.hid (show OwnE entE ((w.alloc (.cells e.cells.toArray 23)).alloc (.cells #[.int .u8 ((e.id.val : Nat) : Int), .int .u8 ((e.inst.val : Nat) : Int)] 23)) (w.heap.size + 1) (.slice (some ⟨w.heap.size + 1, 0, none⟩) 1 1) (inL l e 0) from by
    rw [World.size_alloc] at O1
    exact O1)
  have HB1 := Lib.hid (EntBox.mods0 B0 ((Mods.refl (S := [])).alloc (.cells #[.int .u8 ((e.id.val : Nat) : Int), .int .u8 ((e.inst.val : Nat) : Int)] 23)))
  have HM1 := Lib.hid M1
  have e0 := B0.c0
  have e1 := B0.c1
  clear hv M0 O1 B0 M1
  go_enter Try.func67, Try.ntmps67
  go_wp2_with fail
  clear e0 e1
  generalize ((w.alloc (.cells e.cells.toArray 23)).alloc (.cells #[.int .u8 ((e.id.val : Nat) : Int), .int .u8 ((e.inst.val : Nat) : Int)] 23)) = w0 at HS0 HB1 HM1 ⊢
  go_loopw [5, 12] (fun u i wr => ∃ k : Nat, k ≤ l.length ∧ i = .int .i64 k ∧ WiRel w l e u wr k) (fun _ i _ => l.length - (intOf i).toNat)
  case atStart => exact ⟨0, Nat.zero_le _, rfl, HS0.out, HB1.out, HM1.out⟩
  clear HS0 HB1 HM1
  case round =>
    obtain ⟨k, hk, rfl, hO, hB, hM⟩ := hrel
    have i0 : (0 : Int) ≤ (k : Int) := by omega
    have HO := Lib.hid hO
    have HB := Lib.hid hB
    have HM := Lib.hid hM
    obtain ⟨gu, cpu, hu, -, -, -, -⟩ := hO.form (by unfold inL; simp)
    by_cases hlt : k < l.length
    · have i1 : (k : Int) < (l.length : Int) := by omega
      obtain ⟨bb, off, cap, hv2, _, _, hc⟩ := (HV.out.mods0 ascOk HM.out).asc (by omega)
      injection hv2 with hv3 _ hv4
      subst hv3 hv4
      obtain ⟨y0, y1, y2, y3⟩ := hc k hlt
      have HIS := Lib.hid (inL_succ (e := e) hlt)
      obtain ⟨x, hx⟩ : ∃ x, x = l.getD k default := ⟨_, rfl⟩
      rw [← hx] at y0 y1 y2 y3 HIS
      have hzw : w.heap.size < wr.heap.size := hB.lt
      subst hu
      clear hc hx hO hM hB
      go_wp2_with (refine wpList_store_row (cs := #[.int .u8 ((x.out.id.val : Nat) : Int), .int .u8 ((x.out.inst.val : Nat) : Int), .int .u8 ((x.inn.id.val : Nat) : Int), .int .u8 ((x.inn.inst.val : Nat) : Int)]) rfl 61 (.tmp 7) (.tmp 15) rfl (heap_alloc_new wr _) (by rfl) (by rfl) (by rfl) Try.sizeAsc (Asc.one x) ?_; intro w3 R3 M3; have HR3 := Lib.hid R3; have HF3 := Lib.hid (freshA M3); clear R3 M3)
      have HM3 := Lib.hid (HM.out.trans HF3.out)
      have HO3 := Lib.hid (HO.out.mods0 HF3.out)
      have hgu : wr.heap.size ∉ (Value.slice (some ⟨gu, 0, none⟩) (inL l e k).length cpu).ownBlock.toList := fun hm => by
        have := (HO.out.lt _ (by simpa using hm)).2
        omega
      have HGU := Lib.hid hgu
      clear hgu
      generalize hgg : wr.heap.size = g at HR3 HGU ⊢
      have HGG := Lib.hid hgg
      clear hgg
      refine heldStart (S := fun W => EntBox W w.heap.size e ∧ W.heap[g]? = some (.cells #[.int .u8 ((x.out.id.val : Nat) : Int), .int .u8 ((x.out.inst.val : Nat) : Int), .int .u8 ((x.inn.id.val : Nat) : Int), .int .u8 ((x.inn.inst.val : Nat) : Int)] 61 (0, 0))) 6 rfl (by kernel_rfl) ⟨HB.out.mods0 HF3.out.drew, HR3.out⟩ (fun hHeld => ?_)
      refine takeD (i := 0) (d := 16) (v := ?_) rfl rfl (by kernel_rfl) (by kernel_rfl) (by kernel_rfl) (fun _ _ _ h => h) (Or.inl ⟨by rfl, ?_⟩) hHeld ?_
      rotate_left 1
      · (intro w hSw; (try dsimp only at hSw); go_simp; (try with_reducible rfl))
      simp only [List.setIfInBounds_toArray, List.set_cons_zero, List.set_cons_succ]
      refine takeD (i := 1) (d := 17) (v := ?_) rfl rfl (by kernel_rfl) (by kernel_rfl) (by kernel_rfl) (fun _ _ _ h => h) (Or.inl ⟨by rfl, ?_⟩) hHeld ?_
      rotate_left 1
      · (intro w hSw; (try dsimp only at hSw); go_simp; (try with_reducible rfl))
      simp only [List.setIfInBounds_toArray, List.set_cons_zero, List.set_cons_succ]
      refine takeD (i := 2) (d := 18) (v := .agg #[.int .u8 ((x.inn.id.val : Nat) : Int), .int .u8 ((x.inn.inst.val : Nat) : Int)]) rfl rfl (by kernel_rfl) (by kernel_rfl) (by kernel_rfl) (fun _ _ _ h => h) (Or.inl ⟨by rfl, fun w hSw => ?_⟩) hHeld ?_
      · have c2 := (cell_blk hSw.2 2).trans (show _ = some (Value.int .u8 ((x.inn.id.val : Nat) : Int)) from rfl)
        have c3 := (cell_blk hSw.2 3).trans (show _ = some (Value.int .u8 ((x.inn.inst.val : Nat) : Int)) from rfl)
        go_simp
      simp only [List.setIfInBounds_toArray, List.set_cons_zero, List.set_cons_succ]
      refine takeD (i := 4) (d := 20) (v := .agg #[.int .u8 ((e.id.val : Nat) : Int), .int .u8 ((e.inst.val : Nat) : Int)]) rfl rfl (by kernel_rfl) (by kernel_rfl) (by kernel_rfl) (fun _ _ _ h => h) (yieldsIf_load_row rfl 23 (.tmp 3) rfl w.heap.size rfl 23 #[.int .u8 ((e.id.val : Nat) : Int), .int .u8 ((e.inst.val : Nat) : Int)] (0, 0) _ (fun _ h=>h.1) Try.underlying23 rfl Try.sizeEnt) hHeld ?_
      simp only [List.setIfInBounds_toArray, List.set_cons_zero, List.set_cons_succ]
      have HAR := Lib.hid (around_ok w3.drew l (by omega) x.inn _ (HV.out.mods0 ascOk HM3.out.drew))
      refine wpAnyH_ready (rs := [3]) (by kernel_rfl) (by simp) ?_
      refine AllReadyH.cons rfl (fun K hK => ?_) AllReadyH.nil
      go_simp
      go_wp2_with (refine HAR.out.mono ?_; rintro en w4 ⟨va, A, rfl, OA, HA, M4⟩)
      refine hK.out _ _ ?_ (fun hHeld => ?_)
      · exact ⟨hHeld.1.mods0 M4, M4.heap hHeld.2 (by simp)⟩
      clear hK K
      have HM4 := Lib.hid (HM3.out.drew.trans M4)
      have HO4 := Lib.hid ((HO3.out.mods0 Mods.refl.drew).mods0 M4)
      have HCO := Lib.hid (contains_ok w4 A e va (OA.rd entOk))
      rw [HA.ab] at HCO
      obtain ⟨r, hr⟩ : ∃ r, r = abv l x.inn e := ⟨_, rfl⟩
      rw [← hr] at HCO HIS
      clear hr M4 OA HA HAR
      refine wpAnyH_ready (rs := [5]) (by kernel_rfl) (by simp) ?_
      refine AllReadyH.cons rfl (fun K hK => ?_) AllReadyH.nil
      go_simp
      go_wp2_with (refine HCO.out.mono ?_; rintro en w5 ⟨rfl, M5⟩)
      refine hK.out _ _ ?_ (fun hHeld => ?_)
      · exact ⟨hHeld.1.mods0 M5, M5.heap hHeld.2 (by simp)⟩
      clear hK K
      have HM5 := Lib.hid (HM4.out.trans M5)
      have HO5 := Lib.hid (HO4.out.mods0 M5)
      clear M5 HCO
      refine wpAnyH_done (by kernel_rfl) ?_ _
      cases r with
      | false =>
        have HIE := Lib.hid (HIS.out.trans (if_neg (by simp)))
        go_wp2_with fail
        go_roundw
        case rel => exact ⟨k + 1, by omega, by go_num, by rw [HIE.out]; exact HO5.out, hHeld.1, HM5.out⟩
        case measure => simp [intOf]; omega
      | true =>
        have HIE := Lib.hid (HIS.out.trans (if_pos rfl))
        have c2 := (cell_blk hHeld.2 2).trans (show _ = some (Value.int .u8 ((x.inn.id.val : Nat) : Int)) from rfl)
        have c3 := (cell_blk hHeld.2 3).trans (show _ = some (Value.int .u8 ((x.inn.inst.val : Nat) : Int)) from rfl)
        have HLEN := Lib.hid (inL_len l e k)
        have hz5 : w.heap.size + 1 ≤ w5.heap.size := by have := hHeld.1.lt; omega
        have MA := (Mods.refl (S := []) (w := w5)).alloc (.cells x.inn.cells.toArray 23)
        have HAP := Lib.hid (show OwnE entE (w5.alloc (.cells x.inn.cells.toArray 23)) (w.heap.size + 1) _ _ ∧ RdE entE (w5.alloc (.cells x.inn.cells.toArray 23)) (.slice (some ⟨w5.heap.size, 0, none⟩) 1 1) [x.inn] ∧ Mods [] w (w5.alloc (.cells x.inn.cells.toArray 23)) ∧ EntBox (w5.alloc (.cells x.inn.cells.toArray 23)) w.heap.size e from ⟨HO5.out.mods0 MA, RdE.one (a := x.inn) (heap_alloc_new w5 _) rfl, HM5.out.trans MA, hHeld.1.mods0 MA⟩)
        have HSZ := Lib.hid hz5
        clear MA
        go_wp2_with (at_builtin; refine wpList_appE entOk (by rfl) (.tmp 22) (.tmp 25) rfl (by rfl) HAP.out.1 (by rfl) HAP.out.2.1 (by have := HLEN.out; simp; omega) (by have := HSZ.out; simp; omega) ?_; intro VB WB OB MB; have HST := Lib.hid (show WiRel w l e VB WB (k + 1) from ⟨by rw [HIE.out]; exact OB, HAP.out.2.2.2.mods MB (fun hm => by have := HAP.out.1.back hm; omega), HAP.out.2.2.1.comp MB (fun q hq => .inr (by have := HAP.out.1.back hq; omega))⟩); clear OB MB)
        go_roundw
        case rel => exact ⟨k + 1, by omega, by go_num, HST.out⟩
        case measure => simp [intOf]; omega
    · have i1 : ¬ (k : Int) < (l.length : Int) := by omega
      have hk2 : k = l.length := by omega
      have HLEN := Lib.hid (inL_len l e k)
      have HPOS := Lib.hid (show 0 < (inL l e k).length by unfold inL; simp)
      have HEQ := Lib.hid (show inL l e k = withinL l e by rw [hk2, inL_all])
      subst hu
      have HSO := Lib.hid (sortEnts_ok wr (w.heap.size + 1) gu cpu (inL l e k) HO.out HPOS.out (by have := HLEN.out; omega))
      have HOB := Lib.hid (fun q (hq : q ∈ (Value.slice (some ⟨gu, 0, none⟩) (inL l e k).length cpu).ownBlock.toList) => HO.out.back hq)
      clear hO hB hM hk2
      go_wp2_with fail
      refine HSO.out.mono ?_
      rintro en w2 ⟨rfl, L, HL, HLL, HP, HS, MS⟩
      have HLW := Lib.hid (sorted_is (l := l) (e := e) (by rw [← HEQ.out]; exact HP) HS)
      have HMF := Lib.hid (HM.out.comp MS (fun q hq => by simp at hq; subst hq; exact .inr (by have := HOB.out q (by simp [Value.ownBlock]); omega)))
      have HRL := Lib.hid HL
      clear HP HS HLL MS HL
      go_wp2_with fail
      go_ret
      exact ⟨_, rfl, by rw [← HLW.out]; exact HRL.out, HMF.out⟩
end Go.Proofs.Ytijjkonephjodaa

namespace Go.Proofs.Ytijjkonephjodaa
open Go.RowKit

theorem chk_len {l : List Asc} (h : chkE l = 0) : l.length ≤ 32 := by
  unfold chkE at h
  rcases Nat.lt_or_ge 32 l.length with h1 | h1
  · rw [if_pos h1] at h; cases h
  · exact h1
theorem chk_parts {l : List Asc} (h : chkE l = 0) : dupB l = false ∧ cycB l = false := by
  have h1 := chk_len h
  unfold chkE at h
  rw [if_neg (by omega)] at h
  split at h
  · cases h
  · rename_i h2
    split at h
    · cases h
    · rename_i h3
      exact ⟨by simpa using h2, by simpa using h3⟩
def wthR (l : List Asc) (e : Ent) : List Ent := if chkE l = 0 then wthL l e else []
def presR (l : List Asc) (ab : List Ent) (e : Ent) : Bool := if chkE l = 0 then presB l ab e else false
def WithinE (w : World) (l : List Asc) (e : Ent) (en : Ending) (w' : World) : Prop := ∃ v, en = .returned (.tuple #[v, .int .i64 (chkE l)]) ∧ RdE entE w' v (wthR l e) ∧ Mods [] w w'
set_option maxHeartbeats 1000000 in
theorem withinE_ok (w : World) (l : List Asc) (v : Value) (hv : RdE ascE w v l) (e : Ent) :
    Calls Try.prog 34 #[v, .agg e.cells.toArray] w fun en w' => WithinE w l e en w' := by
  obtain ⟨ad, cap, rfl⟩ := hv.len
  have M0 := (Mods.refl (S := []) (w := w)).alloc (.cells e.cells.toArray 23)
  have B0 := EntBox.new w e
  have HV := Lib.hid hv
  have HM := Lib.hid M0
  have HB := Lib.hid B0
  have HC := Lib.hid (check_ok _ l _ (hv.mods0 ascOk M0))
  have HR := Lib.hid (fun (u : Value) (w' : World) (h1 : RdE entE w' u (wthR l e)) (M : Mods [] w w') => show WithinE w l e (.returned (.tuple #[u, .int .i64 (chkE l)])) w' from ⟨u, rfl, h1, M⟩)
  clear hv M0 B0
  by_cases h : chkE l = 0
  · have hl := chk_len h
    have HW := Lib.hid (show wthR l e = wthL l e from if_pos h)
    rw [h] at HC HR
    clear h
    go_enter Try.func34, Try.ntmps34
    go_wp2_with fail
    refine HC.out.mono ?_
    rintro en w1 ⟨rfl, M1⟩
    have HM1 := Lib.hid (HM.out.trans M1)
    have e0 := (HB.out.mods0 M1).c0
    have e1 := (HB.out.mods0 M1).c1
    have HWI := Lib.hid (within_ok w1 l (by omega) _ (HV.out.mods0 ascOk HM1.out) e)
    clear M1
    go_wp2_with fail
    refine HWI.out.mono ?_
    rintro en w2 ⟨u, rfl, hu, M2⟩
    have HU := Lib.hid hu
    have HM2 := Lib.hid (HM1.out.trans M2)
    clear hu M2
    go_wp2_with fail
    go_ret2
    exact HR.out _ _ (by rw [HW.out]; exact HU.out) HM2.out
  · have HW := Lib.hid (show wthR l e = [] from if_neg h)
    generalize chkE l = c at HC HR h
    have hd : (c != 0) = true := by simpa using h
    clear h
    go_enter Try.func34, Try.ntmps34
    go_wp2_with fail
    refine HC.out.mono ?_
    rintro en w1 ⟨rfl, M1⟩
    have HM1 := Lib.hid (HM.out.trans M1)
    clear M1
    go_wp2_with fail
    go_ret2
    exact HR.out _ _ (by rw [HW.out]; exact RdE.nil _ _) HM1.out
def PresentE (w : World) (l : List Asc) (ab : List Ent) (e : Ent) (en : Ending) (w' : World) : Prop := en = .returned (.tuple #[.bool (presR l ab e), .int .i64 (chkE l)]) ∧ Mods [] w w'
set_option maxHeartbeats 1000000 in
theorem presentE_ok (w : World) (l : List Asc) (v : Value) (hv : RdE ascE w v l) (vab : Value) (ab : List Ent) (hab : RdE entE w vab ab) (e : Ent) :
    Calls Try.prog 39 #[v, vab, .agg e.cells.toArray] w fun en w' => PresentE w l ab e en w' := by
  obtain ⟨ad, cap, rfl⟩ := hv.len
  obtain ⟨ad2, cap2, rfl⟩ := hab.len
  have M0 := (Mods.refl (S := []) (w := w)).alloc (.cells e.cells.toArray 23)
  have B0 := EntBox.new w e
  have HV := Lib.hid hv
  have HAB := Lib.hid hab
  have HM := Lib.hid M0
  have HB := Lib.hid B0
  have HC := Lib.hid (check_ok _ l _ (hv.mods0 ascOk M0))
  have HR := Lib.hid (fun (w' : World) (M : Mods [] w w') => show PresentE w l ab e (.returned (.tuple #[.bool (presR l ab e), .int .i64 (chkE l)])) w' from ⟨rfl, M⟩)
  clear hv M0 B0 hab
  by_cases h : chkE l = 0
  · have hl := chk_len h
    have HW := Lib.hid (show presR l ab e = presB l ab e from if_pos h)
    rw [h, HW.out] at HR
    rw [h] at HC
    clear h
    go_enter Try.func39, Try.ntmps39
    go_wp2_with fail
    refine HC.out.mono ?_
    rintro en w1 ⟨rfl, M1⟩
    have HM1 := Lib.hid (HM.out.trans M1)
    have e0 := (HB.out.mods0 M1).c0
    have e1 := (HB.out.mods0 M1).c1
    have HWI := Lib.hid (presentIn_ok w1 l (by omega) _ (HV.out.mods0 ascOk HM1.out) _ ab (HAB.out.mods0 entOk HM1.out) e)
    clear M1
    go_wp2_with fail
    refine HWI.out.mono ?_
    rintro en w2 ⟨rfl, M2⟩
    have HM2 := Lib.hid (HM1.out.trans M2)
    clear M2
    go_wp2_with fail
    go_ret2
    exact HR.out _ HM2.out
  · have HW := Lib.hid (show presR l ab e = false from if_neg h)
    rw [HW.out] at HR
    generalize chkE l = c at HC HR h
    have hd : (c != 0) = true := by simpa using h
    clear h
    go_enter Try.func39, Try.ntmps39
    go_wp2_with fail
    refine HC.out.mono ?_
    rintro en w1 ⟨rfl, M1⟩
    have HM1 := Lib.hid (HM.out.trans M1)
    clear M1
    go_wp2_with fail
    go_ret2
    exact HR.out _ HM1.out
theorem pres_none {l : List Asc} {ab : List Ent} {e : Ent} {A : List Ent} (h : Arnd l e A) {k : Nat} (hk : k < (e :: A).length) (hm : (e :: A).getD k default ∈ ab) : presB l ab e = false := by
  cases hp : presB l ab e with
  | false => rfl
  | true =>
    have := (pres_arnd h).1 hp ((e :: A).getD k default) (by rw [List.getD_eq_getElem?_getD, List.getElem?_eq_getElem hk]; exact List.getElem_mem hk)
    exact absurd hm this
theorem pres_all {l : List Asc} {ab : List Ent} {e : Ent} {A : List Ent} (h : Arnd l e A) (hm : ∀ k, k < (e :: A).length → (e :: A).getD k default ∉ ab) : presB l ab e = true := by
  refine (pres_arnd h).2 fun x hx => ?_
  obtain ⟨k, hk, rfl⟩ := List.mem_iff_getElem.1 hx
  have := hm k hk
  rwa [List.getD_eq_getElem?_getD, List.getElem?_eq_getElem hk] at this
set_option maxRecDepth 100000 in
set_option maxHeartbeats 2000000 in
theorem there_ok (w : World) (l : List Asc) (hl : l.length ≤ 1000) (hc : cycB l = false) (v : Value) (hv : RdE ascE w v l) (vab : Value) (ab : List Ent) (hab : RdE entE w vab ab) (e : Ent) :
    Calls Try.prog 72 #[v, vab, .agg e.cells.toArray] w fun en w' => en = .returned (.bool (presB l ab e)) ∧ Mods [] w w' := by
  obtain ⟨ad, cap, rfl⟩ := hv.len
  obtain ⟨ad2, cap2, rfl⟩ := hab.len
  have M0 := (Mods.refl (S := []) (w := w)).alloc (.cells e.cells.toArray 23)
  have B0 := EntBox.new w e
  have HAB := Lib.hid hab
  have HM := Lib.hid M0
  have e0 := B0.c0
  have e1 := B0.c1
  have HA := Lib.hid (refAround_ok _ l hl hc e _ (hv.mods0 ascOk M0))
  clear hv M0 B0 hab hc
  go_enter Try.func72, Try.ntmps72
  go_wp2_with fail
  refine HA.out.mono ?_
  rintro en w1 ⟨u, A, rfl, OA, hA, M1⟩
  have HM1 := Lib.hid (HM.out.trans M1)
  have HRD := Lib.hid (OA.rd entOk)
  have HAR := Lib.hid hA
  obtain ⟨ad3, cap3, rfl⟩ := HRD.out.len
  have hcap := HRD.out.bound
  have hpos : 0 < (e :: A).length := by simp
  clear M1 OA hA e0 e1
  obtain ⟨N, hN⟩ : ∃ N, N = (e :: A).length := ⟨_, rfl⟩
  have HN := Lib.hid hN
  have HRN := Lib.hid (show RdE entE w1 (.slice ad3 N cap3) (e :: A) by rw [hN]; exact HRD.out)
  rw [← hN] at hcap hpos ⊢
  clear hN HRD
  go_wp2_with fail
  go_loopw [8] (fun i wr => ∃ k : Nat, k ≤ N ∧ i = .int .i64 k ∧ Mods [] w1 wr ∧ Hid (∀ j, j < k → (e :: A).getD j default ∉ ab)) (fun i _ => N - (intOf i).toNat)
  case atStart => exact ⟨0, Nat.zero_le _, rfl, Mods.refl, fun j hj => by omega⟩
  case round =>
    obtain ⟨k, hk, rfl, M, hNO⟩ := hrel
    have i0 : (0 : Int) ≤ (k : Int) := by omega
    have HMW := Lib.hid (HM1.out.trans M)
    have HM := Lib.hid M
    by_cases hlt : k < N
    · have i1 : (k : Int) < (N : Int) := by omega
      obtain ⟨bb, off, cap, hv2, _, _, hc⟩ := (HRN.out.mods0 entOk M).ent (by rw [← HN.out]; omega)
      injection hv2 with hv3 hlen hv4
      subst hv3 hv4
      clear hlen
      obtain ⟨y0, y1⟩ := hc k (by rw [← HN.out]; exact hlt)
      obtain ⟨x, hx⟩ : ∃ x, x = (e :: A).getD k default := ⟨_, rfl⟩
      rw [← hx] at y0 y1
      have HX := Lib.hid hx
      have HHS := Lib.hid (refHas_ok wr ab x _ (HAB.out.mods0 entOk HMW.out))
      obtain ⟨r, hr⟩ : ∃ r, r = decide (x ∈ ab) := ⟨_, rfl⟩
      rw [← hr] at HHS
      have HRR := Lib.hid hr
      clear hc hx hr M
      go_wp2_with fail
      refine HHS.out.mono ?_
      rintro en w2 ⟨rfl, M2⟩
      have HM2 := Lib.hid (HM.out.trans M2)
      clear M2
      cases r with
      | true =>
        have HP := Lib.hid (pres_none HAR.out (k := k) (by rw [← HN.out]; exact hlt) (by rw [← HX.out]; exact of_decide_eq_true HRR.out.symm))
        go_wp2_with fail
        go_ret
        exact ⟨ret_bool HP.out.symm, HM1.out.trans HM2.out⟩
      | false =>
        have HNO := Lib.hid (show ∀ j, j < k + 1 → (e :: A).getD j default ∉ ab from fun j hj => by
          rcases Nat.lt_or_ge j k with h | h
          · exact hNO.out j h
          · obtain rfl : j = k := by omega
            rw [← HX.out]
            exact of_decide_eq_false HRR.out.symm)
        go_wp2_with fail
        go_roundw
        case rel => exact ⟨k + 1, by omega, by go_num, HM2.out, HNO⟩
        case measure => simp [intOf]; omega
    · have i1 : ¬ (k : Int) < (N : Int) := by omega
      have hk2 : k = N := by omega
      have HP := Lib.hid (pres_all HAR.out (fun j hj => hNO.out j (by rw [hk2, HN.out]; exact hj)))
      clear M hk2
      go_wp2_with fail
      go_ret
      exact ⟨ret_bool HP.out.symm, HMW.out⟩
set_option maxHeartbeats 1000000 in
theorem refPresentE_ok (w : World) (l : List Asc) (v : Value) (hv : RdE ascE w v l) (vab : Value) (ab : List Ent) (hab : RdE entE w vab ab) (e : Ent) :
    Calls Try.prog 40 #[v, vab, .agg e.cells.toArray] w fun en w' => PresentE w l ab e en w' := by
  obtain ⟨ad, cap, rfl⟩ := hv.len
  obtain ⟨ad2, cap2, rfl⟩ := hab.len
  have M0 := (Mods.refl (S := []) (w := w)).alloc (.cells e.cells.toArray 23)
  have B0 := EntBox.new w e
  have HV := Lib.hid hv
  have HAB := Lib.hid hab
  have HM := Lib.hid M0
  have HB := Lib.hid B0
  have HC := Lib.hid (refCheck_ok _ l _ (hv.mods0 ascOk M0))
  have HR := Lib.hid (fun (w' : World) (M : Mods [] w w') => show PresentE w l ab e (.returned (.tuple #[.bool (presR l ab e), .int .i64 (chkE l)])) w' from ⟨rfl, M⟩)
  clear hv M0 B0 hab
  by_cases h : chkE l = 0
  · have hl := chk_len h
    have HCY := Lib.hid (chk_parts h).2
    have HW := Lib.hid (show presR l ab e = presB l ab e from if_pos h)
    rw [h, HW.out] at HR
    rw [h] at HC
    clear h
    go_enter Try.func40, Try.ntmps40
    go_wp2_with fail
    refine HC.out.mono ?_
    rintro en w1 ⟨rfl, M1⟩
    have HM1 := Lib.hid (HM.out.trans M1)
    have e0 := (HB.out.mods0 M1).c0
    have e1 := (HB.out.mods0 M1).c1
    have HWI := Lib.hid (there_ok w1 l (by omega) HCY.out _ (HV.out.mods0 ascOk HM1.out) _ ab (HAB.out.mods0 entOk HM1.out) e)
    clear M1
    go_wp2_with fail
    refine HWI.out.mono ?_
    rintro en w2 ⟨rfl, M2⟩
    have HM2 := Lib.hid (HM1.out.trans M2)
    clear M2
    go_wp2_with fail
    go_ret2
    exact HR.out _ HM2.out
  · have HW := Lib.hid (show presR l ab e = false from if_neg h)
    rw [HW.out] at HR
    generalize chkE l = c at HC HR h
    have hd : (c != 0) = true := by simpa using h
    clear h
    go_enter Try.func40, Try.ntmps40
    go_wp2_with fail
    refine HC.out.mono ?_
    rintro en w1 ⟨rfl, M1⟩
    have HM1 := Lib.hid (HM.out.trans M1)
    clear M1
    go_wp2_with fail
    go_ret2
    exact HR.out _ HM1.out
end Go.Proofs.Ytijjkonephjodaa
