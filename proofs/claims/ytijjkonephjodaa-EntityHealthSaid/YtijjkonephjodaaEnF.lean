/- Joined texts. The reference's Within: contract. | The health of an entity, equal lists of entities: contracts. -/
import Derived.Test.YtijjkonephjodaaEnE
namespace Go.Proofs.Ytijjkonephjodaa
open Go.RowKit

theorem ent_neq' (e x : Ent) (w : World) : (binOp .neq 23 (.agg #[.int .u8 ((e.id.val : Nat) : Int), .int .u8 ((e.inst.val : Nat) : Int)]) (.agg #[.int .u8 ((x.id.val : Nat) : Int), .int .u8 ((x.inst.val : Nat) : Int)])).run Try.prog w = .ok (.bool (!decide (e = x))) w := by
  have h := ent_eq' e x w
  rw [run_eql_struct] at h
  rw [run_neq_struct]
  revert h
  generalize (Op.equalIn 10000 23 (.agg #[.int .u8 ((e.id.val : Nat) : Int), .int .u8 ((e.inst.val : Nat) : Int)]) (.agg #[.int .u8 ((x.id.val : Nat) : Int), .int .u8 ((x.inst.val : Nat) : Int)])).run Try.prog w = r
  intro h
  cases r with
  | ok b w' =>
    simp only [Result.andThen_ok, Result.ok.injEq, Value.bool.injEq] at h ⊢
    obtain ⟨rfl, rfl⟩ := h
    exact ⟨rfl, rfl⟩
  | halt x w' => simp [Result.andThen] at h
def inR (l : List Asc) (e : Ent) (k : Nat) : List Ent := e :: ((l.take k).map (·.inn)).filter fun x => decide (x ≠ e) && abv l x e
theorem inR_succ {l : List Asc} {e : Ent} {k : Nat} (h : k < l.length) : inR l e (k + 1) = if (decide ((l.getD k default).inn ≠ e) && abv l (l.getD k default).inn e) = true then inR l e k ++ [(l.getD k default).inn] else inR l e k := by
  unfold inR
  rw [take_inn h, List.filter_append]
  generalize (l.getD k default).inn = y
  generalize hb : (decide (y ≠ e) && abv l y e) = b
  have : [y].filter (fun x => decide (x ≠ e) && abv l x e) = if b = true then [y] else [] := by
    rw [List.filter_cons, hb]
    rfl
  rw [this]
  cases b <;> simp
theorem inR_all {l : List Asc} {e : Ent} (hc : cycB l = false) : inR l e l.length = withinL l e := by unfold inR; rw [List.take_length, within_ref hc]
theorem inR_len (l : List Asc) (e : Ent) (k : Nat) : (inR l e k).length ≤ l.length + 1 := by
  unfold inR
  rw [List.length_cons]
  have := List.length_filter_le (fun x => decide (x ≠ e) && abv l x e) ((l.take k).map (·.inn))
  rw [List.length_map, List.length_take] at this
  omega
def isF (AL : List Ent) (k : Nat) : List Ent := (AL.take k).foldl (fun o a => insE a o) []
theorem isF_len (AL : List Ent) (k : Nat) : (isF AL k).length ≤ AL.length := by
  unfold isF
  have := (isort_gen (AL.take k) [] (by simp [srtE])).1.length_eq
  rw [List.append_nil, List.length_take] at this
  omega
theorem isF_succ {AL : List Ent} {k : Nat} (h : k < AL.length) : isF AL (k + 1) = insE (AL.getD k default) (isF AL k) := foldl_take_succ _ _ _ _ h _
theorem isF_all (AL : List Ent) : isF AL AL.length = isortE AL := by unfold isF isortE; rw [List.take_length]
def inQ (a : Ent) (O : List Ent) (j : Nat) : List Ent × Bool := (O.take j).foldl (insF a) ([], false)
theorem inQ_succ {a : Ent} {O : List Ent} {j : Nat} (h : j < O.length) : inQ a O (j + 1) = insF a (inQ a O j) (O.getD j default) := foldl_take_succ _ _ _ _ h _
theorem inQ_len (a : Ent) (O : List Ent) (j : Nat) : (inQ a O j).1.length ≤ 2 * O.length := by
  unfold inQ
  have := insF_len a (O.take j) ([], false)
  rw [List.length_take] at this
  simp at this
  omega
theorem inQ_all (a : Ent) (O : List Ent) : (if (inQ a O O.length).2 = true then (inQ a O O.length).1 else (inQ a O O.length).1 ++ [a]) = insE a O := by
  unfold inQ
  rw [List.take_length]
  have := insF_false a O []
  rwa [List.nil_append] at this
def InRel (wq : World) (a : Ent) (O : List Ent) (nx dn : Value) (wx : World) (j : Nat) : Prop := dn = .bool (inQ a O j).2 ∧ OwnE entE wx wq.heap.size nx (inQ a O j).1 ∧ Mods [] wq wx
def WrRel (w : World) (l : List Asc) (e : Ent) (u : Value) (wr : World) (k : Nat) : Prop := OwnE entE wr (w.heap.size + 1) u (inR l e k) ∧ EntBox wr w.heap.size e ∧ Mods [] w wr
set_option maxRecDepth 100000 in
set_option maxHeartbeats 8000000 in
theorem refWithinE_ok (w : World) (l : List Asc) (v : Value) (hv : RdE ascE w v l) (e : Ent) :
    Calls Try.prog 38 #[v, .agg e.cells.toArray] w fun en w' => WithinE w l e en w' := by
  obtain ⟨ad, cap, rfl⟩ := hv.len
  have M0 := (Mods.refl (S := []) (w := w)).alloc (.cells e.cells.toArray 23)
  have B0 := EntBox.new w e
  have HV := Lib.hid hv
  have HM := Lib.hid M0
  have HB := Lib.hid B0
  have HC := Lib.hid (refCheck_ok _ l _ (hv.mods0 ascOk M0))
  have HR := Lib.hid (fun (u : Value) (w' : World) (h1 : RdE entE w' u (wthR l e)) (M : Mods [] w w') => show WithinE w l e (.returned (.tuple #[u, .int .i64 (chkE l)])) w' from ⟨u, rfl, h1, M⟩)
  clear hv M0 B0
  by_cases h : chkE l = 0
  · have hl := chk_len h
    have HW := Lib.hid (show wthR l e = wthL l e from if_pos h)
    have HCY := Lib.hid (chk_parts h).2
    rw [h] at HC HR
    clear h
    go_enter Try.func38, Try.ntmps38
    go_wp2_with fail
    refine HC.out.mono ?_
    rintro en w1 ⟨rfl, M1⟩
    have HM1 := Lib.hid (HM.out.trans M1)
    have HB1 := Lib.hid (HB.out.mods0 M1)
    have e0 := HB1.out.c0
    have e1 := HB1.out.c1
    have hz1 : w.heap.size < w1.heap.size := HB1.out.lt
    have HST : Hid (WrRel w l e (.slice (some ⟨w1.heap.size, 0, none⟩) 1 1) (w1.alloc (.cells #[.int .u8 ((e.id.val : Nat) : Int), .int .u8 ((e.inst.val : Nat) : Int)] 23)) 0) := Lib.hid ⟨OwnE.lit entOk w1 (B := w.heap.size + 1) hz1 [e] (by unfold maxLen; simp), HB1.out.mods0 (Mods.refl.alloc _), HM1.out.alloc _⟩
    clear M1 HC HB
    go_wp2_with fail
    clear e0 e1
    generalize w1.alloc (.cells #[.int .u8 ((e.id.val : Nat) : Int), .int .u8 ((e.inst.val : Nat) : Int)] 23) = w2 at HST ⊢
    clear HB1 HM1 HM
    go_loopw [7, 8] (fun u i wr => ∃ k : Nat, k ≤ l.length ∧ i = .int .i64 k ∧ WrRel w l e u wr k) (fun _ i _ => l.length - (intOf i).toNat)
    case atStart => exact ⟨0, Nat.zero_le _, rfl, HST.out⟩
    clear HST
    case round =>
      obtain ⟨k, hk, rfl, hO, hB, hM⟩ := hrel
      have i0 : (0 : Int) ≤ (k : Int) := by omega
      have HO := Lib.hid hO
      have HB := Lib.hid hB
      have HM := Lib.hid hM
      obtain ⟨gu, cpu, hu, -, -, -, -⟩ := hO.form (by unfold inR; simp)
      subst hu
      have hzw : w.heap.size < wr.heap.size := hB.lt
      by_cases hlt : k < l.length
      · have i1 : (k : Int) < (l.length : Int) := by omega
        obtain ⟨bb, off, cap, hv2, _, _, hc⟩ := (HV.out.mods0 ascOk HM.out).asc (by omega)
        injection hv2 with hv3 hv5 hv4
        subst hv3 hv4
        clear hv5
        obtain ⟨-, -, y2, y3⟩ := hc k hlt
        have HIS := Lib.hid (inR_succ (e := e) hlt)
        obtain ⟨x, hx⟩ : ∃ x, x = (l.getD k default).inn := ⟨_, rfl⟩
        rw [← hx] at y2 y3 HIS
        have hE := fun w => ent_neq' x e w
        obtain ⟨r0, hr0⟩ : ∃ r, r = decide (x = e) := ⟨_, rfl⟩
        rw [← hr0] at hE
        have HR0 := Lib.hid hr0
        have HCC := Lib.hid (show ∀ W, Mods [] wr W → W.cell? ⟨bb, off + k * 4 + 2, none⟩ = some (.int .u8 ((x.id.val : Nat) : Int)) ∧ W.cell? ⟨bb, off + k * 4 + 3, none⟩ = some (.int .u8 ((x.inst.val : Nat) : Int)) from fun W MW => ⟨MW.cell y2 (by simp), MW.cell y3 (by simp)⟩)
        have b0 := hB.c0
        have b1 := hB.c1
        clear hc hx hr0 hO hM hB
        cases r0 with
        | true =>
          have HIE := Lib.hid (HIS.out.trans (if_neg (by rw [of_decide_eq_true HR0.out.symm]; simp)))
          go_wp2_with fail
          go_quiet (fail)
          go_wp2_with fail
          go_roundw
          case rel => exact ⟨k + 1, by omega, by go_num, by rw [HIE.out]; exact HO.out.mods0 (Mods.refl.drewN nq), HB.out.mods0 (Mods.refl.drewN nq), HM.out.drewN nq⟩
          case measure => simp [intOf]; omega
        | false =>
          clear y2 y3 b0 b1
          go_wp2_with fail
          refine heldStart (S := fun W => Mods [] wr W) 18 rfl (by kernel_rfl) Mods.refl.drew (fun hHeld => ?_)
          refine takeD (i := 0) (d := 27) (v := ?_) rfl rfl (by kernel_rfl) (by kernel_rfl) (by kernel_rfl) (fun _ _ _ h => h) (Or.inl ⟨by rfl, ?_⟩) hHeld ?_
          rotate_left 1
          · (intro w hSw; (try dsimp only at hSw); go_simp; (try with_reducible rfl))
          simp only [List.setIfInBounds_toArray, List.set_cons_zero, List.set_cons_succ]
          refine takeD (i := 1) (d := 28) (v := ?_) rfl rfl (by kernel_rfl) (by kernel_rfl) (by kernel_rfl) (fun _ _ _ h => h) (Or.inl ⟨by rfl, ?_⟩) hHeld ?_
          rotate_left 1
          · (intro w hSw; (try dsimp only at hSw); go_simp; (try with_reducible rfl))
          simp only [List.setIfInBounds_toArray, List.set_cons_zero, List.set_cons_succ]
          refine takeD (i := 2) (d := 29) (v := ?_) rfl rfl (by kernel_rfl) (by kernel_rfl) (by kernel_rfl) (fun _ _ _ h => h) (Or.inl ⟨by rfl, ?_⟩) hHeld ?_
          rotate_left 1
          · (intro w hSw; (try dsimp only at hSw); go_simp; (try with_reducible rfl))
          simp only [List.setIfInBounds_toArray, List.set_cons_zero, List.set_cons_succ]
          refine takeD (i := 3) (d := 30) (v := ?_) rfl rfl (by kernel_rfl) (by kernel_rfl) (by kernel_rfl) (fun _ _ _ h => h) (Or.inl ⟨by rfl, ?_⟩) hHeld ?_
          rotate_left 1
          · (intro w hSw; (try dsimp only at hSw); go_simp; (try with_reducible rfl))
          simp only [List.setIfInBounds_toArray, List.set_cons_zero, List.set_cons_succ]
          refine takeD (i := 4) (d := 31) (v := .agg #[.int .u8 ((x.id.val : Nat) : Int), .int .u8 ((x.inst.val : Nat) : Int)]) rfl rfl (by kernel_rfl) (by kernel_rfl) (by kernel_rfl) (fun _ _ _ h => h) (Or.inl ⟨by rfl, fun w hSw => ?_⟩) hHeld ?_
          · have ⟨c2, c3⟩ := HCC.out _ hSw
            go_simp
          simp only [List.setIfInBounds_toArray, List.set_cons_zero, List.set_cons_succ]
          refine takeD (i := 5) (d := 32) (v := .agg #[.int .u8 ((e.id.val : Nat) : Int), .int .u8 ((e.inst.val : Nat) : Int)]) rfl rfl (by kernel_rfl) (by kernel_rfl) (by kernel_rfl) (fun _ _ _ h => h) (Or.inl ⟨by rfl, fun w hSw => ?_⟩) hHeld ?_
          · have c2 := (HB.out.mods0 hSw).c0
            have c3 := (HB.out.mods0 hSw).c1
            go_simp
          simp only [List.setIfInBounds_toArray, List.set_cons_zero, List.set_cons_succ]
          refine takeD (i := 6) (d := 33) (v := ?_) rfl rfl (by kernel_rfl) (by kernel_rfl) (by kernel_rfl) (fun _ _ _ h => h) (Or.inl ⟨by rfl, ?_⟩) hHeld ?_
          rotate_left 1
          · (intro w hSw; (try dsimp only at hSw); go_simp; (try with_reducible rfl))
          simp only [List.setIfInBounds_toArray, List.set_cons_zero, List.set_cons_succ]
          refine takeD (i := 7) (d := 34) (v := ?_) rfl rfl (by kernel_rfl) (by kernel_rfl) (by kernel_rfl) (fun _ _ _ h => h) (Or.inl ⟨by rfl, ?_⟩) hHeld ?_
          rotate_left 1
          · (intro w hSw; (try dsimp only at hSw); go_simp; (try with_reducible rfl))
          simp only [List.setIfInBounds_toArray, List.set_cons_zero, List.set_cons_succ]
          refine takeD (i := 8) (d := 35) (v := ?_) rfl rfl (by kernel_rfl) (by kernel_rfl) (by kernel_rfl) (fun _ _ _ h => h) (Or.inl ⟨by rfl, ?_⟩) hHeld ?_
          rotate_left 1
          · (intro w hSw; (try dsimp only at hSw); go_simp; (try with_reducible rfl))
          simp only [List.setIfInBounds_toArray, List.set_cons_zero, List.set_cons_succ]
          refine takeD (i := 9) (d := 36) (v := ?_) rfl rfl (by kernel_rfl) (by kernel_rfl) (by kernel_rfl) (fun _ _ _ h => h) (Or.inl ⟨by rfl, ?_⟩) hHeld ?_
          rotate_left 1
          · (intro w hSw; (try dsimp only at hSw); go_simp; (try with_reducible rfl))
          simp only [List.setIfInBounds_toArray, List.set_cons_zero, List.set_cons_succ]
          refine takeD (i := 10) (d := 37) (v := ?_) rfl rfl (by kernel_rfl) (by kernel_rfl) (by kernel_rfl) (fun _ _ _ h => h) (Or.inl ⟨by rfl, ?_⟩) hHeld ?_
          rotate_left 1
          · (intro w hSw; (try dsimp only at hSw); go_simp; (try with_reducible rfl))
          simp only [List.setIfInBounds_toArray, List.set_cons_zero, List.set_cons_succ]
          refine takeD (i := 11) (d := 38) (v := ?_) rfl rfl (by kernel_rfl) (by kernel_rfl) (by kernel_rfl) (fun _ _ _ h => h) (Or.inl ⟨by rfl, ?_⟩) hHeld ?_
          rotate_left 1
          · (intro w hSw; (try dsimp only at hSw); go_simp; (try with_reducible rfl))
          simp only [List.setIfInBounds_toArray, List.set_cons_zero, List.set_cons_succ]
          refine takeD (i := 12) (d := 39) (v := ?_) rfl rfl (by kernel_rfl) (by kernel_rfl) (by kernel_rfl) (fun _ _ _ h => h) (Or.inl ⟨by rfl, ?_⟩) hHeld ?_
          rotate_left 1
          · (intro w hSw; (try dsimp only at hSw); go_simp; (try with_reducible rfl))
          simp only [List.setIfInBounds_toArray, List.set_cons_zero, List.set_cons_succ]
          refine takeD (i := 13) (d := 40) (v := .agg #[.int .u8 ((x.id.val : Nat) : Int), .int .u8 ((x.inst.val : Nat) : Int)]) rfl rfl (by kernel_rfl) (by kernel_rfl) (by kernel_rfl) (fun _ _ _ h => h) (Or.inl ⟨by rfl, fun w hSw => ?_⟩) hHeld ?_
          · have ⟨c2, c3⟩ := HCC.out _ hSw
            go_simp
          simp only [List.setIfInBounds_toArray, List.set_cons_zero, List.set_cons_succ]
          refine takeD (i := 15) (d := 42) (v := .agg #[.int .u8 ((e.id.val : Nat) : Int), .int .u8 ((e.inst.val : Nat) : Int)]) rfl rfl (by kernel_rfl) (by kernel_rfl) (by kernel_rfl) (fun _ _ _ h => h) (Or.inl ⟨by rfl, fun w hSw => ?_⟩) hHeld ?_
          · have c2 := (HB.out.mods0 hSw).c0
            have c3 := (HB.out.mods0 hSw).c1
            go_simp
          simp only [List.setIfInBounds_toArray, List.set_cons_zero, List.set_cons_succ]
          have HAR := Lib.hid (refAround_ok wr.drew l (by omega) HCY.out x _ (HV.out.mods0 ascOk (HM.out.trans hHeld)))
          refine wpAnyH_ready (rs := [14]) (by kernel_rfl) (by simp) ?_
          refine AllReadyH.cons rfl (fun K hK => ?_) AllReadyH.nil
          go_simp
          go_wp2_with (refine HAR.out.mono ?_; rintro en w4 ⟨va, A, rfl, OA, HA, M4⟩)
          refine hK.out _ _ ?_ (fun hHeld => ?_)
          · exact (show Mods [] wr wr.drew from Mods.refl.drew).trans M4
          clear hK K
          have HHS := Lib.hid (refHas_ok w4 (x :: A) e va (OA.rd entOk))
          obtain ⟨r, hr⟩ : ∃ r, r = decide (e ∈ x :: A) := ⟨_, rfl⟩
          rw [← hr] at HHS
          have HRR := Lib.hid (show (decide (x ≠ e) && abv l x e) = r by
            rw [hr, ← HA.ab e]
            have hne := of_decide_eq_false HR0.out.symm
            have hne2 : e ≠ x := fun h => hne h.symm
            simp [hne, hne2])
          clear hr OA HA HAR M4
          have HM4 := Lib.hid hHeld
          refine wpAnyH_ready (rs := [16]) (by kernel_rfl) (by simp) ?_
          refine AllReadyH.cons rfl (fun K hK => ?_) AllReadyH.nil
          go_simp
          go_wp2_with (refine HHS.out.mono ?_; rintro en w5 ⟨rfl, M5⟩)
          refine hK.out _ _ ?_ (fun hHeld => ?_)
          · exact HM4.out.trans M5
          clear hK K
          refine takeD (i := 17) (d := 44) (v := ?_) rfl rfl (by kernel_rfl) (by kernel_rfl) (by kernel_rfl) (fun _ _ _ h => h) (Or.inl ⟨by rfl, ?_⟩) hHeld ?_
          rotate_left 1
          · (intro w hSw; (try dsimp only at hSw); go_simp; (try with_reducible rfl))
          simp only [List.setIfInBounds_toArray, List.set_cons_zero, List.set_cons_succ]
          refine wpAnyH_done (by kernel_rfl) ?_ _
          have HM5 := Lib.hid (show Mods [] wr w5 from hHeld)
          clear HM4 hHeld HHS
          rw [HRR.out] at HIS
          cases r with
          | false =>
            have HIE := Lib.hid (HIS.out.trans (if_neg (by simp)))
            go_wp2_with fail
            go_roundw
            case rel => exact ⟨k + 1, by omega, by go_num, by rw [HIE.out]; exact HO.out.mods0 HM5.out, HB.out.mods0 HM5.out, HM.out.trans HM5.out⟩
            case measure => simp [intOf]; omega
          | true =>
            have HIE := Lib.hid (HIS.out.trans (if_pos rfl))
            have ⟨c2, c3⟩ := HCC.out _ HM5.out
            have HLEN := Lib.hid (inR_len l e k)
            have hz5 : w.heap.size + 1 ≤ w5.heap.size := Nat.le_trans hzw HM5.out.size
            have MA := (Mods.refl (S := []) (w := w5)).alloc (.cells x.cells.toArray 23)
            have HAP := Lib.hid (show OwnE entE (w5.alloc (.cells x.cells.toArray 23)) (w.heap.size + 1) _ _ ∧ RdE entE (w5.alloc (.cells x.cells.toArray 23)) (.slice (some ⟨w5.heap.size, 0, none⟩) 1 1) [x] ∧ Mods [] w (w5.alloc (.cells x.cells.toArray 23)) ∧ EntBox (w5.alloc (.cells x.cells.toArray 23)) w.heap.size e from ⟨(HO.out.mods0 HM5.out).mods0 MA, RdE.one (a := x) (heap_alloc_new w5 _) rfl, (HM.out.trans HM5.out).trans MA, (HB.out.mods0 HM5.out).mods0 MA⟩)
            have HSZ := Lib.hid hz5
            clear MA
            go_wp2_with (at_builtin; refine wpList_appE entOk (by rfl) (.tmp 45) (.tmp 51) rfl (by rfl) HAP.out.1 (by rfl) HAP.out.2.1 (by have := HLEN.out; simp; omega) (by have := HSZ.out; simp; omega) ?_; intro VB WB OB MB; have HST := Lib.hid (show WrRel w l e VB WB (k + 1) from ⟨by rw [HIE.out]; exact OB, HAP.out.2.2.2.mods MB (fun hm => by have := HAP.out.1.back hm; omega), HAP.out.2.2.1.comp MB (fun q hq => .inr (by have := HAP.out.1.back hq; omega))⟩); clear OB MB)
            go_roundw
            case rel => exact ⟨k + 1, by omega, by go_num, HST.out⟩
            case measure => simp [intOf]; omega
      · have i1 : ¬ (k : Int) < (l.length : Int) := by omega
        have hk2 : k = l.length := by omega
        obtain ⟨AL, hAL⟩ : ∃ AL, AL = inR l e k := ⟨_, rfl⟩
        have HALW := Lib.hid (show AL = withinL l e by rw [hAL, hk2, inR_all HCY.out])
        have HLEN := Lib.hid (show AL.length ≤ 33 by rw [hAL]; have := inR_len l e k; omega)
        have HRA := Lib.hid (show RdE entE wr (.slice (some ⟨gu, 0, none⟩) AL.length cpu) AL by rw [hAL]; exact HO.out.rd entOk)
        rw [← hAL]
        have hNle := HLEN.out
        clear hAL hk2 hO hB hM HO HB
        obtain ⟨N, hN⟩ : ∃ N, N = AL.length := ⟨_, rfl⟩
        have HN := Lib.hid hN
        rw [← hN] at HRA hNle ⊢
        clear hN
        go_wp2_with fail
        have HRR := Lib.hid (fun (W : World) (h : Mods [] wr W) (i : Nat) (hi : i < N) => show W.cell? ⟨gu, i * 2, none⟩ = some (.int .u8 (((AL.getD i default).id.val : Nat) : Int)) ∧ W.cell? ⟨gu, i * 2 + 1, none⟩ = some (.int .u8 (((AL.getD i default).inst.val : Nat) : Int)) from by
          have hR2 := HRA.out
          rw [HN.out] at hR2
          obtain ⟨bb, off, cap, hv2, _, _, hc⟩ := (hR2.mods0 entOk h).ent (by rw [← HN.out]; omega)
          injection hv2 with hv3 _ _
          injection hv3 with hv3
          injection hv3 with hv3 hv4
          subst hv3 hv4
          have := hc i (by rw [← HN.out]; exact hi)
          rwa [Nat.zero_add] at this)
        clear i1 hlt i0 hk hzw
        generalize wr = w3 at HM HRA HRR ⊢
        go_loopw [9, 10] (fun u i wq => ∃ k : Nat, k ≤ N ∧ i = .int .i64 k ∧ RdE entE wq u (isF AL k) ∧ Mods [] w3 wq) (fun _ i _ => N - (intOf i).toNat)
        case atStart => exact ⟨0, Nat.zero_le _, rfl, RdE.nil _ _, Mods.refl⟩
        case round =>
          obtain ⟨i, hi, rfl, hU, hM⟩ := hrel
          have n0 : (0 : Int) ≤ (i : Int) := by omega
          have HMR := Lib.hid hM
          by_cases hlt : i < N
          · have n1 : (i : Int) < (N : Int) := by omega
            obtain ⟨O, hO⟩ : ∃ O, O = isF AL i := ⟨_, rfl⟩
            rw [← hO] at hU
            have HOE := Lib.hid hO
            have hOL : O.length ≤ 33 := by rw [hO]; have := isF_len AL i; rw [← HN.out] at this; omega
            obtain ⟨au, cu, hu⟩ := hU.len
            subst hu
            have HU := Lib.hid hU
            have HA := Lib.hid (fun W (h : Mods [] wr W) => HRR.out W (HMR.out.trans h) i hlt)
            have HSU := Lib.hid (isF_succ (AL := AL) (k := i) (by rw [← HN.out]; exact hlt))
            obtain ⟨a, ha⟩ : ∃ a, a = AL.getD i default := ⟨_, rfl⟩
            rw [← ha] at HA HSU
            rw [← hO] at HSU
            clear hU hM hO ha
            go_wp2_with fail
            generalize wr = wq at HMR HU HA ⊢
            go_loopw [11, 12, 13] (fun nx dn j wx => ∃ j0 : Nat, j0 ≤ O.length ∧ j = .int .i64 j0 ∧ InRel wq a O nx dn wx j0) (fun _ _ j _ => O.length - (intOf j).toNat)
            case atStart => exact ⟨0, Nat.zero_le _, rfl, rfl, OwnE.nil _ _ _, Mods.refl⟩
            case round =>
              obtain ⟨j, hj, rfl, rfl, hX, hM⟩ := hrel
              have j0 : (0 : Int) ≤ (j : Int) := by omega
              have HX := Lib.hid hX
              have HM := Lib.hid hM
              have HQL := Lib.hid (inQ_len a O j)
              obtain ⟨ax, cx, hx⟩ := (hX.rd entOk).len
              have hzq : wq.heap.size ≤ wr.heap.size := hM.size
              have HZ := Lib.hid hzq
              clear hX hM hzq
              by_cases hjl : j < O.length
              · have j1 : (j : Int) < (O.length : Int) := by omega
                have HQS := Lib.hid (inQ_succ (a := a) hjl)
                obtain ⟨bu, ou, cu', hv2, _, _, hc⟩ := (HU.out).ent (by omega)
                injection hv2 with hv3 hv5 hv4
                subst hv3 hv4
                clear hv5
                have HB := Lib.hid (fun W (h : Mods [] wq W) => show W.cell? ⟨bu, ou + j * 2, none⟩ = some (.int .u8 (((O.getD j default).id.val : Nat) : Int)) ∧ W.cell? ⟨bu, ou + j * 2 + 1, none⟩ = some (.int .u8 (((O.getD j default).inst.val : Nat) : Int)) from ⟨h.cell (hc j hjl).1 (by simp), h.cell (hc j hjl).2 (by simp)⟩)
                obtain ⟨b, hb⟩ : ∃ b, b = O.getD j default := ⟨_, rfl⟩
                rw [← hb] at HB HQS
                clear hc hb
                obtain ⟨ql, qd, hq⟩ : ∃ ql qd, inQ a O j = (ql, qd) := ⟨_, _, rfl⟩
                rw [hq] at HX HQL HQS hx ⊢
                clear hq
                simp only at HX HQL HQS hx ⊢
                subst hx
                cases qd with
                | true =>
                  have HQE := Lib.hid (show inQ a O (j + 1) = (ql ++ [b], true) by rw [HQS.out]; simp [insF])
                  have HAP : Hid (∀ W, Mods [] wr W → OwnE entE (W.alloc (.cells b.cells.toArray 23)) wq.heap.size _ ql ∧ RdE entE (W.alloc (.cells b.cells.toArray 23)) (.slice (some ⟨W.heap.size, 0, none⟩) 1 1) [b] ∧ Mods [] wq (W.alloc (.cells b.cells.toArray 23)) ∧ wq.heap.size ≤ W.heap.size) := Lib.hid (fun W MW => by
                    have MA := (Mods.refl (S := []) (w := W)).alloc (.cells b.cells.toArray 23)
                    exact ⟨(HX.out.mods0 MW).mods0 MA, RdE.one (a := b) (heap_alloc_new W _) rfl, (HM.out.trans MW).trans MA, Nat.le_trans HZ.out MW.size⟩)
                  go_wp2_with fail
                  go_quiet (fail)
                  have HMQ := Lib.hid ((Mods.refl (S := []) (w := wr)).drewN nq)
                  generalize wr.drewN nq = w4 at HMQ ⊢
                  have ⟨c2, c3⟩ := HB.out _ (HM.out.trans HMQ.out)
                  have HP := Lib.hid (HAP.out _ HMQ.out)
                  go_wp2_with (at_builtin; refine wpList_appE entOk (by rfl) (.tmp 85) (.tmp 90) rfl (by rfl) HP.out.1 (by rfl) HP.out.2.1 (by have := HQL.out; simp; omega) (by have := HP.out.2.2.2; simp; omega) ?_; intro VB WB OB MB; have HST := Lib.hid (show InRel wq a O VB (.bool true) WB (j + 1) from ⟨by rw [HQE.out], by rw [HQE.out]; exact OB, HP.out.2.2.1.comp MB (fun q hq => .inr (HP.out.1.back hq))⟩); clear OB MB)
                  go_roundw
                  case rel => exact ⟨j + 1, by omega, by go_num, HST.out⟩
                  case measure => simp [intOf]; omega
                | false =>
                  go_wp2_with fail
                  refine heldStart (S := fun W => Mods [] wr W) 13 rfl (by kernel_rfl) Mods.refl.drew (fun hHeld => ?_)
                  refine takeD (i := 0) (d := 65) (v := ?_) rfl rfl (by kernel_rfl) (by kernel_rfl) (by kernel_rfl) (fun _ _ _ h => h) (Or.inl ⟨by rfl, ?_⟩) hHeld ?_
                  rotate_left 1
                  · (intro w hSw; (try dsimp only at hSw); go_simp; (try with_reducible rfl))
                  simp only [List.setIfInBounds_toArray, List.set_cons_zero, List.set_cons_succ]
                  refine takeD (i := 1) (d := 66) (v := ?_) rfl rfl (by kernel_rfl) (by kernel_rfl) (by kernel_rfl) (fun _ _ _ h => h) (Or.inl ⟨by rfl, ?_⟩) hHeld ?_
                  rotate_left 1
                  · (intro w hSw; (try dsimp only at hSw); go_simp; (try with_reducible rfl))
                  simp only [List.setIfInBounds_toArray, List.set_cons_zero, List.set_cons_succ]
                  refine takeD (i := 2) (d := 67) (v := ?_) rfl rfl (by kernel_rfl) (by kernel_rfl) (by kernel_rfl) (fun _ _ _ h => h) (Or.inl ⟨by rfl, ?_⟩) hHeld ?_
                  rotate_left 1
                  · (intro w hSw; (try dsimp only at hSw); go_simp; (try with_reducible rfl))
                  simp only [List.setIfInBounds_toArray, List.set_cons_zero, List.set_cons_succ]
                  refine takeD (i := 3) (d := 68) (v := ?_) rfl rfl (by kernel_rfl) (by kernel_rfl) (by kernel_rfl) (fun _ _ _ h => h) (Or.inl ⟨by rfl, ?_⟩) hHeld ?_
                  rotate_left 1
                  · (intro w hSw; (try dsimp only at hSw); go_simp; (try with_reducible rfl))
                  simp only [List.setIfInBounds_toArray, List.set_cons_zero, List.set_cons_succ]
                  refine takeD (i := 4) (d := 69) (v := ?_) rfl rfl (by kernel_rfl) (by kernel_rfl) (by kernel_rfl) (fun _ _ _ h => h) (Or.inl ⟨by rfl, ?_⟩) hHeld ?_
                  rotate_left 1
                  · (intro w hSw; (try dsimp only at hSw); go_simp; (try with_reducible rfl))
                  simp only [List.setIfInBounds_toArray, List.set_cons_zero, List.set_cons_succ]
                  refine takeD (i := 5) (d := 70) (v := ?_) rfl rfl (by kernel_rfl) (by kernel_rfl) (by kernel_rfl) (fun _ _ _ h => h) (Or.inl ⟨by rfl, ?_⟩) hHeld ?_
                  rotate_left 1
                  · (intro w hSw; (try dsimp only at hSw); go_simp; (try with_reducible rfl))
                  simp only [List.setIfInBounds_toArray, List.set_cons_zero, List.set_cons_succ]
                  refine takeD (i := 6) (d := 71) (v := .agg #[.int .u8 ((a.id.val : Nat) : Int), .int .u8 ((a.inst.val : Nat) : Int)]) rfl rfl (by kernel_rfl) (by kernel_rfl) (by kernel_rfl) (fun _ _ _ h => h) (Or.inl ⟨by rfl, fun w hSw => ?_⟩) hHeld ?_
                  · have ⟨c2, c3⟩ := HA.out _ (HM.out.trans hSw)
                    go_simp
                  simp only [List.setIfInBounds_toArray, List.set_cons_zero, List.set_cons_succ]
                  refine takeD (i := 7) (d := 72) (v := ?_) rfl rfl (by kernel_rfl) (by kernel_rfl) (by kernel_rfl) (fun _ _ _ h => h) (Or.inl ⟨by rfl, ?_⟩) hHeld ?_
                  rotate_left 1
                  · (intro w hSw; (try dsimp only at hSw); go_simp; (try with_reducible rfl))
                  simp only [List.setIfInBounds_toArray, List.set_cons_zero, List.set_cons_succ]
                  refine takeD (i := 8) (d := 73) (v := ?_) rfl rfl (by kernel_rfl) (by kernel_rfl) (by kernel_rfl) (fun _ _ _ h => h) (Or.inl ⟨by rfl, ?_⟩) hHeld ?_
                  rotate_left 1
                  · (intro w hSw; (try dsimp only at hSw); go_simp; (try with_reducible rfl))
                  simp only [List.setIfInBounds_toArray, List.set_cons_zero, List.set_cons_succ]
                  refine takeD (i := 9) (d := 74) (v := ?_) rfl rfl (by kernel_rfl) (by kernel_rfl) (by kernel_rfl) (fun _ _ _ h => h) (Or.inl ⟨by rfl, ?_⟩) hHeld ?_
                  rotate_left 1
                  · (intro w hSw; (try dsimp only at hSw); go_simp; (try with_reducible rfl))
                  simp only [List.setIfInBounds_toArray, List.set_cons_zero, List.set_cons_succ]
                  refine takeD (i := 10) (d := 75) (v := .agg #[.int .u8 ((b.id.val : Nat) : Int), .int .u8 ((b.inst.val : Nat) : Int)]) rfl rfl (by kernel_rfl) (by kernel_rfl) (by kernel_rfl) (fun _ _ _ h => h) (Or.inl ⟨by rfl, fun w hSw => ?_⟩) hHeld ?_
                  · have ⟨c2, c3⟩ := HB.out _ (HM.out.trans hSw)
                    go_simp
                  simp only [List.setIfInBounds_toArray, List.set_cons_zero, List.set_cons_succ]
                  have HLS := Lib.hid (entLess_ok wr.drew a b)
                  obtain ⟨r, hr⟩ : ∃ r, r = decide (ltE a b) := ⟨_, rfl⟩
                  rw [← hr] at HLS
                  have HRD := Lib.hid hr
                  clear hr
                  refine wpAnyH_ready (rs := [11]) (by kernel_rfl) (by simp) ?_
                  refine AllReadyH.cons rfl (fun K hK => ?_) AllReadyH.nil
                  go_simp
                  go_wp2_with (refine HLS.out.mono ?_; rintro en w4 ⟨rfl, M4⟩)
                  refine hK.out _ _ ?_ (fun hHeld => ?_)
                  · exact (show Mods [] wr wr.drew from Mods.refl.drew).trans M4
                  clear hK K
                  clear M4 HLS
                  refine takeD (i := 12) (d := 77) (v := ?_) rfl rfl (by kernel_rfl) (by kernel_rfl) (by kernel_rfl) (fun _ _ _ h => h) (Or.inl ⟨by rfl, ?_⟩) hHeld ?_
                  rotate_left 1
                  · (intro w hSw; (try dsimp only at hSw); go_simp; (try with_reducible rfl))
                  simp only [List.setIfInBounds_toArray, List.set_cons_zero, List.set_cons_succ]
                  refine wpAnyH_done (by kernel_rfl) ?_ _
                  have HMQ := Lib.hid (show Mods [] wr w4 from hHeld)
                  clear hHeld
                  have HOQ := Lib.hid (HX.out.mods0 HMQ.out)
                  have HMW := Lib.hid (HM.out.trans HMQ.out)
                  have hz4 : wq.heap.size ≤ w4.heap.size := HMW.out.size
                  have HZ4 := Lib.hid hz4
                  clear hz4
                  cases r with
                  | true =>
                    have HQE := Lib.hid (show inQ a O (j + 1) = (ql ++ [a] ++ [b], true) by rw [HQS.out]; simp [insF, of_decide_eq_true HRD.out.symm])
                    have HAP : Hid (∀ (W : World) (c : Ent) (u : Value) (L : List Ent), OwnE entE W wq.heap.size u L → Mods [] wq W → OwnE entE (W.alloc (.cells c.cells.toArray 23)) wq.heap.size u L ∧ RdE entE (W.alloc (.cells c.cells.toArray 23)) (.slice (some ⟨W.heap.size, 0, none⟩) 1 1) [c] ∧ Mods [] wq (W.alloc (.cells c.cells.toArray 23)) ∧ wq.heap.size ≤ W.heap.size) := Lib.hid (fun W c u L hO hM => by
                      have MA := (Mods.refl (S := []) (w := W)).alloc (.cells c.cells.toArray 23)
                      exact ⟨hO.mods0 MA, RdE.one (a := c) (heap_alloc_new W _) rfl, hM.trans MA, hM.size⟩)
                    have ⟨c2, c3⟩ := HA.out _ HMW.out
                    have HP := Lib.hid (HAP.out w4 a _ _ HOQ.out HMW.out)
                    go_wp2_with (first
                      | (at_builtin; refine wpList_appE entOk (by rfl) (.tmp 78) (.tmp 83) rfl (by rfl) HP.out.1 (by rfl) HP.out.2.1 (by have := HQL.out; simp; omega) (by have := HP.out.2.2.2; simp; omega) ?_; intro VB WB OB MB; have HMB := Lib.hid (HP.out.2.2.1.comp MB (fun q hq => .inr (HP.out.1.back hq))); have ⟨d2, d3⟩ := HB.out _ HMB.out; have HPB := Lib.hid (HAP.out WB b _ _ OB HMB.out); clear OB MB)
                      | (at_builtin; refine wpList_appE entOk (by rfl) (.tmp 85) (.tmp 90) rfl (by rfl) HPB.out.1 (by rfl) HPB.out.2.1 (by have := HQL.out; simp; omega) (by have := HPB.out.2.2.2; simp; omega) ?_; intro VC WC OC MC; have HST := Lib.hid (show InRel wq a O VC (.bool true) WC (j + 1) from ⟨by rw [HQE.out], by rw [HQE.out]; exact OC, HPB.out.2.2.1.comp MC (fun q hq => .inr (HPB.out.1.back hq))⟩); clear OC MC))
                    go_roundw
                    case rel => exact ⟨j + 1, by omega, by go_num, HST.out⟩
                    case measure => simp [intOf]; omega
                  | false =>
                    have HQE := Lib.hid (show inQ a O (j + 1) = (ql ++ [b], false) by rw [HQS.out]; simp [insF, of_decide_eq_false HRD.out.symm])
                    have HP : Hid (OwnE entE (w4.alloc (.cells b.cells.toArray 23)) wq.heap.size _ ql ∧ RdE entE (w4.alloc (.cells b.cells.toArray 23)) (.slice (some ⟨w4.heap.size, 0, none⟩) 1 1) [b] ∧ Mods [] wq (w4.alloc (.cells b.cells.toArray 23)) ∧ wq.heap.size ≤ w4.heap.size) := Lib.hid (by
                      have MA := (Mods.refl (S := []) (w := w4)).alloc (.cells b.cells.toArray 23)
                      exact ⟨HOQ.out.mods0 MA, RdE.one (a := b) (heap_alloc_new w4 _) rfl, HMW.out.trans MA, HZ4.out⟩)
                    have ⟨c2, c3⟩ := HB.out _ HMW.out
                    go_wp2_with (at_builtin; refine wpList_appE entOk (by rfl) (.tmp 85) (.tmp 90) rfl (by rfl) HP.out.1 (by rfl) HP.out.2.1 (by have := HQL.out; simp; omega) (by have := HP.out.2.2.2; simp; omega) ?_; intro VB WB OB MB; have HST := Lib.hid (show InRel wq a O VB (.bool false) WB (j + 1) from ⟨by rw [HQE.out], by rw [HQE.out]; exact OB, HP.out.2.2.1.comp MB (fun q hq => .inr (HP.out.1.back hq))⟩); clear OB MB)
                    go_roundw
                    case rel => exact ⟨j + 1, by omega, by go_num, HST.out⟩
                    case measure => simp [intOf]; omega
              · have j1 : ¬ (j : Int) < (O.length : Int) := by omega
                have hjk : j = O.length := by omega
                have HQA := Lib.hid (inQ_all a O)
                subst hjk
                obtain ⟨ql, qd, hq⟩ : ∃ ql qd, inQ a O O.length = (ql, qd) := ⟨_, _, rfl⟩
                rw [hq] at HX HQL HQA hx ⊢
                clear hq
                simp only at HX HQL HQA hx ⊢
                subst hx
                cases qd with
                | true =>
                  have HQE := Lib.hid (show isF AL (i + 1) = ql by rw [HSU.out, ← HQA.out, if_pos rfl])
                  go_wp2_with fail
                  go_roundw
                  case rel => exact ⟨i + 1, by omega, by go_num, by rw [HQE.out]; exact HX.out.rd entOk, HMR.out.trans HM.out⟩
                  case measure => simp [intOf]; omega
                | false =>
                  have HQE := Lib.hid (show isF AL (i + 1) = ql ++ [a] by rw [HSU.out, ← HQA.out, if_neg (by simp)])
                  have HP : Hid (OwnE entE (wr.alloc (.cells a.cells.toArray 23)) wq.heap.size _ ql ∧ RdE entE (wr.alloc (.cells a.cells.toArray 23)) (.slice (some ⟨wr.heap.size, 0, none⟩) 1 1) [a] ∧ Mods [] wq (wr.alloc (.cells a.cells.toArray 23)) ∧ wq.heap.size ≤ wr.heap.size) := Lib.hid (by
                    have MA := (Mods.refl (S := []) (w := wr)).alloc (.cells a.cells.toArray 23)
                    exact ⟨HX.out.mods0 MA, RdE.one (a := a) (heap_alloc_new wr _) rfl, HM.out.trans MA, HZ.out⟩)
                  have ⟨c2, c3⟩ := HA.out _ HM.out
                  go_wp2_with (at_builtin; refine wpList_appE entOk (by rfl) (.tmp 94) (.tmp 99) rfl (by rfl) HP.out.1 (by rfl) HP.out.2.1 (by have := HQL.out; simp; omega) (by have := HP.out.2.2.2; simp; omega) ?_; intro VB WB OB MB; have HST := Lib.hid (show RdE entE WB VB (isF AL (i + 1)) ∧ Mods [] w3 WB from ⟨by rw [HQE.out]; exact OB.rd entOk, HMR.out.trans (HP.out.2.2.1.comp MB (fun q hq => .inr (HP.out.1.back hq)))⟩); clear OB MB)
                  go_roundw
                  case rel => exact ⟨i + 1, by omega, by go_num, HST.out⟩
                  case measure => simp [intOf]; omega
          · have n1 : ¬ (i : Int) < (N : Int) := by omega
            have hin : i = N := by omega
            have HF := Lib.hid (show isF AL i = wthL l e by rw [hin, HN.out, isF_all, HALW.out]; rfl)
            have HU := Lib.hid hU
            clear hU hM hin
            go_wp2_with fail
            go_ret2
            exact HR.out _ _ (by rw [HW.out, ← HF.out]; exact HU.out) (HM.out.trans HMR.out)
  · have HW := Lib.hid (show wthR l e = [] from if_neg h)
    generalize chkE l = c at HC HR h
    have hd : (c != 0) = true := by simpa using h
    clear h
    go_enter Try.func38, Try.ntmps38
    go_wp2_with fail
    refine HC.out.mono ?_
    rintro en w1 ⟨rfl, M1⟩
    have HM1 := Lib.hid (HM.out.trans M1)
    clear M1
    go_wp2_with fail
    go_ret2
    exact HR.out _ _ (by rw [HW.out]; exact RdE.nil _ _) HM1.out
end Go.Proofs.Ytijjkonephjodaa

namespace Go.Proofs.Ytijjkonephjodaa
open Go.RowKit

theorem Cnd.one (c : Cnd) : c.cells.toArray.all (·.oneCell') = true := by simp [Cnd.cells, Value.oneCell']
theorem Try.sizeCnd : (Try.prog.info? 83).map (·.size) = some 3 := by kernel_rfl
theorem sevOk_iff (c : Cnd) : sevOk c = true ↔ 0 ≤ c.sev ∧ c.sev ≤ 3 := by unfold sevOk; simp
set_option maxHeartbeats 1000000 in
theorem health1_ok (w : World) (c : Cnd) :
    Calls Try.prog 74 #[.agg c.cells.toArray] w fun en w' => en = .returned (.bool (!sevOk c)) ∧ Mods [] w w' := by
  have M0 := Lib.hid ((Mods.refl (S := []) (w := w)).alloc (.cells c.cells.toArray 83))
  have c2 := (cell_blk (heap_alloc_new w (.cells c.cells.toArray 83)) 2).trans (show _ = some (Value.int .i64 c.sev) from rfl)
  have HS := Lib.hid (sevOk_iff c)
  generalize sevOk c = r at HS ⊢
  generalize c.sev = s at HS c2
  by_cases h1 : s < 0
  · have HR := Lib.hid (show r = false by
      cases r with
      | false => rfl
      | true => exact absurd (HS.out.1 rfl).1 (by omega))
    go_enter Try.func74, Try.ntmps74
    go_wp2_with fail
    go_ret
    exact ⟨ret_bool (by rw [HR.out]; rfl), M0.out⟩
  · by_cases h2 : s ≤ 3
    · have HR := Lib.hid (show r = true from HS.out.2 ⟨by omega, h2⟩)
      have d1 : decide (s < 0) = false := decide_eq_false h1
      have d2 : decide (s > 3) = false := decide_eq_false (by omega)
      go_enter Try.func74, Try.ntmps74
      go_wp2_with fail
      go_ret
      exact ⟨ret_bool (by rw [HR.out]; rfl), M0.out⟩
    · have HR := Lib.hid (show r = false by
        cases r with
        | false => rfl
        | true => exact absurd (HS.out.1 rfl).2 (by omega))
      have d1 : decide (s < 0) = false := decide_eq_false h1
      have d2 : decide (s > 3) = true := decide_eq_true (by omega)
      go_enter Try.func74, Try.ntmps74
      go_wp2_with fail
      go_ret
      exact ⟨ret_bool (by rw [HR.out]; rfl), M0.out⟩
def badIdx (l : List Cnd) : Nat := l.findIdx fun x => !sevOk x
def badI (l : List Cnd) : Int := if badIdx l = l.length then (-1 : Int) else ((badIdx l : Nat) : Int)
theorem badI_any (l : List Cnd) : decide (0 ≤ badI l) = !l.all sevOk := by
  have hle : badIdx l ≤ l.length := List.findIdx_le_length
  have : badIdx l < l.length ↔ (!l.all sevOk) = true := by
    unfold badIdx
    rw [List.findIdx_lt_length]
    simp
  rw [Bool.eq_iff_iff, decide_eq_true_eq, ← this]
  unfold badI
  split <;> omega
set_option maxRecDepth 100000 in
set_option maxHeartbeats 2000000 in
theorem idxC_ok (w : World) (l : List Cnd) (v : Value) (hv : RdE cndE w v l) :
    Calls Try.prog 100 #[v, .func (.func 74) #[] #[]] w fun en w' => en = .returned (.int .i64 (badI l)) ∧ Mods [] w w' := by
  obtain ⟨ad, cap, rfl⟩ := hv.len
  have HV := Lib.hid hv
  have hcap := hv.bound
  obtain ⟨K, hK⟩ : ∃ K, K = badIdx l := ⟨_, rfl⟩
  have hKl : K ≤ l.length := hK ▸ List.findIdx_le_length
  have HB := Lib.hid (fun j (hj : j < K) => show (!sevOk (l.getD j default)) = false from by
    have hj2 : j < l.length := by omega
    have := List.not_of_lt_findIdx (p := fun x : Cnd => !sevOk x) (xs := l) (i := j) (by rw [hK] at hj; exact hj)
    rw [List.getD_eq_getElem?_getD, List.getElem?_eq_getElem hj2]
    simpa using this)
  have HA := Lib.hid (fun (h : K < l.length) => show (!sevOk (l.getD K default)) = true from by
    have := List.findIdx_getElem (p := fun x : Cnd => !sevOk x) (xs := l) (w := by rw [hK] at h; exact h)
    rw [List.getD_eq_getElem?_getD, List.getElem?_eq_getElem h]
    subst hK
    exact this)
  have HI := Lib.hid (show badI l = if K = l.length then (-1 : Int) else (K : Int) by unfold badI; rw [← hK])
  generalize badI l = V at HI ⊢
  clear hv hK
  go_enter Try.func100, Try.ntmps100
  go_wp2_with fail
  go_loopw [8] (fun i wr => ∃ k : Nat, k ≤ K ∧ i = .int .i64 k ∧ Mods [] w wr) (fun i _ => K - (intOf i).toNat)
  case atStart => exact ⟨0, Nat.zero_le _, rfl, Mods.refl⟩
  case round =>
    obtain ⟨k, hk, rfl, M⟩ := hrel
    have i0 : (0 : Int) ≤ (k : Int) := by omega
    by_cases hlt : k < l.length
    · have i1 : (k : Int) < (l.length : Int) := by omega
      obtain ⟨bb, off, cap, hv2, _, _, hc⟩ := (HV.out.mods0 cndOk M).cnd (by omega)
      injection hv2 with hv3 _ hv4
      subst hv3 hv4
      obtain ⟨y0, y1, y2⟩ := hc k hlt
      have BF := Lib.hid (health1_ok wr (l.getD k default))
      have HBk := Lib.hid (HB.out k)
      have HAk := Lib.hid (fun h : k = K => show (!sevOk (l.getD k default)) = true from by rw [h]; exact HA.out (h ▸ hlt))
      generalize (l.getD k default) = x at y0 y1 y2 BF HBk HAk
      have HM := Lib.hid M
      clear hc M
      by_cases hkK : k < K
      · have HD := Lib.hid (HBk.out hkK)
        go_wp2_with fail
        refine BF.out.mono ?_
        rw [HD.out]
        rintro en w2 ⟨rfl, M2⟩
        have HM2 := Lib.hid (HM.out.trans M2)
        clear M2
        go_wp2_with fail
        go_roundw
        case rel => exact ⟨k + 1, by omega, by go_num, HM2.out⟩
        case measure => simp [intOf]; omega
      · obtain rfl : k = K := by omega
        have HD := Lib.hid (HAk.out rfl)
        have HRES := Lib.hid (show V = (k : Int) by rw [HI.out, if_neg (by omega)])
        go_wp2_with fail
        refine BF.out.mono ?_
        rw [HD.out]
        rintro en w2 ⟨rfl, M2⟩
        have HM2 := Lib.hid (HM.out.trans M2)
        clear M2
        go_wp2_with fail
        go_ret
        exact ⟨ret_int HRES.out.symm, HM2.out⟩
    · have HRES := Lib.hid (show V = -1 by rw [HI.out, if_pos (by omega)])
      have i1 : ¬ (k : Int) < (l.length : Int) := by omega
      go_wp2_with fail
      go_ret
      exact ⟨ret_int HRES.out.symm, M⟩
set_option maxHeartbeats 400000 in
theorem anyC_ok (w : World) (l : List Cnd) (v : Value) (hv : RdE cndE w v l) :
    Calls Try.prog 73 #[v, .func (.func 74) #[] #[]] w fun en w' => en = .returned (.bool (!l.all sevOk)) ∧ Mods [] w w' := by
  have H1 := Lib.hid (idxC_ok w l v hv)
  have HD := Lib.hid (badI_any l)
  obtain ⟨ad, cap, rfl⟩ := hv.len
  generalize badI l = i at H1 HD
  generalize (!l.all sevOk) = r at HD ⊢
  clear hv
  go_enter Try.func73, Try.ntmps73
  go_wp2_with fail
  refine H1.out.mono ?_
  rintro en w' ⟨rfl, M⟩
  go_wp2_with fail
  go_ret
  exact ⟨ret_bool HD.out, M⟩
def hlthR (l : List Asc) (ab : List Ent) (own : List Cnd) (e : Ent) : Int × Int := if chkE l = 0 then if own.all sevOk = true then (hlthF l ab e own, 0) else (0, 2) else (0, chkE l)
def HealthE (w : World) (l : List Asc) (ab : List Ent) (own : List Cnd) (e : Ent) (en : Ending) (w' : World) : Prop := en = .returned (.tuple #[.int .i64 (hlthR l ab own e).1, .int .i64 (hlthR l ab own e).2]) ∧ Mods [] w w'
def hlthK (l : List Asc) (ab : List Ent) (e : Ent) (own : List Cnd) (k : Nat) : Int := (own.take k).foldl (hlthI l ab e) 0
theorem hlthK_succ {l : List Asc} {ab : List Ent} {e : Ent} {own : List Cnd} {k : Nat} (h : k < own.length) : hlthK l ab e own (k + 1) = hlthI l ab e (hlthK l ab e own k) (own.getD k default) := foldl_take_succ _ _ _ _ h _
theorem hlthK_all (l : List Asc) (ab : List Ent) (e : Ent) (own : List Cnd) : hlthK l ab e own own.length = hlthF l ab e own := by unfold hlthK hlthF; rw [List.take_length]
set_option maxRecDepth 100000 in
set_option maxHeartbeats 4000000 in
theorem healthE_ok (w : World) (l : List Asc) (v : Value) (hv : RdE ascE w v l) (vab : Value) (ab : List Ent) (hab : RdE entE w vab ab) (vo : Value) (own : List Cnd) (ho : RdE cndE w vo own) (e : Ent) :
    Calls Try.prog 41 #[v, vab, vo, .agg e.cells.toArray] w fun en w' => HealthE w l ab own e en w' := by
  obtain ⟨ad, cap, rfl⟩ := hv.len
  obtain ⟨ad2, cap2, rfl⟩ := hab.len
  obtain ⟨ad3, cap3, rfl⟩ := ho.len
  have hcap3 := ho.bound
  have M0 := (Mods.refl (S := []) (w := w)).alloc (.cells e.cells.toArray 23)
  have B0 := EntBox.new w e
  have HV := Lib.hid hv
  have HAB := Lib.hid hab
  have HO := Lib.hid ho
  have HM := Lib.hid M0
  have HB := Lib.hid B0
  have HC := Lib.hid (check_ok _ l _ (hv.mods0 ascOk M0))
  have HR := Lib.hid (fun (w' : World) (M : Mods [] w w') (x y : Int) (h : hlthR l ab own e = (x, y)) => show HealthE w l ab own e (.returned (.tuple #[.int .i64 x, .int .i64 y])) w' from ⟨by rw [h], M⟩)
  clear hv M0 B0 hab ho
  by_cases h : chkE l = 0
  · have hl := chk_len h
    have HW : Hid (hlthR l ab own e = if own.all sevOk = true then (hlthF l ab e own, 0) else (0, 2)) := Lib.hid (if_pos h)
    rw [h] at HC
    clear h
    go_enter Try.func41, Try.ntmps41
    go_wp2_with fail
    refine HC.out.mono ?_
    rintro en w1 ⟨rfl, M1⟩
    have HM1 := Lib.hid (HM.out.trans M1)
    have e0 := (HB.out.mods0 M1).c0
    have e1 := (HB.out.mods0 M1).c1
    have HAC := Lib.hid (anyC_ok w1 own _ (HO.out.mods0 cndOk HM1.out))
    have HB1 := Lib.hid (HB.out.mods0 M1)
    clear M1
    go_wp2_with fail
    refine HAC.out.mono ?_
    rintro en w2 ⟨rfl, M2⟩
    have HM2 := Lib.hid (HM1.out.trans M2)
    have f0 := (HB1.out.mods0 M2).c0
    have f1 := (HB1.out.mods0 M2).c1
    clear M2 e0 e1
    obtain ⟨ok, hok⟩ : ∃ ok, ok = own.all sevOk := ⟨_, rfl⟩
    rw [← hok] at HW ⊢
    clear hok
    cases ok with
    | false =>
      have HWF := Lib.hid (HW.out.trans (if_neg (by simp)))
      go_wp2_with fail
      go_ret2
      exact HR.out _ HM2.out _ _ HWF.out
    | true =>
      have HWT := Lib.hid (HW.out.trans (if_pos rfl))
      have HWI := Lib.hid (within_ok w2 l (by omega) _ (HV.out.mods0 ascOk HM2.out) e)
      go_wp2_with fail
      refine HWI.out.mono ?_
      rintro en w3 ⟨u, rfl, hu, M3⟩
      have HM3 := Lib.hid (HM2.out.trans M3)
      obtain ⟨au, cu, rfl⟩ := hu.len
      have HU := Lib.hid hu
      clear M3 hu f0 f1 HWI HAC HC
      generalize (wthL l e).length = nu at HU ⊢
      go_wp2_with fail
      go_loopw [12, 27] (fun o i wr => ∃ k : Nat, k ≤ own.length ∧ i = .int .i64 k ∧ o = .int .i64 (hlthK l ab e own k) ∧ Mods [] w3 wr) (fun _ i _ => own.length - (intOf i).toNat)
      case atStart => exact ⟨0, Nat.zero_le _, rfl, rfl, Mods.refl⟩
      case round =>
        obtain ⟨k, hk, rfl, rfl, hM⟩ := hrel
        have i0 : (0 : Int) ≤ (k : Int) := by omega
        have HMr := Lib.hid hM
        by_cases hlt : k < own.length
        · have i1 : (k : Int) < (own.length : Int) := by omega
          obtain ⟨bb, off, cap, hv2, _, _, hc⟩ := (HO.out.mods0 cndOk (HM3.out.trans hM)).cnd (by omega)
          injection hv2 with hv3 hv5 hv4
          subst hv3 hv4
          clear hv5
          obtain ⟨y0, y1, y2⟩ := hc k hlt
          have HKS := Lib.hid (hlthK_succ (l := l) (ab := ab) (e := e) hlt)
          obtain ⟨x, hx⟩ : ∃ x, x = own.getD k default := ⟨_, rfl⟩
          rw [← hx] at y0 y1 y2 HKS
          have HIX := Lib.hid (show hlthI l ab e (hlthK l ab e own k) x = if (decide (x.ent ∈ wthL l e) && presB l ab x.ent) = true then max (hlthK l ab e own k) x.sev else hlthK l ab e own k from rfl)
          generalize hlthK l ab e own k = o at HKS HIX ⊢
          clear hc hx hM
          go_wp2_with (refine wpList_store_row (cs := #[.int .u8 ((x.ent.id.val : Nat) : Int), .int .u8 ((x.ent.inst.val : Nat) : Int), .int .i64 x.sev]) rfl 83 (.tmp 14) (.tmp 30) rfl (heap_alloc_new wr _) (by rfl) (by rfl) (by rfl) Try.sizeCnd (Cnd.one x) ?_; intro w4 R4 M4; have HR4 := Lib.hid R4; have HM4 := Lib.hid (HMr.out.trans (freshA M4)); have c0 := (cell_blk R4 0).trans (show _ = some (Value.int .u8 ((x.ent.id.val : Nat) : Int)) from rfl); have c1 := (cell_blk R4 1).trans (show _ = some (Value.int .u8 ((x.ent.inst.val : Nat) : Int)) from rfl); clear R4 M4)
          have HCO := Lib.hid (contains_ok w4 (wthL l e) x.ent _ (HU.out.mods0 entOk HM4.out))
          refine HCO.out.mono ?_
          rintro en w5 ⟨rfl, M5⟩
          have HM5 := Lib.hid (HM4.out.trans M5)
          have HR5 := Lib.hid (M5.heap HR4.out (by simp))
          generalize wr.heap.size = g at HR5 ⊢
          have d0 := (cell_blk HR5.out 0).trans (show _ = some (Value.int .u8 ((x.ent.id.val : Nat) : Int)) from rfl)
          have d1 := (cell_blk HR5.out 1).trans (show _ = some (Value.int .u8 ((x.ent.inst.val : Nat) : Int)) from rfl)
          clear M5 c0 c1 HCO
          obtain ⟨r1, hr1⟩ : ∃ r, r = decide (x.ent ∈ wthL l e) := ⟨_, rfl⟩
          rw [← hr1] at HIX ⊢
          clear hr1
          cases r1 with
          | false =>
            have HE := Lib.hid (show hlthK l ab e own (k + 1) = o by rw [HKS.out, HIX.out]; rfl)
            go_wp2_with fail
            go_roundw
            case rel => exact ⟨k + 1, by omega, by go_num, by rw [HE.out], HM5.out⟩
            case measure => simp [intOf]; omega
          | true =>
            have HPR := Lib.hid (presentIn_ok w5 l (by omega) _ (HV.out.mods0 ascOk (HM3.out.trans HM5.out)) _ ab (HAB.out.mods0 entOk (HM3.out.trans HM5.out)) x.ent)
            go_wp2_with fail
            refine HPR.out.mono ?_
            rintro en w6 ⟨rfl, M6⟩
            have HM6 := Lib.hid (HM5.out.trans M6)
            have d2 := (cell_blk (M6.heap HR5.out (by simp)) 2).trans (show _ = some (Value.int .i64 x.sev) from rfl)
            clear M6 d0 d1 HPR
            obtain ⟨r2, hr2⟩ : ∃ r, r = presB l ab x.ent := ⟨_, rfl⟩
            rw [← hr2] at HIX ⊢
            clear hr2
            cases r2 with
            | false =>
              have HE := Lib.hid (show hlthK l ab e own (k + 1) = o by rw [HKS.out, HIX.out]; rfl)
              go_wp2_with fail
              go_roundw
              case rel => exact ⟨k + 1, by omega, by go_num, by rw [HE.out], HM6.out⟩
              case measure => simp [intOf]; omega
            | true =>
              have HE := Lib.hid (show hlthK l ab e own (k + 1) = max o x.sev by rw [HKS.out, HIX.out]; rfl)
              go_wp2_with fail
              go_roundw
              case rel => exact ⟨k + 1, by omega, by go_num, by rw [HE.out], HM6.out⟩
              case measure => simp [intOf]; omega
        · have i1 : ¬ (k : Int) < (own.length : Int) := by omega
          have hk2 : k = own.length := by omega
          have HF := Lib.hid (show hlthK l ab e own k = hlthF l ab e own by rw [hk2, hlthK_all])
          clear hM hk2
          go_wp2_with fail
          go_ret2
          exact HR.out _ (HM3.out.trans HMr.out) _ _ (by rw [HF.out]; exact HWT.out)
  · have HW : Hid (hlthR l ab own e = (0, chkE l)) := Lib.hid (if_neg h)
    generalize chkE l = c at HC HW h
    have hd : (c != 0) = true := by simpa using h
    clear h
    go_enter Try.func41, Try.ntmps41
    go_wp2_with fail
    refine HC.out.mono ?_
    rintro en w1 ⟨rfl, M1⟩
    have HM1 := Lib.hid (HM.out.trans M1)
    clear M1
    go_wp2_with fail
    go_ret2
    exact HR.out _ HM1.out _ _ HW.out
end Go.Proofs.Ytijjkonephjodaa
