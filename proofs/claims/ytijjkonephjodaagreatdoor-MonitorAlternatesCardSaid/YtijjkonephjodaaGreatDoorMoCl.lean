/- slices.Clone of sensors, associations, points: contracts. -/
import Derived.Test.YtijjkonephjodaaGreatDoorMoMade
import Derived.Test.YtijjkonephjodaaGreatDoorJoAJ
namespace Go.Proofs.YtijjkonephjodaaGreatDoor
open Go.RowKit
set_option linter.unusedVariables false
set_option linter.unusedSimpArgs false
def ptE : Elt Pt := ⟨117, 32, 2, fun p => [.int .u8 ((p.raw : Nat) : Int), .int .i64 p.val], default⟩
theorem ptOk : ptE.Ok Tryz.prog := by
  refine ⟨fun _ => rfl, fun a v hv => ?_, by decide, Tryz.underlying32, ?_⟩
  · simp [ptE] at hv
    rcases hv with rfl | rfl <;> rfl
  · obtain ⟨i0, hi, hz0, hz1, hz2⟩ := info_parts Tryz.infoP
    exact ⟨i0, _, hi, hz0, hz1, by rw [hz2]; decide, rfl⟩
theorem RdPts.elt {w : World} {v : Value} {P : List Pt} (h : RdPts w v P) : RdE ptE w v P := by
  obtain ⟨ad, cap, rfl, h1, h2, hc⟩ := h
  refine ⟨ad, cap, rfl, h1, h2, fun i hi => ?_⟩
  obtain ⟨b, off, rfl, x1, x2⟩ := hc i hi
  refine ⟨b, off, rfl, fun j hj => ?_⟩
  match j, hj with
  | 0, _ => exact x1
  | 1, _ => exact x2
theorem OwnE.pts {w : World} {B : Nat} {v : Value} {P : List Pt} (h : OwnE ptE w B v P) : OwnPts w B v P := h
/-- A new slice of elements that reads as l is handed back. -/
def ClonedE {α : Type} (E : Elt α) (w : World) (l : List α) (e : Ending) (w' : World) : Prop := ∃ v', e = .returned v' ∧ OwnE E w' w.heap.size v' l ∧ Mods [] w w'
theorem OwnE.none0 {α : Type} {E : Elt α} (w : World) : OwnE E (w.alloc (.cells #[] E.ty)) w.heap.size (.slice (some ⟨w.heap.size, 0, none⟩) 0 0) [] := World.ownsRow_lit w #[] 0 (Nat.le_refl _) (Nat.zero_le _) (by simp)
set_option maxHeartbeats 400000 in
theorem cloneS_ok (w : World) (v : Value) (l : List SenX) (hv : RdE senE w v l) (hl : l.length ≤ 1000) :
    Calls Tryz.prog 45 #[v] w fun e w' => ClonedE senE w l e w' := by
  obtain ⟨ad, cap, rfl, hcap, hcap2, hvc⟩ := hv
  have hq := fun (w : World) (a : Option Addr) (n c : Nat) => Lib.run_eql_slice_nil (P := Tryz.prog) w 27 40 a n c 0 0 Tryz.underlying27
  have HV := Lib.hid (show RdE senE w (.slice ad l.length cap) l from ⟨ad, cap, rfl, hcap, hcap2, hvc⟩)
  cases ad with
  | none =>
    have hl0 : l = [] := by
      rcases Nat.eq_zero_or_pos l.length with h | h
      · exact List.eq_nil_of_length_eq_zero h
      · obtain ⟨b, off, h, _⟩ := hvc 0 h; cases h
    subst hl0
    clear hvc
    go_enter Tryz.func45, Tryz.ntmps45
    go_wp2_with fail
    go_ret
    exact ⟨_, rfl, OwnE.nil _ _ _, Mods.refl⟩
  | some a =>
    have HL := Lib.hid hl
    clear hvc hl
    go_enter Tryz.func45, Tryz.ntmps45
    go_wp2_with (at_builtin; refine wpList_appE senOk (by rfl) (.tmp 5) (.tmp 6) rfl (by rfl) (OwnE.none0 (E := senE) w) (by rfl) (HV.out.mods0 senOk (Mods.refl.alloc _)) (by have := HL.out; simp; omega) (by rw [World.size_alloc]; omega) ?_; intro v' w1 O1 M1; have HO := Lib.hid O1; have HM := Lib.hid ((Mods.refl (S := []) (w := w)).alloc (.cells #[] 40) |>.comp M1 (fun k hk => .inr (by simp [Value.ownBlock] at hk; omega))); clear O1 M1)
    go_ret
    exact ⟨_, rfl, HO.out, HM.out⟩
set_option maxHeartbeats 400000 in
theorem cloneAs_ok (w : World) (v : Value) (l : List Asc) (hv : RdE ascE w v l) (hl : l.length ≤ 1000) :
    Calls Tryz.prog 46 #[v] w fun e w' => ClonedE ascE w l e w' := by
  obtain ⟨ad, cap, rfl, hcap, hcap2, hvc⟩ := hv
  have hq := fun (w : World) (a : Option Addr) (n c : Nat) => Lib.run_eql_slice_nil (P := Tryz.prog) w 67 111 a n c 0 0 Tryz.underlying67
  have HV := Lib.hid (show RdE ascE w (.slice ad l.length cap) l from ⟨ad, cap, rfl, hcap, hcap2, hvc⟩)
  cases ad with
  | none =>
    have hl0 : l = [] := by
      rcases Nat.eq_zero_or_pos l.length with h | h
      · exact List.eq_nil_of_length_eq_zero h
      · obtain ⟨b, off, h, _⟩ := hvc 0 h; cases h
    subst hl0
    clear hvc
    go_enter Tryz.func46, Tryz.ntmps46
    go_wp2_with fail
    go_ret
    exact ⟨_, rfl, OwnE.nil _ _ _, Mods.refl⟩
  | some a =>
    have HL := Lib.hid hl
    clear hvc hl
    go_enter Tryz.func46, Tryz.ntmps46
    go_wp2_with (at_builtin; refine wpList_appE ascOk (by rfl) (.tmp 5) (.tmp 6) rfl (by rfl) (OwnE.none0 (E := ascE) w) (by rfl) (HV.out.mods0 ascOk (Mods.refl.alloc _)) (by have := HL.out; simp; omega) (by rw [World.size_alloc]; omega) ?_; intro v' w1 O1 M1; have HO := Lib.hid O1; have HM := Lib.hid ((Mods.refl (S := []) (w := w)).alloc (.cells #[] 111) |>.comp M1 (fun k hk => .inr (by simp [Value.ownBlock] at hk; omega))); clear O1 M1)
    go_ret
    exact ⟨_, rfl, HO.out, HM.out⟩
set_option maxHeartbeats 400000 in
theorem cloneP_ok (w : World) (v : Value) (l : List Pt) (hv : RdE ptE w v l) (hl : l.length ≤ 1000) :
    Calls Tryz.prog 47 #[v] w fun e w' => ClonedE ptE w l e w' := by
  obtain ⟨ad, cap, rfl, hcap, hcap2, hvc⟩ := hv
  have hq := fun (w : World) (a : Option Addr) (n c : Nat) => Lib.run_eql_slice_nil (P := Tryz.prog) w 32 117 a n c 0 0 Tryz.underlying32
  have HV := Lib.hid (show RdE ptE w (.slice ad l.length cap) l from ⟨ad, cap, rfl, hcap, hcap2, hvc⟩)
  cases ad with
  | none =>
    have hl0 : l = [] := by
      rcases Nat.eq_zero_or_pos l.length with h | h
      · exact List.eq_nil_of_length_eq_zero h
      · obtain ⟨b, off, h, _⟩ := hvc 0 h; cases h
    subst hl0
    clear hvc
    go_enter Tryz.func47, Tryz.ntmps47
    go_wp2_with fail
    go_ret
    exact ⟨_, rfl, OwnE.nil _ _ _, Mods.refl⟩
  | some a =>
    have HL := Lib.hid hl
    clear hvc hl
    go_enter Tryz.func47, Tryz.ntmps47
    go_wp2_with (at_builtin; refine wpList_appE ptOk (by rfl) (.tmp 5) (.tmp 6) rfl (by rfl) (OwnE.none0 (E := ptE) w) (by rfl) (HV.out.mods0 ptOk (Mods.refl.alloc _)) (by have := HL.out; simp; omega) (by rw [World.size_alloc]; omega) ?_; intro v' w1 O1 M1; have HO := Lib.hid O1; have HM := Lib.hid ((Mods.refl (S := []) (w := w)).alloc (.cells #[] 117) |>.comp M1 (fun k hk => .inr (by simp [Value.ownBlock] at hk; omega))); clear O1 M1)
    go_ret
    exact ⟨_, rfl, HO.out, HM.out⟩
end Go.Proofs.YtijjkonephjodaaGreatDoor
