/- Program, Erase, Read: contracts. -/
import Derived.Test.YtkdadnlleepkfaaFlashA
namespace Go.Proofs.Ytkdadnlleepkfaa
open Go.RowKit
set_option maxRecDepth 100000

theorem Dev.step_data (D : Dev) : D.step.data = D.data := by unfold Dev.step; split <;> rfl
theorem Dev.step_wear (D : Dev) : D.step.wear = D.wear := by unfold Dev.step; split <;> rfl
theorem Dev.step_torn (D : Dev) : D.step.torn = D.torn := by unfold Dev.step; split <;> rfl
theorem Dev.step_size (D : Dev) : D.step.size = D.size := by unfold Dev.step; split <;> rfl
theorem Dev.step_steps (D : Dev) : D.step.steps = D.steps + 1 := by unfold Dev.step; split <;> rfl
theorem Dev.step_left (D : Dev) : D.step.left ≤ D.left ∧ (0 ≤ D.left → 0 ≤ D.step.left) := by unfold Dev.step; split <;> simp <;> omega
theorem Dev.Ok.step {D : Dev} (h : D.Ok) : D.step.Ok where
  len := by rw [D.step_data]; exact h.len
  wl := by rw [D.step_wear]; exact h.wl
  mul := by rw [D.step_data, D.step_wear, D.step_size]; exact h.mul
  s0 := by rw [D.step_size]; exact h.s0
  s1 := by rw [D.step_size]; exact h.s1
  byt := by rw [D.step_data]; exact h.byt
  tn := by rw [D.step_torn]; exact h.tn
  st := by rw [D.step_steps]; have := h.st; omega
  lf := ⟨D.step_left.2 h.lf.1, Int.le_trans D.step_left.1 h.lf.2⟩
  wr := by rw [D.step_wear]; exact h.wr
def Dev.put (D : Dev) (i : Nat) (x : Int) : Dev := { D with data := D.data.set i x }
theorem getD_set (l : List Int) (i j : Nat) (x : Int) : (l.set i x).getD j 0 = if i = j ∧ i < l.length then x else l.getD j 0 := by
  simp only [List.getD_eq_getElem?_getD, List.getElem?_set]
  by_cases h : i = j
  · subst h
    by_cases h2 : i < l.length
    · simp [h2]
    · simp [h2]
  · simp [h]
theorem Dev.Ok.put {D : Dev} (h : D.Ok) (i : Nat) {x : Int} (h0 : 0 ≤ x) (h1 : x ≤ 255) : (D.put i x).Ok where
  len := by simp only [Dev.put, List.length_set]; exact h.len
  wl := h.wl
  mul := by simp only [Dev.put, List.length_set]; exact h.mul
  s0 := h.s0
  s1 := h.s1
  byt := by intro j; simp only [Dev.put, getD_set]; split; exact ⟨h0, h1⟩; exact h.byt j
  tn := h.tn
  st := h.st
  lf := h.lf
  wr := h.wr
theorem bits_byte (op : BinOp) (a b : Int) : 0 ≤ bits op .u8 a b ∧ bits op .u8 a b ≤ 255 := by
  have h : ∀ n : Int, 0 ≤ IntKind.u8.wrap n ∧ IntKind.u8.wrap n ≤ 255 := fun n => by rw [IntKind.wrap_u8]; omega
  exact h _

/-- Program, byte by byte, on a device that is up. -/
def Dev.run (D : Dev) (at_ : Nat) : List Int → Int × Dev
  | [] => (0, D)
  | x :: r => if D.step.down then (10, D.step.put at_ (bits .and .u8 (D.data.getD at_ 0) (bits .or .u8 x D.torn))) else
    Dev.run (D.step.put at_ (bits .and .u8 (D.data.getD at_ 0) x)) (at_ + 1) r
def Dev.program (D : Dev) (at_ : Int) (l : List Int) : Int × Dev :=
  if D.down then (10, D) else if fits D at_ l.length then D.run at_.toNat l else (2, D)

theorem drop_cons (l : List Int) (k : Nat) (h : k < l.length) : l.drop k = l.getD k 0 :: l.drop (k + 1) := by
  rw [List.drop_eq_getElem_cons h, List.getD_eq_getElem?_getD, List.getElem?_eq_getElem h]; rfl

set_option maxHeartbeats 1000000 in
theorem run_ok (w : World) (p : DevAt) (D : Dev) (h : IsDev w p D) (ok : D.Ok) (n : Nat) (v : Value) (l : List Int) (hv : Rd w v (u8s l)) (hb : ∀ i, 0 ≤ l.getD i 0 ∧ l.getD i 0 ≤ 255)
    (hne : l ≠ [] → ∀ k, v.ownBlock = some k → k ∉ [p.b, p.g]) (hs : D.steps ≤ 4611686018427000000) (hd : D.down = false) (hf : fits D n l.length = true) :
    Calls Try.prog 32 #[.pointer (some ⟨p.b, 0, none⟩), .int .i64 n, v] w fun e w' => e = .returned (.int .i64 (D.run n l).1) ∧ IsDev w' p (D.run n l).2 ∧ Mods [p.b, p.g] w w' := by
  obtain ⟨ad, cap, rfl, hcap, hcap2, hvc⟩ := hv.u8
  have hfit : n + l.length ≤ D.data.length := by simp [fits] at hf; omega
  have hlen := ok.len
  have h6 := h.c6
  rw [hd] at h6
  have H := Lib.hid h
  have HD := Lib.hid hd
  clear h hv hd
  unfold maxLen at hcap2
  go_enter Try.func32, Try.ntmps32
  go_wp2_with (go_at_call 62; refine (within_ok _ p D H.out ok _ _).mono ?_; rintro e w' ⟨rfl, rfl⟩)
  clear h6
  go_loopw [7, 8, 23] (fun _ _ c wr => ∃ k : Nat, k ≤ l.length ∧ c = .int .i64 k ∧ ∃ Dk : Dev, IsDev wr p Dk ∧ Dk.Ok ∧ Hid (Dk.down = false) ∧ Hid (Dk.data.length = D.data.length) ∧ Dk.steps ≤ 4611686018427000000 + k ∧ Hid (Dk.run (n + k) (l.drop k) = D.run n l) ∧ Mods [p.b, p.g] w wr) (fun _ _ c _ => l.length - (intOf c).toNat)
  case atStart => exact ⟨0, Nat.zero_le _, rfl, D, H.out, ok, HD.out, rfl, by simpa using hs, by simp [Hid], Mods.refl⟩
  case round =>
    obtain ⟨k, hk, rfl, Dk, I, okk, hdk, hlk, hsk, hrun, hm⟩ := hrel
    by_cases hlt : k < l.length
    · obtain ⟨b', off, rfl, hc⟩ := hvc k hlt
      have hcw := hm.cell hc (hne (by rintro rfl; simp at hlt) _ rfl)
      have hbk := hb k
      clear hc hvc
      have hst := okk.step
      have ht := hst.tn
      have R0 := Lib.hid (drop_cons l k hlt)
      by_cases hsd : Dk.step.down = true
      · have R := Lib.hid (show D.run n l = (10, Dk.step.put (n + k) (bits .and .u8 (Dk.step.data.getD (n + k) 0) (bits .or .u8 (l.getD k 0) Dk.step.torn))) by
          rw [← hrun.out, R0.out, Dev.run, if_pos hsd, Dev.step_data, Dev.step_torn])
        clear R0
        go_wp2_with fail
        refine (step_ok wr p Dk I okk (by omega)).mono ?_
        rintro e w1 ⟨rfl, I1, M1⟩
        have h1 := I1.c1
        have h5 := I1.c5
        have hl2 : (n + k) < Dk.step.data.length := by rw [Dev.step_data, hlk.out]; omega
        have hat := I1.at hl2
        have hby := hst.byt (n + k)
        have hfz := I1.fg
        have hl3 : (n : Int) + (k : Int) < (Dk.step.data.length : Int) := by omega
        have hz : (0 : Int) ≤ (n : Int) + (k : Int) := by omega
        have hws : IntKind.i64.wrap ((n : Int) + (k : Int)) = (n : Int) + (k : Int) := IntWalk.i64_in _ (by omega)
        have htn : ((n : Int) + (k : Int)).toNat = n + k := by omega
        go_wp2_with fail
        go_still_tail 17, (by kernel_rfl)
        clear hws htn h1 h5
        change wpList _ _ _ _ _ w1.drew
        have I2 := I1.drew
        have M2 := M1.drew
        generalize w1.drew = w2 at I2 M2 hat hfz ⊢
        have hat := I2.at hl2
        have hfz := I2.fg
        go_wp2
        go_ret
        refine ⟨ret_int (by rw [R.out]), ?_, hm.comp ((M2.mono fun _ h => .inl (by simp at h; simp [h])).setCell (.inl (by simp)) _) fun _ h => .inl h⟩
        rw [R.out]
        have := I2.setDat (n + k) (bits .and .u8 (Dk.step.data.getD (n + k) 0) (bits .or .u8 (l.getD k 0) Dk.step.torn))
        simpa [Dev.put, hl2, hlt] using this
      · have R := Lib.hid (show (Dk.step.put (n + k) (bits .and .u8 (Dk.step.data.getD (n + k) 0) (l.getD k 0))).run (n + (k + 1)) (l.drop (k + 1)) = D.run n l by
          rw [← hrun.out, R0.out, Dev.run, if_neg hsd, Dev.step_data, ← Nat.add_assoc])
        clear R0
        have hsd' : Dk.step.down = false := by simpa using hsd
        clear hsd
        go_wp2_with fail
        refine (step_ok wr p Dk I okk (by omega)).mono ?_
        rintro e w1 ⟨rfl, I1, M1⟩
        have h1 := I1.c1
        have hl2 : (n + k) < Dk.step.data.length := by rw [Dev.step_data, hlk.out]; omega
        have hat := I1.at hl2
        have hby := hst.byt (n + k)
        have hfz := I1.fg
        go_wp2
        have hst' := hst.put (n + k) (bits_byte .and (Dk.step.data.getD (n + k) 0) (l.getD k 0)).1 (bits_byte .and (Dk.step.data.getD (n + k) 0) (l.getD k 0)).2
        have := I1.setDat (n + k) (bits .and .u8 (Dk.step.data.getD (n + k) 0) (l.getD k 0))
        go_roundw
        case rel => exact ⟨k + 1, by omega, by go_num, _, by simpa [Dev.put, hl2, hlt] using this, hst', hsd', by simp [Hid, Dev.put, Dev.step_data]; exact hlk.out, by simp only [Dev.put, Dev.step_steps]; omega, R.out, hm.comp ((M1.mono fun _ h => .inl (by simp at h; simp [h])).setCell (.inl (by simp)) _) fun _ h => .inl h⟩
        case measure => simp [intOf]; omega
    · have e : k = l.length := by omega
      have R := Lib.hid (show D.run n l = (0, Dk) by rw [← hrun.out, List.drop_eq_nil_of_le (by omega)]; rfl)
      clear hrun
      go_wp2
      go_ret
      exact ⟨ret_int (by rw [R.out]), by rw [R.out]; exact I, hm⟩

set_option maxHeartbeats 400000 in
theorem program_ok (w : World) (p : DevAt) (D : Dev) (h : IsDev w p D) (ok : D.Ok) (at_ : Int) (v : Value) (l : List Int) (hv : Rd w v (u8s l)) (hb : ∀ i, 0 ≤ l.getD i 0 ∧ l.getD i 0 ≤ 255)
    (hne : l ≠ [] → ∀ k, v.ownBlock = some k → k ∉ [p.b, p.g]) (hs : D.steps ≤ 4611686018427000000) :
    Calls Try.prog 32 #[.pointer (some ⟨p.b, 0, none⟩), .int .i64 at_, v] w fun e w' => e = .returned (.int .i64 (D.program at_ l).1) ∧ IsDev w' p (D.program at_ l).2 ∧ Mods [p.b, p.g] w w' := by
  by_cases hd : D.down = true
  · have E := Lib.hid (show D.program at_ l = (10, D) by rw [Dev.program, if_pos hd])
    have h6 := h.c6
    rw [hd] at h6
    clear hd hne hv
    go_enter Try.func32, Try.ntmps32
    go_wp2_with fail
    go_ret
    exact ⟨ret_int (by rw [E.out]), by rw [E.out]; exact h, Mods.refl⟩
  · have hd' : D.down = false := by simpa using hd
    by_cases hf : fits D at_ l.length = true
    · have h0 : 0 ≤ at_ := by simp [fits] at hf; omega
      obtain ⟨n, rfl⟩ := Int.eq_ofNat_of_zero_le h0
      have E : D.program (n : Int) l = D.run n l := by rw [Dev.program, if_neg hd, if_pos hf]; simp
      rw [E]
      exact run_ok w p D h ok n v l hv hb hne hs hd' hf
    · have E := Lib.hid (show D.program at_ l = (2, D) by rw [Dev.program, if_neg hd, if_neg hf])
      have h6 := h.c6
      rw [hd'] at h6
      have H := Lib.hid h
      have hf' : fits D at_ l.length = false := by simpa using hf
      obtain ⟨ad, cap, rfl, hcap, hcap2, _⟩ := hv.u8
      clear hd hne hv hd' hf h
      unfold maxLen at hcap2
      go_enter Try.func32, Try.ntmps32
      go_wp2_with (go_at_call 62; refine (within_ok _ p D H.out ok _ _).mono ?_; rintro e w' ⟨rfl, rfl⟩)
      go_ret
      exact ⟨ret_int (by rw [E.out]), by rw [E.out]; exact H.out, Mods.refl⟩
end Go.Proofs.Ytkdadnlleepkfaa
