/- Clone of slices, Read, Wear: contracts. -/
import Derived.Test.YtkdadnlleepkfaaFlashA
namespace Go.Proofs.Ytkdadnlleepkfaa
open Go.RowKit
theorem Try.infoB : (Try.prog.info? 5).map (fun i => (i.zero, i.size, i.bytes)) = some (some (.int .u8 0), 1, 1) := by kernel_rfl
theorem Try.infoI : (Try.prog.info? 3).map (fun i => (i.zero, i.size, i.bytes)) = some (some (.int .i64 0), 1, 8) := by kernel_rfl

/-- The cells of a reading, as the law on append asks them. -/
theorem rd_news {w : World} {b off : Nat} {l : List Value} (hc : ∀ i, i < l.length → w.cell? ⟨b, off + i, none⟩ = some (l.getD i undef)) : ∀ j u, l[j]? = some u → w.cell? ((⟨b, off, none⟩ : Addr).add j) = some u := by
  intro j u hu
  have hj : j < l.length := by rcases Nat.lt_or_ge j l.length with h | h; exact h; rw [List.getElem?_eq_none h] at hu; cases hu
  have := hc j hj
  rw [List.getD_eq_getElem?_getD, hu] at this
  unfold Addr.add
  split
  · rename_i h0; subst h0; simpa using this
  · simpa using this
def OneCells (l : List Value) : Prop := ∀ u ∈ l, u.oneCell' = true
theorem one_u8s (l : List Int) : OneCells (u8s l) := ints_oneCell _ _
theorem one_i64s (l : List Int) : OneCells (i64s l) := ints_oneCell _ _

/-- A new slice of elements e that reads as l is handed back; nothing that was there has turned. -/
def OwnedBy (T : TypeId) (w : World) (l : List Value) (e : Ending) (w' : World) : Prop := ∃ v', e = .returned v' ∧ w'.ownsRow w.heap.size T 1 v' l.length l ∧ Mods [] w w'

set_option maxHeartbeats 400000 in
theorem cloneB_ok (w : World) (v : Value) (l : List Value) (hv : Rd w v l) (h1 : OneCells l) (hl : l.length ≤ 1000000) :
    Calls Try.prog 81 #[v] w fun e w' => OwnedBy 5 w l e w' := by
  obtain ⟨ad, cap, rfl, hcap, hcap2, hvc⟩ := hv
  obtain ⟨i0, hi, hz0, hz1, hz2⟩ := info_parts Try.infoB
  have hq := fun (w : World) (a : Option Addr) (n c : Nat) => Lib.run_eql_slice_nil (P := Try.prog) w 61 5 a n c 0 0 Try.underlying61
  cases ad with
  | none =>
    have hl0 : l = [] := by
      rcases Nat.eq_zero_or_pos l.length with h | h
      · exact List.eq_nil_of_length_eq_zero h
      · obtain ⟨b, off, h, _⟩ := hvc 0 h; cases h
    subst hl0
    clear hvc
    go_enter Try.func81, Try.ntmps81
    go_wp2
    go_ret
    exact ⟨_, rfl, World.ownsRow_nil _ _ _ _, Mods.refl⟩
  | some a =>
    have hnews : ∀ j u, l[j]? = some u → w.cell? (a.add j) = some u := by
      rcases Nat.eq_zero_or_pos l.length with h | h
      · intro j u hj; rw [List.eq_nil_of_length_eq_zero h] at hj; simp at hj
      · obtain ⟨b, off, ha, hc⟩ := hvc 0 h
        cases ha
        refine rd_news fun i hi => ?_
        obtain ⟨b', off', ha, hc⟩ := hvc i hi
        cases ha
        exact hc
    have HN := Lib.hid hnews
    have H1 := Lib.hid h1
    clear hvc hnews h1
    go_enter Try.func81, Try.ntmps81
    go_wp2_with (at_builtin; refine wpList_append_own _ rfl (.tmp 5) (.tmp 6) 61 rfl w.heap.size 5 i0 (.int .u8 0) 1 1 Try.underlying61 hi hz0 hz1 hz2 rfl (by decide) _ 0 [] rfl (World.ownsRow_lit w #[] 0 (Nat.le_refl _) (Nat.zero_le _) rfl) a l.length cap l rfl (by simp) ?c1 H1.out ?c3 ?c4 ?c5 ?_)
    case c1 =>
      intro j u hj
      have h2 := HN.out j u hj
      exact (Mods.refl (S := [])).alloc _ |>.cell h2 (by simp)
    case c3 => unfold maxLen; omega
    case c4 => omega
    case c5 => simp
    intro v' w1 hown' hgrow _
    have HO := Lib.hid hown'
    have HG := Lib.hid hgrow
    clear hown' hgrow
    go_wp2
    go_ret
    exact ⟨_, rfl, HO.out, (Mods.refl.alloc _).grown HG.out (by intro k hk; simp [Value.ownBlock] at hk; right; omega)⟩

set_option maxHeartbeats 400000 in
theorem cloneI_ok (w : World) (v : Value) (l : List Value) (hv : Rd w v l) (h1 : OneCells l) (hl : l.length ≤ 1000000) :
    Calls Try.prog 94 #[v] w fun e w' => OwnedBy 3 w l e w' := by
  obtain ⟨ad, cap, rfl, hcap, hcap2, hvc⟩ := hv
  obtain ⟨i0, hi, hz0, hz1, hz2⟩ := info_parts Try.infoI
  have hq := fun (w : World) (a : Option Addr) (n c : Nat) => Lib.run_eql_slice_nil (P := Try.prog) w 40 3 a n c 0 0 Try.underlying40
  cases ad with
  | none =>
    have hl0 : l = [] := by
      rcases Nat.eq_zero_or_pos l.length with h | h
      · exact List.eq_nil_of_length_eq_zero h
      · obtain ⟨b, off, h, _⟩ := hvc 0 h; cases h
    subst hl0
    clear hvc
    go_enter Try.func94, Try.ntmps94
    go_wp2
    go_ret
    exact ⟨_, rfl, World.ownsRow_nil _ _ _ _, Mods.refl⟩
  | some a =>
    have hnews : ∀ j u, l[j]? = some u → w.cell? (a.add j) = some u := by
      rcases Nat.eq_zero_or_pos l.length with h | h
      · intro j u hj; rw [List.eq_nil_of_length_eq_zero h] at hj; simp at hj
      · obtain ⟨b, off, ha, hc⟩ := hvc 0 h
        cases ha
        refine rd_news fun i hi => ?_
        obtain ⟨b', off', ha, hc⟩ := hvc i hi
        cases ha
        exact hc
    have HN := Lib.hid hnews
    have H1 := Lib.hid h1
    clear hvc hnews h1
    go_enter Try.func94, Try.ntmps94
    go_wp2_with (at_builtin; refine wpList_append_own _ rfl (.tmp 5) (.tmp 6) 40 rfl w.heap.size 3 i0 (.int .i64 0) 1 8 Try.underlying40 hi hz0 hz1 hz2 rfl (by decide) _ 0 [] rfl (World.ownsRow_lit w #[] 0 (Nat.le_refl _) (Nat.zero_le _) rfl) a l.length cap l rfl (by simp) ?c1 H1.out ?c3 ?c4 ?c5 ?_)
    case c1 =>
      intro j u hj
      have h2 := HN.out j u hj
      exact (Mods.refl (S := [])).alloc _ |>.cell h2 (by simp)
    case c3 => unfold maxLen; omega
    case c4 => omega
    case c5 => simp
    intro v' w1 hown' hgrow _
    have HO := Lib.hid hown'
    have HG := Lib.hid hgrow
    clear hown' hgrow
    go_wp2
    go_ret
    exact ⟨_, rfl, HO.out, (Mods.refl.alloc _).grown HG.out (by intro k hk; simp [Value.ownBlock] at hk; right; omega)⟩


theorem cut_rd {w : World} {g cap k m : Nat} {T : TypeId} {l : List Value} (h : RowAt w g T cap l) (hkm : k + m ≤ l.length) :
    Rd w (if cap = k then .slice (some ⟨g, 0, none⟩) m 0 else .slice (some ⟨g, k, none⟩) m (cap - k)) ((l.drop k).take m) := by
  have hc : l.length ≤ cap := by obtain ⟨_, _, _, h3, _⟩ := h; exact h3
  have hcm : cap ≤ maxLen := by obtain ⟨_, _, _, _, h4, _⟩ := h; exact h4
  have hlen : ((l.drop k).take m).length = m := by simp; omega
  by_cases hk : cap = k
  · rw [if_pos hk]
    have hm : m = 0 := by omega
    subst hm
    exact ⟨some ⟨g, 0, none⟩, 0, by simp, by simp, Nat.zero_le _, fun i hi => by simp at hi⟩
  · rw [if_neg hk]
    refine ⟨some ⟨g, k, none⟩, cap - k, by rw [hlen], by rw [hlen]; omega, by omega, fun i hi => ⟨g, k, rfl, ?_⟩⟩
    rw [hlen] at hi
    rw [h.cell (i := k + i) (by omega)]
    congr 1
    simp only [List.getD_eq_getElem?_getD, List.getElem?_take, List.getElem?_drop, if_pos hi]
theorem u8s_cut (l : List Int) (k m : Nat) : ((u8s l).drop k).take m = u8s ((l.drop k).take m) := by simp [u8s]

def Dev.read (D : Dev) (at_ n : Int) : List Int × Int := if D.down then ([], 10) else if fits D at_ n then ((D.data.drop at_.toNat).take n.toNat, 0) else ([], 2)
/-- A new slice of bytes that reads as r.1, and the error r.2; nothing that was there has turned. -/
def BytesErr (w : World) (r : List Int × Int) (e : Ending) (w' : World) : Prop := ∃ v', e = .returned (.tuple #[v', .int .i64 r.2]) ∧ w'.ownsRow w.heap.size 5 1 v' r.1.length (u8s r.1) ∧ Mods [] w w'
set_option maxHeartbeats 400000 in
theorem read_ok (w : World) (p : DevAt) (D : Dev) (h : IsDev w p D) (ok : D.Ok) (at_ n : Int) :
    Calls Try.prog 47 #[.pointer (some ⟨p.b, 0, none⟩), .int .i64 at_, .int .i64 n] w fun e w' => BytesErr w (D.read at_ n) e w' := by
  have h6 := h.c6
  have h1 := h.c1
  by_cases hd : D.down = true
  · have E : D.read at_ n = ([], 10) := by rw [Dev.read, if_pos hd]
    rw [E]
    rw [hd] at h6
    clear hd E h1
    go_enter Try.func47, Try.ntmps47
    go_wp2_with fail
    go_ret2
    exact ⟨_, rfl, World.ownsRow_nil _ _ _ _, Mods.refl⟩
  · have hd' : D.down = false := by simpa using hd
    rw [hd'] at h6
    by_cases hf : fits D at_ n = true
    · have E : D.read at_ n = ((D.data.drop at_.toNat).take n.toNat, 0) := by rw [Dev.read, if_neg hd, if_pos hf]
      rw [E]
      have hf2 := hf
      simp [fits] at hf2
      obtain ⟨k, rfl⟩ := Int.eq_ofNat_of_zero_le hf2.1
      obtain ⟨m, rfl⟩ := Int.eq_ofNat_of_zero_le hf2.2.1
      have hkm : k + m ≤ D.data.length := by omega
      have hcap : D.data.length ≤ p.cb := by obtain ⟨_, _, _, h3, _⟩ := h.dat; simpa [u8s] using h3
      have hcm : p.cb ≤ maxLen := by obtain ⟨_, _, _, _, h4, _⟩ := h.dat; exact h4
      have hlen := ok.len
      unfold maxLen at hcm
      have H := Lib.hid h
      have HR := Lib.hid (u8s_cut D.data k m ▸ cut_rd (k := k) (m := m) h.dat (by rw [u8s_length]; exact hkm))
      have hlr : ((D.data.drop k).take m).length = m := by simp; omega
      clear hf2 E hd hd' h
      go_enter Try.func47, Try.ntmps47
      go_wp2_with (go_at_call 62; refine (within_ok _ p D H.out ok _ _).mono ?_; rintro e w' ⟨rfl, rfl⟩)
      all_goals
        refine (cloneB_ok w _ (u8s ((D.data.drop k).take m)) ?_ (one_u8s _) (by rw [u8s_length, hlr]; omega)).mono ?_
        · first | (have h1 := HR.out; rw [if_pos ‹_›] at h1; exact h1) | (have h1 := HR.out; rw [if_neg ‹_›] at h1; exact h1)
        · rintro e w' ⟨v', rfl, ho, hm⟩
          rw [u8s_length] at ho
          have HO := Lib.hid ho
          have HM := Lib.hid hm
          clear ho hm hlr
          go_wp2
          go_ret2
          exact ⟨v', rfl, HO.out, HM.out⟩
    · have E : D.read at_ n = ([], 2) := by rw [Dev.read, if_neg hd, if_neg hf]
      rw [E]
      have hf' : fits D at_ n = false := by simpa using hf
      have H := Lib.hid h
      clear hf hd hd' E h h1
      go_enter Try.func47, Try.ntmps47
      go_wp2_with (go_at_call 62; refine (within_ok _ p D H.out ok _ _).mono ?_; rintro e w' ⟨rfl, rfl⟩)
      go_ret2
      exact ⟨_, rfl, World.ownsRow_nil _ _ _ _, Mods.refl⟩

set_option maxHeartbeats 400000 in
theorem wear_ok (w : World) (p : DevAt) (D : Dev) (h : IsDev w p D) (ok : D.Ok) :
    Calls Try.prog 76 #[.pointer (some ⟨p.b, 0, none⟩)] w fun e w' => OwnedBy 3 w (i64s D.wear) e w' := by
  have h2 := h.c2
  have hl := ok.wl
  have HR := Lib.hid h.wer.rd
  rw [i64s_length] at HR
  clear h ok
  go_enter Try.func76, Try.ntmps76
  go_wp2_with fail
  refine (cloneI_ok w _ (i64s D.wear) HR.out (one_i64s _) (by rw [i64s_length]; omega)).mono ?_
  rintro e w' ⟨v', rfl, ho, hm⟩
  have HO := Lib.hid ho
  have HM := Lib.hid hm
  clear ho hm
  go_wp2
  go_ret
  exact ⟨v', rfl, HO.out, HM.out⟩
set_option maxHeartbeats 400000 in
theorem sectors_ok (w : World) (p : DevAt) (D : Dev) (h : IsDev w p D) :
    Calls Try.prog 46 #[.pointer (some ⟨p.b, 0, none⟩)] w fun e w' => e = .returned (.int .i64 D.wear.length) ∧ w = w' := by
  have h2 := h.c2
  clear h
  go_enter Try.func46, Try.ntmps46
  go_wp2
  go_ret
  exact ⟨rfl, rfl⟩
set_option maxHeartbeats 400000 in
theorem size_ok (w : World) (p : DevAt) (D : Dev) (h : IsDev w p D) :
    Calls Try.prog 48 #[.pointer (some ⟨p.b, 0, none⟩)] w fun e w' => e = .returned (.int .i64 D.size) ∧ w = w' := by
  have h0 := h.c0
  clear h
  go_enter Try.func48, Try.ntmps48
  go_wp2
  go_ret
  exact ⟨rfl, rfl⟩
end Go.Proofs.Ytkdadnlleepkfaa
