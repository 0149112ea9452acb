/- slices.Clone of bytes, checksum.Sum8 and Seal8: contracts. -/
import Derived.Test.YtijjkonephjodaaBytes
import Derived.Test.YtijjkonephjodaaNums
import Derived.Test.YtijjkonephjodaaDice
namespace Go.Proofs.Ytijjkonephjodaa
open Go.RowKit
theorem Try.infoB : (Try.prog.info? 5).map (fun i => (i.zero, i.size, i.bytes)) = some (some (.int .u8 0), 1, 1) := by kernel_rfl

/-- The cells of a reading, as the law on append asks them. -/
theorem rd_news {w : World} {b off : Nat} {l : List Value} (hc : ∀ i, i < l.length → w.cell? ⟨b, off + i, none⟩ = some (l.getD i undef)) : ∀ j u, l[j]? = some u → w.cell? ((⟨b, off, none⟩ : Addr).add j) = some u := by
  intro j u hu
  have hj : j < l.length := by rcases Nat.lt_or_ge j l.length with h | h; exact h; rw [List.getElem?_eq_none h] at hu; cases hu
  have := hc j hj
  rw [List.getD_eq_getElem?_getD, hu] at this
  unfold Addr.add
  split
  · rename_i h0; subst h0; simpa using this
  · simpa using this
def OneCells (l : List Value) : Prop := ∀ u ∈ l, u.oneCell' = true
theorem one_u8s (l : List Int) : OneCells (u8s l) := ints_oneCell _ _
theorem one_i64s (l : List Int) : OneCells (i64s l) := ints_oneCell _ _

/-- A new slice of elements e that reads as l is handed back; nothing that was there has turned. -/
def OwnedBy (T : TypeId) (w : World) (l : List Value) (e : Ending) (w' : World) : Prop := ∃ v', e = .returned v' ∧ w'.ownsRow w.heap.size T 1 v' l.length l ∧ Mods [] w w'

set_option maxHeartbeats 400000 in
theorem cloneB_ok (w : World) (v : Value) (l : List Value) (hv : Rd w v l) (h1 : OneCells l) (hl : l.length ≤ 1000000) :
    Calls Try.prog 82 #[v] w fun e w' => OwnedBy 5 w l e w' := by
  obtain ⟨ad, cap, rfl, hcap, hcap2, hvc⟩ := hv
  obtain ⟨i0, hi, hz0, hz1, hz2⟩ := info_parts Try.infoB
  have hq := fun (w : World) (a : Option Addr) (n c : Nat) => Lib.run_eql_slice_nil (P := Try.prog) w 33 5 a n c 0 0 Try.underlying33
  cases ad with
  | none =>
    have hl0 : l = [] := by
      rcases Nat.eq_zero_or_pos l.length with h | h
      · exact List.eq_nil_of_length_eq_zero h
      · obtain ⟨b, off, h, _⟩ := hvc 0 h; cases h
    subst hl0
    clear hvc
    go_enter Try.func82, Try.ntmps82
    go_wp2
    go_ret
    exact ⟨_, rfl, World.ownsRow_nil _ _ _ _, Mods.refl⟩
  | some a =>
    have hnews : ∀ j u, l[j]? = some u → w.cell? (a.add j) = some u := by
      rcases Nat.eq_zero_or_pos l.length with h | h
      · intro j u hj; rw [List.eq_nil_of_length_eq_zero h] at hj; simp at hj
      · obtain ⟨b, off, ha, hc⟩ := hvc 0 h
        cases ha
        refine rd_news fun i hi => ?_
        obtain ⟨b', off', ha, hc⟩ := hvc i hi
        cases ha
        exact hc
    have HN := Lib.hid hnews
    have H1 := Lib.hid h1
    clear hvc hnews h1
    go_enter Try.func82, Try.ntmps82
    go_wp2_with (at_builtin; refine wpList_append_own _ rfl (.tmp 5) (.tmp 6) 33 rfl w.heap.size 5 i0 (.int .u8 0) 1 1 Try.underlying33 hi hz0 hz1 hz2 rfl (by decide) _ 0 [] rfl (World.ownsRow_lit w #[] 0 (Nat.le_refl _) (Nat.zero_le _) rfl) a l.length cap l rfl (by simp) ?c1 H1.out ?c3 ?c4 ?c5 ?_)
    case c1 =>
      intro j u hj
      have h2 := HN.out j u hj
      exact (Mods.refl (S := [])).alloc _ |>.cell h2 (by simp)
    case c3 => unfold maxLen; omega
    case c4 => omega
    case c5 => simp
    intro v' w1 hown' hgrow _
    have HO := Lib.hid hown'
    have HG := Lib.hid hgrow
    clear hown' hgrow
    go_wp2
    go_ret
    exact ⟨_, rfl, HO.out, (Mods.refl.alloc _).grown HG.out (by intro k hk; simp [Value.ownBlock] at hk; right; omega)⟩


/-- The byte that completes the sum. -/
def sum8 (A : List Int) : Int := -(A.sum) % 256
def seal8 (A : List Int) : List Int := A ++ [sum8 A]
theorem sum_step (A : List Int) (k : Nat) (hk : k < A.length) : ((A.take k).sum % 256 + A.getD k 0) % 256 = (A.take (k + 1)).sum % 256 := by
  rw [List.take_add_one, List.getElem?_eq_getElem hk, List.sum_append, List.getD_eq_getElem?_getD, List.getElem?_eq_getElem hk]
  simp
set_option maxRecDepth 100000 in
set_option maxHeartbeats 1000000 in
theorem sum8_ok (w : World) (v : Value) (A : List Int) (hv : Rd w v (u8s A)) (hb : Bytes A) :
    Calls Try.prog 83 #[v] w fun e w' => e = .returned (.int .u8 (sum8 A)) ∧ Mods [] w w' := by
  have HV := Lib.hid hv
  have HB := Lib.hid hb
  obtain ⟨ad, cap, rfl, h1, h2, _⟩ := hv.u8
  have h3 : cap ≤ 9223372036854775807 := h2
  clear hv hb h2
  go_enter Try.func83, Try.ntmps83
  go_wp2_with fail
  go_loopw [3, 8] (fun s i wr => ∃ k : Nat, k ≤ A.length ∧ i = .int .i64 k ∧ s = .int .u8 ((A.take k).sum % 256) ∧ Mods [] w wr) (fun _ i _ => A.length - (intOf i).toNat)
  case atStart => exact ⟨0, Nat.zero_le _, rfl, by simp, Mods.refl⟩
  case round =>
    obtain ⟨k, hk, rfl, rfl, M⟩ := hrel
    by_cases hlt : k < A.length
    · obtain ⟨_, _, he, _, _, hc⟩ := (HV.out.mods0 M).u8
      obtain ⟨bb, off, rfl, x0⟩ := hc k hlt
      injection he with he1 he2 he3
      subst he1 he3
      clear hc he2
      have i1 : (0 : Int) ≤ (k : Int) := by omega
      have i2 : (k : Int) < (A.length : Int) := by omega
      have HST := Lib.hid (sum_step A k hlt)
      have HM := Lib.hid M
      have hbx := HB.out k
      have hs0 : 0 ≤ (A.take k).sum % 256 ∧ (A.take k).sum % 256 < 256 := by omega
      generalize (A.take k).sum % 256 = s at HST hs0 ⊢
      generalize A.getD k 0 = x at x0 hbx HST
      clear M
      go_wp2_with fail
      exact ⟨⟨k + 1, by omega, by go_num, by rw [← HST.out], HM.out⟩, by simp only [intOf]; omega⟩
    · have hk2 : k = A.length := by omega
      have HR := Lib.hid (show (-((A.take k).sum % 256)) % 256 = sum8 A by rw [hk2, List.take_length, sum8]; omega)
      have HM := Lib.hid M
      generalize (A.take k).sum % 256 = s at HR ⊢
      clear M
      go_wp2_with fail
      go_ret
      exact ⟨ret_int (by first | exact HR.out | (rw [IntKind.wrap_u8]; exact HR.out)), HM.out⟩
theorem sum8_byte (A : List Int) : 0 ≤ sum8 A ∧ sum8 A ≤ 255 := by unfold sum8; omega
set_option maxRecDepth 100000 in
set_option maxHeartbeats 1000000 in
theorem seal8_ok (w : World) (v : Value) (A : List Int) (hv : Rd w v (u8s A)) (hb : Bytes A) (hl : A.length ≤ 100000) :
    Calls Try.prog 49 #[v] w fun e w' => OwnedBy 5 w (u8s (seal8 A)) e w' := by
  have HV := Lib.hid hv
  have HB := Lib.hid hb
  clear hv hb
  obtain ⟨i0, hi, hz0, hz1, hz2⟩ := info_parts Try.infoB
  go_enter Try.func49, Try.ntmps49
  go_wp2_with fail
  refine (cloneB_ok w v (u8s A) HV.out (one_u8s _) (by rw [u8s_length]; omega)).mono ?_
  rintro e w1 ⟨v1, rfl, O1, M1⟩
  go_wp2_with fail
  refine (sum8_ok w1 v A (HV.out.mods0 M1) HB.out).mono ?_
  rintro e w2 ⟨rfl, M2⟩
  have O2 := M2.owns O1 (by simp)
  have M2 := M1.trans M2
  clear M1 O1
  go_wp2_with (at_builtin; refine wpList_push rfl (.tmp 4) (.tmp 7) 33 rfl w.heap.size 5 i0 (.int .u8 0) 1 Try.underlying33 hi hz0 hz1 hz2 rfl v1 (u8s A).length (u8s A) (by rfl) O2 (.int .u8 (sum8 A)) _ (by rfl) (by rfl) (by rw [u8s_length]; omega) (by omega) M2.size ?_; intro v3 w3 O3 M3)
  have M3 := Lib.hid (M2.then_from M3 (Nat.le_refl _))
  have O3 : Hid (w3.ownsRow w.heap.size 5 1 v3 (u8s (seal8 A)).length (u8s (seal8 A))) := Lib.hid (by
    have := own_u8 O3
    rw [u8s_length] at this
    rw [u8s_length, seal8, List.length_append]
    exact this)
  go_wp2
  go_ret
  exact ⟨_, rfl, O3.out, M3.out⟩
end Go.Proofs.Ytijjkonephjodaa
