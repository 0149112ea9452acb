/- sensor.two: the bytes of numbers of 16 bits; contract. -/
import Derived.Test.YtijjkonephjodaaSeal
import Derived.Deep.AppendLies
namespace Go.Proofs.Ytijjkonephjodaa
open Go.RowKit

def u16s (l : List Nat) : List Value := l.map fun (n : Nat) => Value.int .u16 (n : Int)
theorem u16s_length (l : List Nat) : (u16s l).length = l.length := by simp [u16s]
/-- The bytes of numbers, the less significant one first. -/
def twoL (l : List Nat) : List Int := l.flatMap fun (n : Nat) => [(n : Int) % 256, (n : Int) / 256]
theorem twoL_length (l : List Nat) : (twoL l).length = l.length * 2 := by
  induction l with
  | nil => rfl
  | cons p l ih => simp only [twoL, List.flatMap_cons, List.length_append, List.length_cons, List.length_nil] at ih ⊢; omega
theorem twoL_take (l : List Nat) (k : Nat) (hk : k < l.length) : twoL (l.take (k + 1)) = twoL (l.take k) ++ [((l.getD k 0 : Nat) : Int) % 256, ((l.getD k 0 : Nat) : Int) / 256] := by
  rw [List.take_add_one, List.getElem?_eq_getElem hk, List.getD_eq_getElem?_getD, List.getElem?_eq_getElem hk, twoL, List.flatMap_append]
  rfl
theorem twoL_bytes (l : List Nat) (h : ∀ n ∈ l, n < 65536) : ∀ x ∈ twoL l, 0 ≤ x ∧ x ≤ 255 := by
  intro x hx
  simp only [twoL, List.mem_flatMap] at hx
  obtain ⟨n, hn, hx⟩ := hx
  have := h n hn
  simp at hx
  rcases hx with rfl | rfl <;> constructor <;> omega
set_option maxRecDepth 100000 in
set_option maxHeartbeats 1000000 in
theorem two_ok (w : World) (v : Value) (l : List Nat) (hv : Rd w v (u16s l)) (hb : ∀ n ∈ l, n < 65536) (hl : l.length ≤ 1000) :
    Calls Try.prog 50 #[v] w fun e w' => OwnedBy 5 w (u8s (twoL l)) e w' := by
  have HV := Lib.hid hv
  have HB := Lib.hid hb
  obtain ⟨ad, cap, hve, h1, h2, _⟩ := hv
  rw [u16s_length] at hve h1
  subst hve
  have h3 : cap ≤ 9223372036854775807 := h2
  clear hb h2
  obtain ⟨i0, hi, hz0, hz1, hz2⟩ := info_parts Try.infoB
  go_enter Try.func50, Try.ntmps50
  go_wp2_with fail
  go_loopw [3, 8] (fun s i wr => ∃ k : Nat, k ≤ l.length ∧ i = .int .i64 k ∧ wr.ownsRow w.heap.size 5 1 s (twoL (l.take k)).length (u8s (twoL (l.take k))) ∧ Mods [] w wr) (fun _ i _ => l.length - (intOf i).toNat)
  case atStart => exact ⟨0, Nat.zero_le _, rfl, World.ownsRow_nil _ _ _ _, Mods.refl⟩
  case round =>
    obtain ⟨k, hk, rfl, O, M⟩ := hrel
    by_cases hlt : k < l.length
    · obtain ⟨_, _, he, _, _, hc⟩ := HV.out.mods0 M
      obtain ⟨bb, off, rfl, x0⟩ := hc k (by rw [u16s_length]; exact hlt)
      injection he with he1 he2 he3
      subst he1 he3
      clear hc he2
      have hx : (u16s l).getD k undef = .int .u16 ((l.getD k 0 : Nat) : Int) := by
        simp [u16s, List.getD_eq_getElem?_getD, List.getElem?_eq_getElem hlt]
      rw [hx] at x0
      have hn : l.getD k 0 < 65536 := HB.out _ (by rw [List.getD_eq_getElem?_getD, List.getElem?_eq_getElem hlt]; exact List.getElem_mem hlt)
      have i1 : (0 : Int) ≤ (k : Int) := by omega
      have i2 : (k : Int) < (l.length : Int) := by omega
      have HT := Lib.hid (twoL_take l k hlt)
      have hln := twoL_length (l.take k)
      have hlt2 : (l.take k).length ≤ 1000 := by simp; omega
      have HO := Lib.hid O
      have HM := Lib.hid M
      generalize l.getD k 0 = n at x0 hn HT
      have hzw := M.size
      clear O M hx
      go_wp2_with (at_builtin; refine wpList_append_own _ rfl (.tmp 12) (.tmp 18) 33 rfl w.heap.size 5 i0 (.int .u8 0) 1 1 Try.underlying33 hi hz0 hz1 hz2 rfl (by decide) _ (twoL (l.take k)).length (u8s (twoL (l.take k))) (by rfl) ((Mods.refl (S := []) (w := wr)).alloc _ |>.owns HO.out (by simp)) ⟨wr.heap.size, 0, none⟩ 2 2 [.int .u8 ((n : Int) % 256), .int .u8 ((n : Int) / 256)] (by rfl) (by rfl) (fun j u hj => World.news_of_block (cs := #[.int .u8 ((n : Int) % 256), .int .u8 ((n : Int) / 256)]) (heap_alloc_new wr _) j u hj) (by intro u hu; simp at hu; rcases hu with rfl | rfl <;> rfl) (by unfold maxLen; omega) (by omega) (by simp; omega) ?_; intro v5 w5 O5 G5 _)
      have HM5 := Lib.hid ((HM.out.alloc _).grown G5 (fun q hq => .inr (World.ownsRow.lt HO.out q hq).1))
      have HO5 : Hid (w5.ownsRow w.heap.size 5 1 v5 (twoL (l.take (k + 1))).length (u8s (twoL (l.take (k + 1))))) := Lib.hid (by
        rw [HT.out, List.length_append]
        have e : u8s (twoL (l.take k) ++ [(n : Int) % 256, (n : Int) / 256]) = u8s (twoL (l.take k)) ++ [.int .u8 ((n : Int) % 256), .int .u8 ((n : Int) / 256)] := by simp [u8s]
        rw [e]; exact O5)
      clear O5 G5
      go_wp2
      exact ⟨⟨k + 1, by omega, by go_num, HO5.out, HM5.out⟩, by simp only [intOf]; omega⟩
    · have hk2 : k = l.length := by omega
      have HR := Lib.hid (show l.take k = l by rw [hk2, List.take_length])
      rw [HR.out] at O
      have HM := Lib.hid M
      clear M
      go_wp2_with fail
      go_ret
      exact ⟨_, rfl, by rw [u8s_length]; exact O, HM.out⟩
end Go.Proofs.Ytijjkonephjodaa
