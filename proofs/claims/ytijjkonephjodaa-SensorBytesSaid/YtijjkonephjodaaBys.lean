/- Joined texts. Slices of bytes that came in. | slices.Clone of bytes, checksum.Sum8 and Seal8: contracts. | sensor.two: the bytes of numbers of 16 bits; contract. | convert.write and the reference's Little: contracts. -/
import Derived.Test.YtijjkonephjodaaLawBase
import Derived.OpenShut
import Derived.Test.YtijjkonephjodaaNums
import Derived.Test.YtijjkonephjodaaDice
import Derived.Deep.AppendLies
namespace Go.Proofs.Ytijjkonephjodaa
open Go.RowKit
/-- Every number is a byte. -/
def Bytes (l : List Int) : Prop := ∀ i, 0 ≤ l.getD i 0 ∧ l.getD i 0 ≤ 255
theorem IsRow.u8 {w : World} {a : Option Addr} {len cap : Nat} {zs : List Int} (h : IsRow .u8 w a len cap zs) : Bytes (zs.take len) := fun i => by
  have hz : ∀ n ∈ zs, (Lit.int .u8 n).wf = true := by
    rcases h with ⟨_, _, _, rfl⟩ | ⟨_, _, _, _, _, _, h⟩
    · simp
    · exact h
  have := range_u8 (zs := zs.take len) (fun n hn => hz n (List.mem_of_mem_take hn)) i
  simpa [List.getD_eq_getElem?_getD] using this
end Go.Proofs.Ytijjkonephjodaa

namespace Go.Proofs.Ytijjkonephjodaa
open Go.RowKit
theorem Try.infoB : (Try.prog.info? 5).map (fun i => (i.zero, i.size, i.bytes)) = some (some (.int .u8 0), 1, 1) := by kernel_rfl

/-- The cells of a reading, as the law on append asks them. -/
theorem rd_news {w : World} {b off : Nat} {l : List Value} (hc : ∀ i, i < l.length → w.cell? ⟨b, off + i, none⟩ = some (l.getD i undef)) : ∀ j u, l[j]? = some u → w.cell? ((⟨b, off, none⟩ : Addr).add j) = some u := by
  intro j u hu
  have hj : j < l.length := by rcases Nat.lt_or_ge j l.length with h | h; exact h; rw [List.getElem?_eq_none h] at hu; cases hu
  have := hc j hj
  rw [List.getD_eq_getElem?_getD, hu] at this
  unfold Addr.add
  split
  · rename_i h0; subst h0; simpa using this
  · simpa using this
def OneCells (l : List Value) : Prop := ∀ u ∈ l, u.oneCell' = true
theorem one_u8s (l : List Int) : OneCells (u8s l) := ints_oneCell _ _
theorem one_i64s (l : List Int) : OneCells (i64s l) := ints_oneCell _ _

/-- A new slice of elements e that reads as l is handed back; nothing that was there has turned. -/
def OwnedBy (T : TypeId) (w : World) (l : List Value) (e : Ending) (w' : World) : Prop := ∃ v', e = .returned v' ∧ w'.ownsRow w.heap.size T 1 v' l.length l ∧ Mods [] w w'

set_option maxHeartbeats 400000 in
theorem cloneB_ok (w : World) (v : Value) (l : List Value) (hv : Rd w v l) (h1 : OneCells l) (hl : l.length ≤ 1000000) :
    Calls Try.prog 82 #[v] w fun e w' => OwnedBy 5 w l e w' := by
  obtain ⟨ad, cap, rfl, hcap, hcap2, hvc⟩ := hv
  obtain ⟨i0, hi, hz0, hz1, hz2⟩ := info_parts Try.infoB
  have hq := fun (w : World) (a : Option Addr) (n c : Nat) => Lib.run_eql_slice_nil (P := Try.prog) w 33 5 a n c 0 0 Try.underlying33
  cases ad with
  | none =>
    have hl0 : l = [] := by
      rcases Nat.eq_zero_or_pos l.length with h | h
      · exact List.eq_nil_of_length_eq_zero h
      · obtain ⟨b, off, h, _⟩ := hvc 0 h; cases h
    subst hl0
    clear hvc
    go_enter Try.func82, Try.ntmps82
    go_wp2
    go_ret
    exact ⟨_, rfl, World.ownsRow_nil _ _ _ _, Mods.refl⟩
  | some a =>
    have hnews : ∀ j u, l[j]? = some u → w.cell? (a.add j) = some u := by
      rcases Nat.eq_zero_or_pos l.length with h | h
      · intro j u hj; rw [List.eq_nil_of_length_eq_zero h] at hj; simp at hj
      · obtain ⟨b, off, ha, hc⟩ := hvc 0 h
        cases ha
        refine rd_news fun i hi => ?_
        obtain ⟨b', off', ha, hc⟩ := hvc i hi
        cases ha
        exact hc
    have HN := Lib.hid hnews
    have H1 := Lib.hid h1
    clear hvc hnews h1
    go_enter Try.func82, Try.ntmps82
    go_wp2_with (at_builtin; refine wpList_append_own _ rfl (.tmp 5) (.tmp 6) 33 rfl w.heap.size 5 i0 (.int .u8 0) 1 1 Try.underlying33 hi hz0 hz1 hz2 rfl (by decide) _ 0 [] rfl (World.ownsRow_lit w #[] 0 (Nat.le_refl _) (Nat.zero_le _) rfl) a l.length cap l rfl (by simp) ?c1 H1.out ?c3 ?c4 ?c5 ?_)
    case c1 =>
      intro j u hj
      have h2 := HN.out j u hj
      exact (Mods.refl (S := [])).alloc _ |>.cell h2 (by simp)
    case c3 => unfold maxLen; omega
    case c4 => omega
    case c5 => simp
    intro v' w1 hown' hgrow _
    have HO := Lib.hid hown'
    have HG := Lib.hid hgrow
    clear hown' hgrow
    go_wp2
    go_ret
    exact ⟨_, rfl, HO.out, (Mods.refl.alloc _).grown HG.out (by intro k hk; simp [Value.ownBlock] at hk; right; omega)⟩


/-- The byte that completes the sum. -/
def sum8 (A : List Int) : Int := -(A.sum) % 256
def seal8 (A : List Int) : List Int := A ++ [sum8 A]
theorem sum_step (A : List Int) (k : Nat) (hk : k < A.length) : ((A.take k).sum % 256 + A.getD k 0) % 256 = (A.take (k + 1)).sum % 256 := by
  rw [List.take_add_one, List.getElem?_eq_getElem hk, List.sum_append, List.getD_eq_getElem?_getD, List.getElem?_eq_getElem hk]
  simp
set_option maxRecDepth 100000 in
set_option maxHeartbeats 1000000 in
theorem sum8_ok (w : World) (v : Value) (A : List Int) (hv : Rd w v (u8s A)) (hb : Bytes A) :
    Calls Try.prog 83 #[v] w fun e w' => e = .returned (.int .u8 (sum8 A)) ∧ Mods [] w w' := by
  have HV := Lib.hid hv
  have HB := Lib.hid hb
  obtain ⟨ad, cap, rfl, h1, h2, _⟩ := hv.u8
  have h3 : cap ≤ 9223372036854775807 := h2
  clear hv hb h2
  go_enter Try.func83, Try.ntmps83
  go_wp2_with fail
  go_loopw [3, 8] (fun s i wr => ∃ k : Nat, k ≤ A.length ∧ i = .int .i64 k ∧ s = .int .u8 ((A.take k).sum % 256) ∧ Mods [] w wr) (fun _ i _ => A.length - (intOf i).toNat)
  case atStart => exact ⟨0, Nat.zero_le _, rfl, by simp, Mods.refl⟩
  case round =>
    obtain ⟨k, hk, rfl, rfl, M⟩ := hrel
    by_cases hlt : k < A.length
    · obtain ⟨_, _, he, _, _, hc⟩ := (HV.out.mods0 M).u8
      obtain ⟨bb, off, rfl, x0⟩ := hc k hlt
      injection he with he1 he2 he3
      subst he1 he3
      clear hc he2
      have i1 : (0 : Int) ≤ (k : Int) := by omega
      have i2 : (k : Int) < (A.length : Int) := by omega
      have HST := Lib.hid (sum_step A k hlt)
      have HM := Lib.hid M
      have hbx := HB.out k
      have hs0 : 0 ≤ (A.take k).sum % 256 ∧ (A.take k).sum % 256 < 256 := by omega
      generalize (A.take k).sum % 256 = s at HST hs0 ⊢
      generalize A.getD k 0 = x at x0 hbx HST
      clear M
      go_wp2_with fail
      exact ⟨⟨k + 1, by omega, by go_num, by rw [← HST.out], HM.out⟩, by simp only [intOf]; omega⟩
    · have hk2 : k = A.length := by omega
      have HR := Lib.hid (show (-((A.take k).sum % 256)) % 256 = sum8 A by rw [hk2, List.take_length, sum8]; omega)
      have HM := Lib.hid M
      generalize (A.take k).sum % 256 = s at HR ⊢
      clear M
      go_wp2_with fail
      go_ret
      exact ⟨ret_int (by first | exact HR.out | (rw [IntKind.wrap_u8]; exact HR.out)), HM.out⟩
theorem sum8_byte (A : List Int) : 0 ≤ sum8 A ∧ sum8 A ≤ 255 := by unfold sum8; omega
set_option maxRecDepth 100000 in
set_option maxHeartbeats 1000000 in
theorem seal8_ok (w : World) (v : Value) (A : List Int) (hv : Rd w v (u8s A)) (hb : Bytes A) (hl : A.length ≤ 100000) :
    Calls Try.prog 49 #[v] w fun e w' => OwnedBy 5 w (u8s (seal8 A)) e w' := by
  have HV := Lib.hid hv
  have HB := Lib.hid hb
  clear hv hb
  obtain ⟨i0, hi, hz0, hz1, hz2⟩ := info_parts Try.infoB
  go_enter Try.func49, Try.ntmps49
  go_wp2_with fail
  refine (cloneB_ok w v (u8s A) HV.out (one_u8s _) (by rw [u8s_length]; omega)).mono ?_
  rintro e w1 ⟨v1, rfl, O1, M1⟩
  go_wp2_with fail
  refine (sum8_ok w1 v A (HV.out.mods0 M1) HB.out).mono ?_
  rintro e w2 ⟨rfl, M2⟩
  have O2 := M2.owns O1 (by simp)
  have M2 := M1.trans M2
  clear M1 O1
  go_wp2_with (at_builtin; refine wpList_push rfl (.tmp 4) (.tmp 7) 33 rfl w.heap.size 5 i0 (.int .u8 0) 1 Try.underlying33 hi hz0 hz1 hz2 rfl v1 (u8s A).length (u8s A) (by rfl) O2 (.int .u8 (sum8 A)) _ (by rfl) (by rfl) (by rw [u8s_length]; omega) (by omega) M2.size ?_; intro v3 w3 O3 M3)
  have M3 := Lib.hid (M2.then_from M3 (Nat.le_refl _))
  have O3 : Hid (w3.ownsRow w.heap.size 5 1 v3 (u8s (seal8 A)).length (u8s (seal8 A))) := Lib.hid (by
    have := own_u8 O3
    rw [u8s_length] at this
    rw [u8s_length, seal8, List.length_append]
    exact this)
  go_wp2
  go_ret
  exact ⟨_, rfl, O3.out, M3.out⟩
end Go.Proofs.Ytijjkonephjodaa

namespace Go.Proofs.Ytijjkonephjodaa
open Go.RowKit

def u16s (l : List Nat) : List Value := l.map fun (n : Nat) => Value.int .u16 (n : Int)
theorem u16s_length (l : List Nat) : (u16s l).length = l.length := by simp [u16s]
/-- The bytes of numbers, the less significant one first. -/
def twoL (l : List Nat) : List Int := l.flatMap fun (n : Nat) => [(n : Int) % 256, (n : Int) / 256]
theorem twoL_length (l : List Nat) : (twoL l).length = l.length * 2 := by
  induction l with
  | nil => rfl
  | cons p l ih => simp only [twoL, List.flatMap_cons, List.length_append, List.length_cons, List.length_nil] at ih ⊢; omega
theorem twoL_take (l : List Nat) (k : Nat) (hk : k < l.length) : twoL (l.take (k + 1)) = twoL (l.take k) ++ [((l.getD k 0 : Nat) : Int) % 256, ((l.getD k 0 : Nat) : Int) / 256] := by
  rw [List.take_add_one, List.getElem?_eq_getElem hk, List.getD_eq_getElem?_getD, List.getElem?_eq_getElem hk, twoL, List.flatMap_append]
  rfl
theorem twoL_bytes (l : List Nat) (h : ∀ n ∈ l, n < 65536) : ∀ x ∈ twoL l, 0 ≤ x ∧ x ≤ 255 := by
  intro x hx
  simp only [twoL, List.mem_flatMap] at hx
  obtain ⟨n, hn, hx⟩ := hx
  have := h n hn
  simp at hx
  rcases hx with rfl | rfl <;> constructor <;> omega
set_option maxRecDepth 100000 in
set_option maxHeartbeats 1000000 in
theorem two_ok (w : World) (v : Value) (l : List Nat) (hv : Rd w v (u16s l)) (hb : ∀ n ∈ l, n < 65536) (hl : l.length ≤ 1000) :
    Calls Try.prog 50 #[v] w fun e w' => OwnedBy 5 w (u8s (twoL l)) e w' := by
  have HV := Lib.hid hv
  have HB := Lib.hid hb
  obtain ⟨ad, cap, hve, h1, h2, _⟩ := hv
  rw [u16s_length] at hve h1
  subst hve
  have h3 : cap ≤ 9223372036854775807 := h2
  clear hb h2
  obtain ⟨i0, hi, hz0, hz1, hz2⟩ := info_parts Try.infoB
  go_enter Try.func50, Try.ntmps50
  go_wp2_with fail
  go_loopw [3, 8] (fun s i wr => ∃ k : Nat, k ≤ l.length ∧ i = .int .i64 k ∧ wr.ownsRow w.heap.size 5 1 s (twoL (l.take k)).length (u8s (twoL (l.take k))) ∧ Mods [] w wr) (fun _ i _ => l.length - (intOf i).toNat)
  case atStart => exact ⟨0, Nat.zero_le _, rfl, World.ownsRow_nil _ _ _ _, Mods.refl⟩
  case round =>
    obtain ⟨k, hk, rfl, O, M⟩ := hrel
    by_cases hlt : k < l.length
    · obtain ⟨_, _, he, _, _, hc⟩ := HV.out.mods0 M
      obtain ⟨bb, off, rfl, x0⟩ := hc k (by rw [u16s_length]; exact hlt)
      injection he with he1 he2 he3
      subst he1 he3
      clear hc he2
      have hx : (u16s l).getD k undef = .int .u16 ((l.getD k 0 : Nat) : Int) := by
        simp [u16s, List.getD_eq_getElem?_getD, List.getElem?_eq_getElem hlt]
      rw [hx] at x0
      have hn : l.getD k 0 < 65536 := HB.out _ (by rw [List.getD_eq_getElem?_getD, List.getElem?_eq_getElem hlt]; exact List.getElem_mem hlt)
      have i1 : (0 : Int) ≤ (k : Int) := by omega
      have i2 : (k : Int) < (l.length : Int) := by omega
      have HT := Lib.hid (twoL_take l k hlt)
      have hln := twoL_length (l.take k)
      have hlt2 : (l.take k).length ≤ 1000 := by simp; omega
      have HO := Lib.hid O
      have HM := Lib.hid M
      generalize l.getD k 0 = n at x0 hn HT
      have hzw := M.size
      clear O M hx
      go_wp2_with (at_builtin; refine wpList_append_own _ rfl (.tmp 12) (.tmp 18) 33 rfl w.heap.size 5 i0 (.int .u8 0) 1 1 Try.underlying33 hi hz0 hz1 hz2 rfl (by decide) _ (twoL (l.take k)).length (u8s (twoL (l.take k))) (by rfl) ((Mods.refl (S := []) (w := wr)).alloc _ |>.owns HO.out (by simp)) ⟨wr.heap.size, 0, none⟩ 2 2 [.int .u8 ((n : Int) % 256), .int .u8 ((n : Int) / 256)] (by rfl) (by rfl) (fun j u hj => World.news_of_block (cs := #[.int .u8 ((n : Int) % 256), .int .u8 ((n : Int) / 256)]) (heap_alloc_new wr _) j u hj) (by intro u hu; simp at hu; rcases hu with rfl | rfl <;> rfl) (by unfold maxLen; omega) (by omega) (by simp; omega) ?_; intro v5 w5 O5 G5 _)
      have HM5 := Lib.hid ((HM.out.alloc _).grown G5 (fun q hq => .inr (World.ownsRow.lt HO.out q hq).1))
      have HO5 : Hid (w5.ownsRow w.heap.size 5 1 v5 (twoL (l.take (k + 1))).length (u8s (twoL (l.take (k + 1))))) := Lib.hid (by
        rw [HT.out, List.length_append]
        have e : u8s (twoL (l.take k) ++ [(n : Int) % 256, (n : Int) / 256]) = u8s (twoL (l.take k)) ++ [.int .u8 ((n : Int) % 256), .int .u8 ((n : Int) / 256)] := by simp [u8s]
        rw [e]; exact O5)
      clear O5 G5
      go_wp2
      exact ⟨⟨k + 1, by omega, by go_num, HO5.out, HM5.out⟩, by simp only [intOf]; omega⟩
    · have hk2 : k = l.length := by omega
      have HR := Lib.hid (show l.take k = l by rw [hk2, List.take_length])
      rw [HR.out] at O
      have HM := Lib.hid M
      clear M
      go_wp2_with fail
      go_ret
      exact ⟨_, rfl, by rw [u8s_length]; exact O, HM.out⟩
end Go.Proofs.Ytijjkonephjodaa

namespace Go.Proofs.Ytijjkonephjodaa
open Go.RowKit

/-- n bytes of a number, the least significant one first. -/
def leL (v : Int) (n : Nat) : List Int := (List.range n).map fun i => v / 256 ^ i % 256
theorem leL_length (v : Int) (n : Nat) : (leL v n).length = n := by simp [leL]
theorem leL_succ (v : Int) (n : Nat) : leL v (n + 1) = leL v n ++ [v / 256 ^ n % 256] := by simp [leL, List.range_succ]
theorem leL_bytes (v : Int) (n : Nat) : ∀ x ∈ leL v n, 0 ≤ x ∧ x ≤ 255 := by
  intro x hx
  simp only [leL, List.mem_map] at hx
  obtain ⟨i, _, rfl⟩ := hx
  constructor <;> omega
theorem div_pow_succ (v : Int) (k : Nat) : v / 256 ^ k / 256 = v / 256 ^ (k + 1) := by
  rw [Int.pow_succ, Int.ediv_ediv_of_nonneg (Int.pow_nonneg (by decide))]
theorem div_bd (v : Int) (k : Nat) (h : I64 v) : I64 (v / 256 ^ k) := by
  have hp : (0 : Int) < 256 ^ k := Int.pow_pos (by decide)
  have h1 : (1 : Int) ≤ 256 ^ k := hp
  obtain ⟨h0, h2⟩ := h
  constructor
  · rw [Int.le_ediv_iff_mul_le hp]
    have : -9223372036854775808 * (256 : Int) ^ k ≤ -9223372036854775808 * 1 := Int.mul_le_mul_of_nonpos_left (by decide) h1
    omega
  · rcases (by omega : v < 0 ∨ 0 ≤ v) with hn | hn
    · have := Int.ediv_neg_of_neg_of_pos hn hp; omega
    · have : v / 256 ^ k ≤ v := Int.ediv_le_self _ hn
      omega
theorem div_bdU (v : Int) (k : Nat) (h : 0 ≤ v ∧ v ≤ 18446744073709551615) : 0 ≤ v / 256 ^ k ∧ v / 256 ^ k ≤ 18446744073709551615 := by
  have hp : (0 : Int) < 256 ^ k := Int.pow_pos (by decide)
  have : v / 256 ^ k ≤ v := Int.ediv_le_self _ h.1
  exact ⟨Int.ediv_nonneg h.1 (Int.le_of_lt hp), by omega⟩
/-- The bytes of a number are those of its 64 bits. -/
theorem leL_mod (v : Int) (n : Nat) (hn : n ≤ 8) : leL (v % 18446744073709551616) n = leL v n := by
  unfold leL
  refine List.map_congr_left fun i hi => ?_
  have hi := List.mem_range.1 hi
  match i, (show i < 8 by omega) with
  | 0, _ | 1, _ | 2, _ | 3, _ | 4, _ | 5, _ | 6, _ | 7, _ => simp only [Int.reducePow]; omega
set_option maxRecDepth 100000 in
set_option maxHeartbeats 1000000 in
theorem write_ok (w : World) (V : Int) (n : Nat) (hv : I64 V) (hn : n ≤ 100) :
    Calls Try.prog 85 #[.int .i64 V, .int .i64 n] w fun e w' => OwnedBy 5 w (u8s (leL V n)) e w' := by
  obtain ⟨i0, hi, hz0, hz1, hz2⟩ := info_parts Try.infoB
  go_enter Try.func85, Try.ntmps85
  go_wp2_with fail
  go_loopw [0, 5, 7] (fun x s i wr => ∃ (k : Nat) (y : Int), k ≤ n ∧ i = .int .i64 k ∧ x = .int .i64 y ∧ Hid (y = V / 256 ^ k) ∧ wr.ownsRow w.heap.size 5 1 s (u8s (leL V k)).length (u8s (leL V k)) ∧ Mods [] w wr) (fun _ _ i _ => n - (intOf i).toNat)
  case atStart => exact ⟨0, V, Nat.zero_le _, rfl, rfl, Lib.hid (by simp), World.ownsRow_nil _ _ _ _, Mods.refl⟩
  case round =>
    obtain ⟨k, y, hk, rfl, rfl, HY, O, M⟩ := hrel
    by_cases hlt : k < n
    · have hy : I64 y := by rw [HY.out]; exact div_bd V k hv
      have i1 : (0 : Int) ≤ (k : Int) := by omega
      have i2 : (k : Int) < (n : Int) := by omega
      obtain ⟨y1, y2⟩ := hy
      have HS := Lib.hid (leL_succ V k)
      have HM := Lib.hid M
      have HO := Lib.hid O
      have hzw := M.size
      have hln : (u8s (leL V k)).length = k := by rw [u8s_length, leL_length]
      clear M O
      go_wp2_with (at_builtin; refine wpList_push rfl (.tmp 9) (.tmp 12) 33 rfl w.heap.size 5 i0 (.int .u8 0) 1 Try.underlying33 hi hz0 hz1 hz2 rfl _ (u8s (leL V k)).length (u8s (leL V k)) (by rfl) HO.out (.int .u8 (y % 256)) _ (by rfl) (by rfl) (by omega) (by omega) HM.out.size ?_; intro v5 w5 O5 M5)
      have HM5 := Lib.hid (HM.out.then_from M5 (Nat.le_refl _))
      have HO5 : Hid (w5.ownsRow w.heap.size 5 1 v5 (u8s (leL V (k + 1))).length (u8s (leL V (k + 1)))) := Lib.hid (by
        have := own_u8 O5
        rw [u8s_length] at this
        rw [u8s_length, HS.out, ← HY.out, List.length_append]
        exact this)
      clear O5 M5
      go_wp2
      exact ⟨⟨k + 1, y / 256, by omega, by go_num, by go_num, Lib.hid (by rw [HY.out, div_pow_succ]), HO5.out, HM5.out⟩, by simp only [intOf]; omega⟩
    · have hk2 : k = n := by omega
      subst hk2
      have HM := Lib.hid M
      clear M
      go_wp2_with fail
      go_ret
      exact ⟨_, rfl, O, HM.out⟩
set_option maxRecDepth 100000 in
set_option maxHeartbeats 1000000 in
theorem little_ok (w : World) (V : Int) (n : Nat) (hv : 0 ≤ V ∧ V ≤ 18446744073709551615) (hn : n ≤ 100) :
    Calls Try.prog 53 #[.int .u64 V, .int .i64 n] w fun e w' => OwnedBy 5 w (u8s (leL V n)) e w' := by
  obtain ⟨i0, hi, hz0, hz1, hz2⟩ := info_parts Try.infoB
  go_enter Try.func53, Try.ntmps53
  go_wp2_with fail
  go_loopw [0, 5, 6] (fun x s i wr => ∃ (k : Nat) (y : Int), k ≤ n ∧ i = .int .i64 k ∧ x = .int .u64 y ∧ Hid (y = V / 256 ^ k) ∧ wr.ownsRow w.heap.size 5 1 s (u8s (leL V k)).length (u8s (leL V k)) ∧ Mods [] w wr) (fun _ _ i _ => n - (intOf i).toNat)
  case atStart => exact ⟨0, V, Nat.zero_le _, rfl, rfl, Lib.hid (by simp), World.ownsRow_nil _ _ _ _, Mods.refl⟩
  case round =>
    obtain ⟨k, y, hk, rfl, rfl, HY, O, M⟩ := hrel
    by_cases hlt : k < n
    · obtain ⟨y1, y2⟩ : 0 ≤ y ∧ y ≤ 18446744073709551615 := by rw [HY.out]; exact div_bdU V k hv
      have i1 : (0 : Int) ≤ (k : Int) := by omega
      have i2 : (k : Int) < (n : Int) := by omega
      have HS := Lib.hid (leL_succ V k)
      have HM := Lib.hid M
      have HO := Lib.hid O
      have hzw := M.size
      have hln : (u8s (leL V k)).length = k := by rw [u8s_length, leL_length]
      clear M O
      go_wp2_with (at_builtin; refine wpList_push rfl (.tmp 12) (.tmp 16) 33 rfl w.heap.size 5 i0 (.int .u8 0) 1 Try.underlying33 hi hz0 hz1 hz2 rfl _ (u8s (leL V k)).length (u8s (leL V k)) (by rfl) HO.out (.int .u8 (y % 256)) _ (by rfl) (by rfl) (by omega) (by omega) HM.out.size ?_; intro v5 w5 O5 M5)
      have HM5 := Lib.hid (HM.out.then_from M5 (Nat.le_refl _))
      have HO5 : Hid (w5.ownsRow w.heap.size 5 1 v5 (u8s (leL V (k + 1))).length (u8s (leL V (k + 1)))) := Lib.hid (by
        have := own_u8 O5
        rw [u8s_length] at this
        rw [u8s_length, HS.out, ← HY.out, List.length_append]
        exact this)
      clear O5 M5
      go_wp2
      exact ⟨⟨k + 1, y / 256, by omega, by go_num, by go_num, Lib.hid (by rw [HY.out, div_pow_succ]), HO5.out, HM5.out⟩, by simp only [intOf]; omega⟩
    · have hk2 : k = n := by omega
      subst hk2
      have HM := Lib.hid M
      clear M
      go_wp2_with fail
      go_ret
      exact ⟨_, rfl, O, HM.out⟩
end Go.Proofs.Ytijjkonephjodaa
