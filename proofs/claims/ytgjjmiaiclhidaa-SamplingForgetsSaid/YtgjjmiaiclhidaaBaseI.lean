/- Joined texts. slices.Clone of bytes, checksum.Sum8 and Seal8: contracts. | sensor.two: the bytes of numbers of 16 bits; contract. | append of one slice to another, in a guarded operation too. | sensor.Encode of a valid discrete sensor: contract. | append of bytes to bytes of the call's own, whatever the second slice is; a list of bytes laid. | convert.write and the reference's Little: contracts. -/
import Derived.Test.YtgjjmiaiclhidaaBaseH
import Derived.Test.YtgjjmiaiclhidaaBaseA
import Derived.Deep.AppendLies
import Derived.Test.YtgjjmiaiclhidaaBaseC
import Derived.Lib.AppendStr
import Derived.Laws.OwnMore
namespace Go.Proofs.Ytgjjmiaiclhidaa
open Go.RowKit
theorem Try.infoB : (Try.prog.info? 5).map (fun i => (i.zero, i.size, i.bytes)) = some (some (.int .u8 0), 1, 1) := by kernel_rfl

/-- The cells of a reading, as the law on append asks them. -/
theorem rd_news {w : World} {b off : Nat} {l : List Value} (hc : ∀ i, i < l.length → w.cell? ⟨b, off + i, none⟩ = some (l.getD i undef)) : ∀ j u, l[j]? = some u → w.cell? ((⟨b, off, none⟩ : Addr).add j) = some u := by
  intro j u hu
  have hj : j < l.length := by rcases Nat.lt_or_ge j l.length with h | h; exact h; rw [List.getElem?_eq_none h] at hu; cases hu
  have := hc j hj
  rw [List.getD_eq_getElem?_getD, hu] at this
  unfold Addr.add
  split
  · rename_i h0; subst h0; simpa using this
  · simpa using this
def OneCells (l : List Value) : Prop := ∀ u ∈ l, u.oneCell' = true
theorem one_u8s (l : List Int) : OneCells (u8s l) := ints_oneCell _ _
theorem one_i64s (l : List Int) : OneCells (i64s l) := ints_oneCell _ _

/-- A new slice of elements e that reads as l is handed back; nothing that was there has turned. -/
def OwnedBy (T : TypeId) (w : World) (l : List Value) (e : Ending) (w' : World) : Prop := ∃ v', e = .returned v' ∧ w'.ownsRow w.heap.size T 1 v' l.length l ∧ Mods [] w w'

set_option maxHeartbeats 400000 in
theorem cloneB_ok (w : World) (v : Value) (l : List Value) (hv : Rd w v l) (h1 : OneCells l) (hl : l.length ≤ 1000000) :
    Calls Try.prog 108 #[v] w fun e w' => OwnedBy 5 w l e w' := by
  obtain ⟨ad, cap, rfl, hcap, hcap2, hvc⟩ := hv
  obtain ⟨i0, hi, hz0, hz1, hz2⟩ := info_parts Try.infoB
  have hq := fun (w : World) (a : Option Addr) (n c : Nat) => Lib.run_eql_slice_nil (P := Try.prog) w 33 5 a n c 0 0 Try.underlying33
  cases ad with
  | none =>
    have hl0 : l = [] := by
      rcases Nat.eq_zero_or_pos l.length with h | h
      · exact List.eq_nil_of_length_eq_zero h
      · obtain ⟨b, off, h, _⟩ := hvc 0 h; cases h
    subst hl0
    clear hvc
    go_enter Try.func108, Try.ntmps108
    go_wp2
    go_ret
    exact ⟨_, rfl, World.ownsRow_nil _ _ _ _, Mods.refl⟩
  | some a =>
    have hnews : ∀ j u, l[j]? = some u → w.cell? (a.add j) = some u := by
      rcases Nat.eq_zero_or_pos l.length with h | h
      · intro j u hj; rw [List.eq_nil_of_length_eq_zero h] at hj; simp at hj
      · obtain ⟨b, off, ha, hc⟩ := hvc 0 h
        cases ha
        refine rd_news fun i hi => ?_
        obtain ⟨b', off', ha, hc⟩ := hvc i hi
        cases ha
        exact hc
    have HN := Lib.hid hnews
    have H1 := Lib.hid h1
    clear hvc hnews h1
    go_enter Try.func108, Try.ntmps108
    go_wp2_with (at_builtin; refine wpList_append_own _ rfl (.tmp 5) (.tmp 6) 33 rfl w.heap.size 5 i0 (.int .u8 0) 1 1 Try.underlying33 hi hz0 hz1 hz2 rfl (by decide) _ 0 [] rfl (World.ownsRow_lit w #[] 0 (Nat.le_refl _) (Nat.zero_le _) rfl) a l.length cap l rfl (by simp) ?c1 H1.out ?c3 ?c4 ?c5 ?_)
    case c1 =>
      intro j u hj
      have h2 := HN.out j u hj
      exact (Mods.refl (S := [])).alloc _ |>.cell h2 (by simp)
    case c3 => unfold maxLen; omega
    case c4 => omega
    case c5 => simp
    intro v' w1 hown' hgrow _
    have HO := Lib.hid hown'
    have HG := Lib.hid hgrow
    clear hown' hgrow
    go_wp2
    go_ret
    exact ⟨_, rfl, HO.out, (Mods.refl.alloc _).grown HG.out (by intro k hk; simp [Value.ownBlock] at hk; right; omega)⟩


/-- The byte that completes the sum. -/
def sum8 (A : List Int) : Int := -(A.sum) % 256
def seal8 (A : List Int) : List Int := A ++ [sum8 A]
theorem sum_step (A : List Int) (k : Nat) (hk : k < A.length) : ((A.take k).sum % 256 + A.getD k 0) % 256 = (A.take (k + 1)).sum % 256 := by
  rw [List.take_add_one, List.getElem?_eq_getElem hk, List.sum_append, List.getD_eq_getElem?_getD, List.getElem?_eq_getElem hk]
  simp
set_option maxRecDepth 100000 in
set_option maxHeartbeats 1000000 in
theorem sum8_ok (w : World) (v : Value) (A : List Int) (hv : Rd w v (u8s A)) (hb : Bytes A) :
    Calls Try.prog 114 #[v] w fun e w' => e = .returned (.int .u8 (sum8 A)) ∧ Mods [] w w' := by
  have HV := Lib.hid hv
  have HB := Lib.hid hb
  obtain ⟨ad, cap, rfl, h1, h2, _⟩ := hv.u8
  have h3 : cap ≤ 9223372036854775807 := h2
  clear hv hb h2
  go_enter Try.func114, Try.ntmps114
  go_wp2_with fail
  go_loopw [3, 8] (fun s i wr => ∃ k : Nat, k ≤ A.length ∧ i = .int .i64 k ∧ s = .int .u8 ((A.take k).sum % 256) ∧ Mods [] w wr) (fun _ i _ => A.length - (intOf i).toNat)
  case atStart => exact ⟨0, Nat.zero_le _, rfl, by simp, Mods.refl⟩
  case round =>
    obtain ⟨k, hk, rfl, rfl, M⟩ := hrel
    by_cases hlt : k < A.length
    · obtain ⟨_, _, he, _, _, hc⟩ := (HV.out.mods0 M).u8
      obtain ⟨bb, off, rfl, x0⟩ := hc k hlt
      injection he with he1 he2 he3
      subst he1 he3
      clear hc he2
      have i1 : (0 : Int) ≤ (k : Int) := by omega
      have i2 : (k : Int) < (A.length : Int) := by omega
      have HST := Lib.hid (sum_step A k hlt)
      have HM := Lib.hid M
      have hbx := HB.out k
      have hs0 : 0 ≤ (A.take k).sum % 256 ∧ (A.take k).sum % 256 < 256 := by omega
      generalize (A.take k).sum % 256 = s at HST hs0 ⊢
      generalize A.getD k 0 = x at x0 hbx HST
      clear M
      go_wp2_with fail
      exact ⟨⟨k + 1, by omega, by go_num, by rw [← HST.out], HM.out⟩, by simp only [intOf]; omega⟩
    · have hk2 : k = A.length := by omega
      have HR := Lib.hid (show (-((A.take k).sum % 256)) % 256 = sum8 A by rw [hk2, List.take_length, sum8]; omega)
      have HM := Lib.hid M
      generalize (A.take k).sum % 256 = s at HR ⊢
      clear M
      go_wp2_with fail
      go_ret
      exact ⟨ret_int (by first | exact HR.out | (rw [IntKind.wrap_u8]; exact HR.out)), HM.out⟩
theorem sum8_byte (A : List Int) : 0 ≤ sum8 A ∧ sum8 A ≤ 255 := by unfold sum8; omega
set_option maxRecDepth 100000 in
set_option maxHeartbeats 1000000 in
theorem seal8_ok (w : World) (v : Value) (A : List Int) (hv : Rd w v (u8s A)) (hb : Bytes A) (hl : A.length ≤ 100000) :
    Calls Try.prog 76 #[v] w fun e w' => OwnedBy 5 w (u8s (seal8 A)) e w' := by
  have HV := Lib.hid hv
  have HB := Lib.hid hb
  clear hv hb
  obtain ⟨i0, hi, hz0, hz1, hz2⟩ := info_parts Try.infoB
  go_enter Try.func76, Try.ntmps76
  go_wp2_with fail
  refine (cloneB_ok w v (u8s A) HV.out (one_u8s _) (by rw [u8s_length]; omega)).mono ?_
  rintro e w1 ⟨v1, rfl, O1, M1⟩
  go_wp2_with fail
  refine (sum8_ok w1 v A (HV.out.mods0 M1) HB.out).mono ?_
  rintro e w2 ⟨rfl, M2⟩
  have O2 := M2.owns O1 (by simp)
  have M2 := M1.trans M2
  clear M1 O1
  go_wp2_with (at_builtin; refine wpList_push rfl (.tmp 4) (.tmp 7) 33 rfl w.heap.size 5 i0 (.int .u8 0) 1 Try.underlying33 hi hz0 hz1 hz2 rfl v1 (u8s A).length (u8s A) (by rfl) O2 (.int .u8 (sum8 A)) _ (by rfl) (by rfl) (by rw [u8s_length]; omega) (by omega) M2.size ?_; intro v3 w3 O3 M3)
  have M3 := Lib.hid (M2.then_from M3 (Nat.le_refl _))
  have O3 : Hid (w3.ownsRow w.heap.size 5 1 v3 (u8s (seal8 A)).length (u8s (seal8 A))) := Lib.hid (by
    have := own_u8 O3
    rw [u8s_length] at this
    rw [u8s_length, seal8, List.length_append]
    exact this)
  go_wp2
  go_ret
  exact ⟨_, rfl, O3.out, M3.out⟩
end Go.Proofs.Ytgjjmiaiclhidaa

namespace Go.Proofs.Ytgjjmiaiclhidaa
open Go.RowKit

def u16s (l : List Nat) : List Value := l.map fun (n : Nat) => Value.int .u16 (n : Int)
theorem u16s_length (l : List Nat) : (u16s l).length = l.length := by simp [u16s]
/-- The bytes of numbers, the less significant one first. -/
def twoL (l : List Nat) : List Int := l.flatMap fun (n : Nat) => [(n : Int) % 256, (n : Int) / 256]
theorem twoL_length (l : List Nat) : (twoL l).length = l.length * 2 := by
  induction l with
  | nil => rfl
  | cons p l ih => simp only [twoL, List.flatMap_cons, List.length_append, List.length_cons, List.length_nil] at ih ⊢; omega
theorem twoL_take (l : List Nat) (k : Nat) (hk : k < l.length) : twoL (l.take (k + 1)) = twoL (l.take k) ++ [((l.getD k 0 : Nat) : Int) % 256, ((l.getD k 0 : Nat) : Int) / 256] := by
  rw [List.take_add_one, List.getElem?_eq_getElem hk, List.getD_eq_getElem?_getD, List.getElem?_eq_getElem hk, twoL, List.flatMap_append]
  rfl
theorem twoL_bytes (l : List Nat) (h : ∀ n ∈ l, n < 65536) : ∀ x ∈ twoL l, 0 ≤ x ∧ x ≤ 255 := by
  intro x hx
  simp only [twoL, List.mem_flatMap] at hx
  obtain ⟨n, hn, hx⟩ := hx
  have := h n hn
  simp at hx
  rcases hx with rfl | rfl <;> constructor <;> omega
set_option maxRecDepth 100000 in
set_option maxHeartbeats 1000000 in
theorem two_ok (w : World) (v : Value) (l : List Nat) (hv : Rd w v (u16s l)) (hb : ∀ n ∈ l, n < 65536) (hl : l.length ≤ 1000) :
    Calls Try.prog 77 #[v] w fun e w' => OwnedBy 5 w (u8s (twoL l)) e w' := by
  have HV := Lib.hid hv
  have HB := Lib.hid hb
  obtain ⟨ad, cap, hve, h1, h2, _⟩ := hv
  rw [u16s_length] at hve h1
  subst hve
  have h3 : cap ≤ 9223372036854775807 := h2
  clear hb h2
  obtain ⟨i0, hi, hz0, hz1, hz2⟩ := info_parts Try.infoB
  go_enter Try.func77, Try.ntmps77
  go_wp2_with fail
  go_loopw [3, 8] (fun s i wr => ∃ k : Nat, k ≤ l.length ∧ i = .int .i64 k ∧ wr.ownsRow w.heap.size 5 1 s (twoL (l.take k)).length (u8s (twoL (l.take k))) ∧ Mods [] w wr) (fun _ i _ => l.length - (intOf i).toNat)
  case atStart => exact ⟨0, Nat.zero_le _, rfl, World.ownsRow_nil _ _ _ _, Mods.refl⟩
  case round =>
    obtain ⟨k, hk, rfl, O, M⟩ := hrel
    by_cases hlt : k < l.length
    · obtain ⟨_, _, he, _, _, hc⟩ := HV.out.mods0 M
      obtain ⟨bb, off, rfl, x0⟩ := hc k (by rw [u16s_length]; exact hlt)
      injection he with he1 he2 he3
      subst he1 he3
      clear hc he2
      have hx : (u16s l).getD k undef = .int .u16 ((l.getD k 0 : Nat) : Int) := by
        simp [u16s, List.getD_eq_getElem?_getD, List.getElem?_eq_getElem hlt]
      rw [hx] at x0
      have hn : l.getD k 0 < 65536 := HB.out _ (by rw [List.getD_eq_getElem?_getD, List.getElem?_eq_getElem hlt]; exact List.getElem_mem hlt)
      have i1 : (0 : Int) ≤ (k : Int) := by omega
      have i2 : (k : Int) < (l.length : Int) := by omega
      have HT := Lib.hid (twoL_take l k hlt)
      have hln := twoL_length (l.take k)
      have hlt2 : (l.take k).length ≤ 1000 := by simp; omega
      have HO := Lib.hid O
      have HM := Lib.hid M
      generalize l.getD k 0 = n at x0 hn HT
      have hzw := M.size
      clear O M hx
      go_wp2_with (at_builtin; refine wpList_append_own _ rfl (.tmp 12) (.tmp 18) 33 rfl w.heap.size 5 i0 (.int .u8 0) 1 1 Try.underlying33 hi hz0 hz1 hz2 rfl (by decide) _ (twoL (l.take k)).length (u8s (twoL (l.take k))) (by rfl) ((Mods.refl (S := []) (w := wr)).alloc _ |>.owns HO.out (by simp)) ⟨wr.heap.size, 0, none⟩ 2 2 [.int .u8 ((n : Int) % 256), .int .u8 ((n : Int) / 256)] (by rfl) (by rfl) (fun j u hj => World.news_of_block (cs := #[.int .u8 ((n : Int) % 256), .int .u8 ((n : Int) / 256)]) (heap_alloc_new wr _) j u hj) (by intro u hu; simp at hu; rcases hu with rfl | rfl <;> rfl) (by unfold maxLen; omega) (by omega) (by simp; omega) ?_; intro v5 w5 O5 G5 _)
      have HM5 := Lib.hid ((HM.out.alloc _).grown G5 (fun q hq => .inr (World.ownsRow.lt HO.out q hq).1))
      have HO5 : Hid (w5.ownsRow w.heap.size 5 1 v5 (twoL (l.take (k + 1))).length (u8s (twoL (l.take (k + 1))))) := Lib.hid (by
        rw [HT.out, List.length_append]
        have e : u8s (twoL (l.take k) ++ [(n : Int) % 256, (n : Int) / 256]) = u8s (twoL (l.take k)) ++ [.int .u8 ((n : Int) % 256), .int .u8 ((n : Int) / 256)] := by simp [u8s]
        rw [e]; exact O5)
      clear O5 G5
      go_wp2
      exact ⟨⟨k + 1, by omega, by go_num, HO5.out, HM5.out⟩, by simp only [intOf]; omega⟩
    · have hk2 : k = l.length := by omega
      have HR := Lib.hid (show l.take k = l by rw [hk2, List.take_length])
      rw [HR.out] at O
      have HM := Lib.hid M
      clear M
      go_wp2_with fail
      go_ret
      exact ⟨_, rfl, by rw [u8s_length]; exact O, HM.out⟩
end Go.Proofs.Ytgjjmiaiclhidaa

namespace Go.Proofs.Ytgjjmiaiclhidaa
open Go.RowKit
theorem wpList_wanted {P : Program} {ops : Array Oper} {rest : List Oper} {o : Oper} {a : Act} {w : World} {Q : Exit → Act → World → Prop} (hw : Region.wanted o (yielded ops a.tmps) = true)
    (h : ∀ K : Act → World → Prop, (∀ a w, wpList P ops Q rest a w → K a w) → o.wp P a w K Q) : wpList P ops Q (o :: rest) a w :=
  wpList_step fun K hK => by rw [if_pos hw]; exact h K hK
/-- append(s, x...), s the call's own, x owned too (nil or not). -/
theorem wpList_append_two {P : Program} {ops : Array Oper} {rest : List Oper} {o : Oper} {a : Act} {Q : Exit → Act → World → Prop} {w : World} (hw : Region.wanted o (yielded ops a.tmps) = true) (s x : Operand) (t : TypeId)
    (ho : o.op = .call { callee := .builtin .append, args := #[s, x], argTypes := #[t, t] })
    (base : Nat) (e : TypeId) (i : TypeInfo) (z : Value) (bytes : Nat) (ht : P.underlying t = some (.slice e)) (hi : P.info? e = some i) (hz : i.zero = some z)
    (hsize : i.size = 1) (hby : i.bytes = bytes) (hzs : z.cells.size = 1)
    (v : Value) (n : Nat) (xs : List Value) (hs : a.eval s = v) (hown : w.ownsRow base e 1 v n xs) (u : Value) (b2 m : Nat) (e2 : TypeId) (ys : List Value) (hx : a.eval x = u) (hu : w.ownsRow b2 e2 1 u m ys) (h1 : ∀ y ∈ ys, y.oneCell' = true)
    (hn : n + m ≤ 1000000) (hb : bytes ≤ 1000) (hbase : base ≤ w.heap.size)
    (h : ∀ v' w', w'.ownsRow base e 1 v' (n + m) (xs ++ ys) → Mods (from_ base w) w w' → wpList P ops Q rest (a.put o.dst v') w') : wpList P ops Q (o :: rest) a w := by
  refine wpList_wanted hw fun K hK => ?_
  rcases hu.2 with ⟨hun, hm⟩ | ⟨g, cap, cur, hue, _, hg, hc1, hc2, hc3, hc4⟩
  · have hys : ys = [] := List.eq_nil_of_length_eq_zero (by rw [hu.1, hm])
    have hrun := run_append_owned_none (P := P) (w := w) base t o.type e i 1 ht hi v n xs hown
    unfold Oper.wp
    rw [hun] at hx
    simp [execOp, ho, resolve, invoke, builtin, hs, hx, hrun, Result.andThen]
    refine hK _ _ (h v w ?_ Mods.refl)
    rw [hys, hm, List.append_nil]; exact hown
  · rw [hue] at hx
    refine wp_append_own w s x t ho base e i z 1 bytes ht hi hz hsize hby hzs (by decide) v n xs hs hown ⟨g, 0, none⟩ m cap ys hx hu.1 ?_ h1 (by unfold maxLen; omega) ?_ hbase ?_
    · intro j y hj
      have hjl : j < ys.length := by rcases Nat.lt_or_ge j ys.length with hl | hl; exact hl; rw [List.getElem?_eq_none hl] at hj; cases hj
      have e1 : (⟨g, 0, none⟩ : Addr).add j = ⟨g, j, none⟩ := by unfold Addr.add; split <;> simp_all
      have hl := hu.1
      rw [e1, cell_blk hg, ← hj, ← hc4, List.getElem?_take, if_pos (by omega)]
      simp
    · have : (n + m) * bytes ≤ 1000000 * 1000 := Nat.mul_le_mul hn hb
      omega
    · intro v' w' h2 h3 _
      exact hK _ _ (h v' w' h2 (Mods.of_from ((Below.refl base w).grown h3 hbase fun k hk => (hown.lt k hk).1)))
end Go.Proofs.Ytgjjmiaiclhidaa

namespace Go.Proofs.Ytgjjmiaiclhidaa
open Go.RowKit

def nameL (s : ByteArray) : List Int := s.data.toList.map fun b => (b.toNat : Int)
theorem nameL_cells (s : ByteArray) : Lib.strCells s = u8s (nameL s) := by simp [Lib.strCells, u8s, nameL]
theorem nameL_length (s : ByteArray) : (nameL s).length = s.size := by rw [nameL, List.length_map, Array.length_toList]; rfl
theorem nameL_bytes (s : ByteArray) : ∀ x ∈ nameL s, 0 ≤ x ∧ x ≤ 255 := by
  intro x hx
  obtain ⟨b, _, rfl⟩ := List.mem_map.1 hx
  have : b.toNat < 256 := b.toNat_lt
  constructor <;> omega
def flagD (S : Sen) : Int := if S.host then 7 else 5
def headL (S : Sen) (f : Int) : List Int := [1, S.number, S.type, S.unit, S.eid, S.einst, f, S.name.size]
/-- The bytes of a discrete sensor, without the sum. -/
def bodyD (S : Sen) : List Int := headL S (flagD S) ++ nameL S.name ++ twoL [S.states, S.asrt, S.deas]
theorem bytes_of {A : List Int} (h : ∀ x ∈ A, 0 ≤ x ∧ x ≤ 255) : Bytes A := fun i => by
  rcases Nat.lt_or_ge i A.length with hi | hi
  · rw [List.getD_eq_getElem?_getD, List.getElem?_eq_getElem hi]; exact h _ (List.getElem_mem hi)
  · rw [List.getD_eq_getElem?_getD, List.getElem?_eq_none hi]; decide
theorem owns_down {w : World} {B B' size n : Nat} {e : TypeId} {v : Value} {xs : List Value} (h : w.ownsRow B e size v n xs) (hb : B' ≤ B) : w.ownsRow B' e size v n xs := by
  obtain ⟨hl, h⟩ := h
  refine ⟨hl, ?_⟩
  rcases h with h | ⟨g, cap, cur, hv, hg, r⟩
  · exact .inl h
  · exact .inr ⟨g, cap, cur, hv, by omega, r⟩
def EncOut (w : World) (A : List Int) (e : Ending) (w' : World) : Prop :=
  ∃ v', e = .returned (.tuple #[v', .int .i64 0]) ∧ w'.ownsRow w.heap.size 5 1 v' (u8s A).length (u8s A) ∧ Mods [] w w'
set_option maxRecDepth 100000 in
set_option maxHeartbeats 2000000 in
theorem encodeD_ok (w : World) (S : Sen) (P : List Pt) (hS : IsSen w S P) (hd : S.disc = true) (hv : validB S P = true) :
    Calls Try.prog 27 #[.agg S.cells] w fun e w' => EncOut w (seal8 (bodyD S)) e w' := by
  have hsm : S.samples = 1 ∧ S.name.size ≤ 16 := by
    unfold validB at hv
    rw [hd] at hv
    simp only [Bool.and_eq_true, if_true, discB, nameB, decide_eq_true_eq] at hv
    exact ⟨hv.2.1.2.1, hv.1.1.1.2⟩
  obtain ⟨hs1, hn16⟩ := hsm
  have HV := Lib.hid hv
  have HS := Lib.hid hS
  have b0 := hS.number
  have b1 := hS.type
  have b2 := hS.unit
  have b4 := hS.eid
  have b5 := hS.einst
  have b23 := hS.states
  have b24 := hS.asrt
  have b25 := hS.deas
  clear hS hv
  have BB := Lib.hid (SenBox.new w S)
  have M0 := Lib.hid ((Mods.refl (S := []) (w := w)).alloc (.cells S.cells 32))
  obtain ⟨i0, hi, hz0, hz1, hz2⟩ := info_parts Try.infoB
  go_enter Try.func27, Try.ntmps27
  go_wp2_with (refine wpList_load_sen rfl (.tmp 1) rfl BB.out (by rfl) ?_)
  refine (valid_ok _ S P (HS.out.mods0 M0.out)).mono ?_
  rw [HV.out]
  rintro e w2 ⟨rfl, M2⟩
  have B2 := BB.out.mods0 M2
  have HM := Lib.hid (M0.out.trans M2)
  have c27 : w2.cell? ⟨w.heap.size, 27, none⟩ = some (.int .i64 1) := by rw [B2.rest.2.2.2.2.2.2, hs1]
  have c6 : w2.cell? ⟨w.heap.size, 6, none⟩ = some (.bool true) := by rw [B2.head.2.2.2.2.2.2, hd]
  have c26 := B2.rest.2.2.2.2.2.1
  obtain ⟨c0, c1, c2, c3, c4, c5, _⟩ := B2.head
  obtain ⟨_, _, c23, c24, c25, _, _⟩ := B2.rest
  have HH := Lib.hid (B2.blk)
  clear B2 BB M0 M2 HV HS
  generalize hg : w.heap.size = g at c27 c6 c26 c0 c1 c2 c3 c4 c5 c23 c24 c25 HH ⊢
  have HG := Lib.hid hg
  clear hg
  have f1 : bits .or .u8 4 1 = 5 := by decide
  have f2 : bits .or .u8 5 2 = 7 := by decide
  have hnm : S.name.size ≤ 9223372036854775807 := by omega
  cases hh : S.host with
  | false =>
    rw [hh] at c26
    have HF := Lib.hid (show flagD S = 5 by unfold flagD; rw [hh]; rfl)
    clear hh
    have MA := (Mods.refl (S := []) (w := w2)).alloc (.cells #[.int .u8 1, .int .u8 (S.number : Int), .int .u8 (S.type : Int), .int .u8 (S.unit : Int), .int .u8 (S.eid : Int), .int .u8 (S.einst : Int), .int .u8 5, .int .u8 (S.name.size : Int)] 5)
    have ca3 := MA.cell c3 (by simp)
    go_wp2_with (at_builtin; refine Lib.wpList_append_own_string _ rfl (.tmp 41) (.tmp 43) 33 9 rfl w.heap.size 5 i0 Try.underlying33 Try.underlying9 hi hz0 hz1 hz2 _ 8 (u8s (headL S 5)) (by rfl) (World.ownsRow_lit w2 #[.int .u8 1, .int .u8 S.number, .int .u8 S.type, .int .u8 S.unit, .int .u8 S.eid, .int .u8 S.einst, .int .u8 5, .int .u8 S.name.size] 8 HM.out.size (by decide) rfl) S.name (by rfl) (by unfold maxLen; omega) (by omega) (by have := HM.out.size; simp; omega) ?_; intro v3 w3 O3 G3 _; have HM3 := Lib.hid ((HM.out.trans MA).grown G3 (fun q hq => .inr (by simp [Value.ownBlock] at hq; have := HM.out.size; omega))); have HH3 : Hid (w3.heap[g]? = some (.cells S.cells 32 (0, 0))) := Lib.hid ((Mods.of_grown G3).heap (MA.heap HH.out (by simp)) (by have := lt_of_block HH.out; simp [Value.ownBlock]; omega)); have q6 : w3.cell? ⟨g, 6, none⟩ = some (.bool true) := (by rw [cell_blk HH3.out]; rw [cell_blk HH.out] at c6; exact c6); have q23 : w3.cell? ⟨g, 23, none⟩ = some (.int .u16 S.states) := (by rw [cell_blk HH3.out]; rfl); have q24 : w3.cell? ⟨g, 24, none⟩ = some (.int .u16 S.asrt) := (by rw [cell_blk HH3.out]; rfl); have q25 : w3.cell? ⟨g, 25, none⟩ = some (.int .u16 S.deas) := (by rw [cell_blk HH3.out]; rfl); have O3 := Lib.hid O3; clear G3)
    have R4 := heap_alloc_new w3 (.cells #[.int .u16 (S.states : Int), .int .u16 (S.asrt : Int), .int .u16 (S.deas : Int)] 30)
    have M4 := (Mods.refl (S := []) (w := w3)).alloc (.cells #[.int .u16 (S.states : Int), .int .u16 (S.asrt : Int), .int .u16 (S.deas : Int)] 30)
    have O4 := M4.owns O3.out (by simp)
    have HM4 := Lib.hid (HM3.out.trans M4)
    generalize w3.alloc (.cells #[.int .u16 (S.states : Int), .int .u16 (S.asrt : Int), .int .u16 (S.deas : Int)] 30) = w4 at R4 O4 HM4 ⊢
    generalize w3.heap.size = gl at R4 ⊢
    have HRL : Rd w4 (.slice (some ⟨gl, 0, none⟩) 3 3) (u16s [S.states, S.asrt, S.deas]) := ⟨some ⟨gl, 0, none⟩, 3, rfl, Nat.le_refl _, by decide, fun i hi => ⟨gl, 0, rfl, by
      rw [cell_blk R4]
      match i, hi with
      | 0, _ | 1, _ | 2, _ => rfl⟩⟩
    have H16 : ∀ n ∈ [S.states, S.asrt, S.deas], n < 65536 := fun n hn => by simp at hn; rcases hn with rfl | rfl | rfl <;> assumption
    clear MA M4 R4 ca3 q6 q23 q24 q25 c27 c6 c26 c0 c1 c2 c3 c4 c5 c23 c24 c25 HH HH3 O3 HM3
    refine (two_ok w4 _ [S.states, S.asrt, S.deas] HRL H16 (by simp)).mono ?_
    rintro e w5 ⟨v5, rfl, O5, M5⟩
    have O45 := M5.owns O4 (by simp)
    have HM5 := Lib.hid (HM4.out.trans M5)
    have ht6 : (u8s (twoL [S.states, S.asrt, S.deas])).length = 6 := by rw [u8s_length, twoL_length]; rfl
    clear HRL O4 HM4 M5
    go_wp2_with (at_builtin; refine wpList_append_two (by rfl) (.tmp 47) (.tmp 55) 33 rfl w.heap.size 5 i0 (.int .u8 0) 1 Try.underlying33 hi hz0 hz1 hz2 rfl v3 _ _ (by rfl) O45 v5 _ _ _ _ (by rfl) O5 (one_u8s _) (by rw [ht6]; omega) (by omega) HM5.out.size ?_; intro v6 w6 O6 M6)
    have HM6 := Lib.hid (HM5.out.then_from M6 (Nat.le_refl _))
    have HE : (u8s (headL S 5) ++ Lib.strCells S.name) ++ u8s (twoL [S.states, S.asrt, S.deas]) = u8s (bodyD S) := by rw [nameL_cells, bodyD, HF.out]; simp [u8s]
    rw [HE] at O6
    have HB : Bytes (bodyD S) := bytes_of fun x hx => by
      rw [bodyD, HF.out, List.mem_append, List.mem_append] at hx
      rcases hx with (hx | hx) | hx
      · simp only [headL, List.mem_cons, List.mem_nil_iff, or_false] at hx
        rcases hx with rfl | rfl | rfl | rfl | rfl | rfl | rfl | rfl <;> constructor <;> omega
      · exact nameL_bytes _ x hx
      · exact twoL_bytes _ H16 x hx
    have hlen : (bodyD S).length ≤ 100000 := by rw [bodyD, List.length_append, List.length_append, nameL_length, twoL_length]; simp [headL]; omega
    have HR6 := Rd.own O6
    clear O45 O5 O6 M6 HE HM5
    refine (seal8_ok w6 v6 (bodyD S) HR6 HB hlen).mono ?_
    rintro e w7 ⟨v7, rfl, O7, M7⟩
    have HM7 := Lib.hid (HM6.out.trans M7)
    have O7 := Lib.hid (owns_down O7 HM6.out.size)
    clear M7 HR6
    go_wp2
    go_ret2
    exact ⟨_, rfl, O7.out, HM7.out⟩
  | true =>
    rw [hh] at c26
    have HF := Lib.hid (show flagD S = 7 by unfold flagD; rw [hh]; rfl)
    clear hh
    have MA := (Mods.refl (S := []) (w := w2)).alloc (.cells #[.int .u8 1, .int .u8 (S.number : Int), .int .u8 (S.type : Int), .int .u8 (S.unit : Int), .int .u8 (S.eid : Int), .int .u8 (S.einst : Int), .int .u8 7, .int .u8 (S.name.size : Int)] 5)
    have ca3 := MA.cell c3 (by simp)
    go_wp2_with (at_builtin; refine Lib.wpList_append_own_string _ rfl (.tmp 41) (.tmp 43) 33 9 rfl w.heap.size 5 i0 Try.underlying33 Try.underlying9 hi hz0 hz1 hz2 _ 8 (u8s (headL S 7)) (by rfl) (World.ownsRow_lit w2 #[.int .u8 1, .int .u8 S.number, .int .u8 S.type, .int .u8 S.unit, .int .u8 S.eid, .int .u8 S.einst, .int .u8 7, .int .u8 S.name.size] 8 HM.out.size (by decide) rfl) S.name (by rfl) (by unfold maxLen; omega) (by omega) (by have := HM.out.size; simp; omega) ?_; intro v3 w3 O3 G3 _; have HM3 := Lib.hid ((HM.out.trans MA).grown G3 (fun q hq => .inr (by simp [Value.ownBlock] at hq; have := HM.out.size; omega))); have HH3 : Hid (w3.heap[g]? = some (.cells S.cells 32 (0, 0))) := Lib.hid ((Mods.of_grown G3).heap (MA.heap HH.out (by simp)) (by have := lt_of_block HH.out; simp [Value.ownBlock]; omega)); have q6 : w3.cell? ⟨g, 6, none⟩ = some (.bool true) := (by rw [cell_blk HH3.out]; rw [cell_blk HH.out] at c6; exact c6); have q23 : w3.cell? ⟨g, 23, none⟩ = some (.int .u16 S.states) := (by rw [cell_blk HH3.out]; rfl); have q24 : w3.cell? ⟨g, 24, none⟩ = some (.int .u16 S.asrt) := (by rw [cell_blk HH3.out]; rfl); have q25 : w3.cell? ⟨g, 25, none⟩ = some (.int .u16 S.deas) := (by rw [cell_blk HH3.out]; rfl); have O3 := Lib.hid O3; clear G3)
    have R4 := heap_alloc_new w3 (.cells #[.int .u16 (S.states : Int), .int .u16 (S.asrt : Int), .int .u16 (S.deas : Int)] 30)
    have M4 := (Mods.refl (S := []) (w := w3)).alloc (.cells #[.int .u16 (S.states : Int), .int .u16 (S.asrt : Int), .int .u16 (S.deas : Int)] 30)
    have O4 := M4.owns O3.out (by simp)
    have HM4 := Lib.hid (HM3.out.trans M4)
    generalize w3.alloc (.cells #[.int .u16 (S.states : Int), .int .u16 (S.asrt : Int), .int .u16 (S.deas : Int)] 30) = w4 at R4 O4 HM4 ⊢
    generalize w3.heap.size = gl at R4 ⊢
    have HRL : Rd w4 (.slice (some ⟨gl, 0, none⟩) 3 3) (u16s [S.states, S.asrt, S.deas]) := ⟨some ⟨gl, 0, none⟩, 3, rfl, Nat.le_refl _, by decide, fun i hi => ⟨gl, 0, rfl, by
      rw [cell_blk R4]
      match i, hi with
      | 0, _ | 1, _ | 2, _ => rfl⟩⟩
    have H16 : ∀ n ∈ [S.states, S.asrt, S.deas], n < 65536 := fun n hn => by simp at hn; rcases hn with rfl | rfl | rfl <;> assumption
    clear MA M4 R4 ca3 q6 q23 q24 q25 c27 c6 c26 c0 c1 c2 c3 c4 c5 c23 c24 c25 HH HH3 O3 HM3
    refine (two_ok w4 _ [S.states, S.asrt, S.deas] HRL H16 (by simp)).mono ?_
    rintro e w5 ⟨v5, rfl, O5, M5⟩
    have O45 := M5.owns O4 (by simp)
    have HM5 := Lib.hid (HM4.out.trans M5)
    have ht6 : (u8s (twoL [S.states, S.asrt, S.deas])).length = 6 := by rw [u8s_length, twoL_length]; rfl
    clear HRL O4 HM4 M5
    go_wp2_with (at_builtin; refine wpList_append_two (by rfl) (.tmp 47) (.tmp 55) 33 rfl w.heap.size 5 i0 (.int .u8 0) 1 Try.underlying33 hi hz0 hz1 hz2 rfl v3 _ _ (by rfl) O45 v5 _ _ _ _ (by rfl) O5 (one_u8s _) (by rw [ht6]; omega) (by omega) HM5.out.size ?_; intro v6 w6 O6 M6)
    have HM6 := Lib.hid (HM5.out.then_from M6 (Nat.le_refl _))
    have HE : (u8s (headL S 7) ++ Lib.strCells S.name) ++ u8s (twoL [S.states, S.asrt, S.deas]) = u8s (bodyD S) := by rw [nameL_cells, bodyD, HF.out]; simp [u8s]
    rw [HE] at O6
    have HB : Bytes (bodyD S) := bytes_of fun x hx => by
      rw [bodyD, HF.out, List.mem_append, List.mem_append] at hx
      rcases hx with (hx | hx) | hx
      · simp only [headL, List.mem_cons, List.mem_nil_iff, or_false] at hx
        rcases hx with rfl | rfl | rfl | rfl | rfl | rfl | rfl | rfl <;> constructor <;> omega
      · exact nameL_bytes _ x hx
      · exact twoL_bytes _ H16 x hx
    have hlen : (bodyD S).length ≤ 100000 := by rw [bodyD, List.length_append, List.length_append, nameL_length, twoL_length]; simp [headL]; omega
    have HR6 := Rd.own O6
    clear O45 O5 O6 M6 HE HM5
    refine (seal8_ok w6 v6 (bodyD S) HR6 HB hlen).mono ?_
    rintro e w7 ⟨v7, rfl, O7, M7⟩
    have HM7 := Lib.hid (HM6.out.trans M7)
    have O7 := Lib.hid (owns_down O7 HM6.out.size)
    clear M7 HR6
    go_wp2
    go_ret2
    exact ⟨_, rfl, O7.out, HM7.out⟩
end Go.Proofs.Ytgjjmiaiclhidaa

namespace Go.Proofs.Ytgjjmiaiclhidaa
open Go.RowKit

/-- Bytes of the call's own, in a block from B on. -/
def OwnB (w : World) (B : Nat) (v : Value) (A : List Int) : Prop := w.ownsRow B 5 1 v (u8s A).length (u8s A)
section
variable {w W : World} {B B' : Nat} {v : Value} {A : List Int} {S : List Nat}
theorem OwnB.nil (w : World) (B : Nat) : OwnB w B (.slice none 0 0) [] := World.ownsRow_nil _ _ _ _
theorem OwnB.rd (h : OwnB w B v A) : Rd w v (u8s A) := Rd.own h
theorem OwnB.lt (h : OwnB w B v A) : ∀ k, v.ownBlock = some k → B ≤ k ∧ k < w.heap.size := fun k hk => World.ownsRow.lt h k hk
theorem OwnB.mods (h : OwnB w B v A) (M : Mods S w W) (hS : ∀ k, v.ownBlock = some k → k ∉ S) : OwnB W B v A := M.owns h hS
theorem OwnB.mods0 (h : OwnB w B v A) (M : Mods [] w W) : OwnB W B v A := h.mods M (by simp)
theorem OwnB.down (h : OwnB w B v A) (hb : B' ≤ B) : OwnB w B' v A := owns_down h hb
theorem OwnB.lit (w : World) {B : Nat} (hB : B ≤ w.heap.size) (A : List Int) (hA : A.length ≤ maxLen) : OwnB (w.alloc (.cells (u8s A).toArray 5)) B (.slice (some ⟨w.heap.size, 0, none⟩) A.length A.length) A := by
  have := World.ownsRow_lit (base := B) (size := 1) (e := 5) w (u8s A).toArray A.length hB hA (by simp [u8s_length])
  unfold OwnB
  rw [u8s_length]
  exact this
theorem OwnB.apart {w : World} {B : Nat} {v : Value} {A : List Int} (h : OwnB w B v A) {g : Nat} {c : Array Value} {T : TypeId} {fr : Nat × Nat} (R : w.heap[g]? = some (.cells c T fr)) (hT : T ≠ 5) : g ∉ v.ownBlock.toList := fun hm => by
  rcases h.2 with ⟨rfl, _⟩ | ⟨g', cap, cur, rfl, _, hg, _⟩
  · simp [Value.ownBlock] at hm
  · simp [Value.ownBlock] at hm
    subst hm
    rw [R] at hg
    injection hg with hg
    injection hg with _ h2 _
    exact hT h2
theorem OwnB.back {w : World} {B : Nat} {v : Value} {A : List Int} (h : OwnB w B v A) {k : Nat} (hk : k ∈ v.ownBlock.toList) : B ≤ k := (h.lt k (by simpa using hk)).1
end
section
variable {ops : Array Oper} {Q : Exit → Act → World → Prop} {S : World → Prop} {md : Region.Mode}
theorem step_appB {o : Oper} {a : Act} {w : World} {K : Act → World → Prop} {E : Prop} (hw : Region.wanted o (yielded ops a.tmps) = true) (s x : Operand)
    (ho : o.op = .call { callee := .builtin .append, args := #[s, x], argTypes := #[33, 33] })
    {B : Nat} {v : Value} {A : List Int} (hs : a.eval s = v) (hown : OwnB w B v A) {vx : Value} {X : List Int} (hx : a.eval x = vx) (hX : Rd w vx (u8s X))
    (hn : A.length + X.length ≤ 1000000) (hB : B ≤ w.heap.size)
    (h : ∀ v' w', OwnB w' B v' (A ++ X) → Mods v.ownBlock.toList w w' → K (a.put o.dst v') w') :
    if Region.wanted o (yielded ops a.tmps) = true then Oper.wp Try.prog o a w K Q else E := by
  obtain ⟨i0, hi, hz0, hz1, hz2⟩ := info_parts Try.infoB
  rw [if_pos hw]
  obtain ⟨ad, cap, he, hc1, hc2, hc⟩ := hX
  rw [u8s_length] at he hc1 hc
  subst he
  cases ad with
  | none =>
    have hX0 : X = [] := by
      cases X with
      | nil => rfl
      | cons y l => obtain ⟨b, off, h0, _⟩ := hc 0 (by simp); cases h0
    subst hX0
    have hrun : ∀ ty, (Builtin.append_ #[33, 33] ty #[v, .slice none 0 cap]).run Try.prog w = .ok v w := by
      intro ty
      rcases hown.2 with ⟨rfl, _⟩ | ⟨g, cp, cur, rfl, _, _, hnc, _⟩
      · simp [Builtin.append_, run_underlying Try.underlying33, sizeOf, typeInfo, hi, Builtin.lenOf, Builtin.firstCells]
      · simp [Builtin.append_, run_underlying Try.underlying33, sizeOf, typeInfo, hi, Builtin.lenOf, Builtin.firstCells, hnc, storeCells]
    unfold Oper.wp
    simp [execOp, ho, resolve, invoke, builtin, hs, hx, hrun, Result.andThen]
    exact h v w (by rw [List.append_nil]; exact hown) Mods.refl
  | some ad =>
    refine wp_append_own w s x _ ho B 5 i0 _ 1 1 Try.underlying33 hi hz0 hz1 hz2 rfl (by decide) v _ (u8s A) hs hown ad X.length cap (u8s X) hx (by rw [u8s_length, Nat.mul_one]) ?_ (one_u8s X) (by rw [u8s_length]; unfold maxLen; omega) (by rw [u8s_length]; omega) hB ?_
    · intro j u hj
      have hjl : j < X.length := by rcases Nat.lt_or_ge j X.length with hl | hl; exact hl; rw [List.getElem?_eq_none (by rw [u8s_length]; exact hl)] at hj; cases hj
      obtain ⟨b, off, he, _⟩ := hc j hjl
      cases he
      exact rd_news (fun i hi => by
        obtain ⟨b', off', he', hc'⟩ := hc i (by rw [u8s_length] at hi; exact hi)
        cases he'
        exact hc') j u hj
    · intro v' w' h1 h2 _
      refine h v' w' ?_ (Mods.of_grown h2)
      unfold OwnB
      have e : u8s (A ++ X) = u8s A ++ u8s X := by simp [u8s]
      rw [e, List.length_append, u8s_length X]
      exact h1
theorem step_appD {o : Oper} {a : Act} {w : World} {K : Act → World → Prop} {E : Prop} (hw : Region.wanted o (yielded ops a.tmps) = true) (d : Nat) (hd : o.dst = some d) (s x : Operand)
    (ho : o.op = .call { callee := .builtin .append, args := #[s, x], argTypes := #[33, 33] })
    {B : Nat} {v : Value} {A : List Int} (hs : a.eval s = v) (hown : OwnB w B v A) {vx : Value} {X : List Int} (hx : a.eval x = vx) (hX : Rd w vx (u8s X))
    (hn : A.length + X.length ≤ 1000000) (hB : B ≤ w.heap.size)
    (h : ∀ v' w', OwnB w' B v' (A ++ X) → Mods v.ownBlock.toList w w' → K { a with tmps := a.tmps.setIfInBounds d v' } w') :
    if Region.wanted o (yielded ops a.tmps) = true then Oper.wp Try.prog o a w K Q else E :=
  step_appB hw s x ho hs hown hx hX hn hB fun v' w' h1 h2 => by unfold Act.put; rw [hd]; exact h v' w' h1 h2
theorem wpList_appB {rest : List Oper} {o : Oper} {a : Act} {w : World} (hw : Region.wanted o (yielded ops a.tmps) = true) (s x : Operand)
    (ho : o.op = .call { callee := .builtin .append, args := #[s, x], argTypes := #[33, 33] })
    {B : Nat} {v : Value} {A : List Int} (hs : a.eval s = v) (hown : OwnB w B v A) {vx : Value} {X : List Int} (hx : a.eval x = vx) (hX : Rd w vx (u8s X))
    (hn : A.length + X.length ≤ 1000000) (hB : B ≤ w.heap.size)
    (h : ∀ v' w', OwnB w' B v' (A ++ X) → Mods v.ownBlock.toList w w' → wpList Try.prog ops Q rest (a.put o.dst v') w') : wpList Try.prog ops Q (o :: rest) a w :=
  wpList_step fun _ hK => step_appB hw s x ho hs hown hx hX hn hB fun v' w' h1 h2 => hK _ _ (h v' w' h1 h2)
theorem exec_value {P : Program} {o : Oper} {a : Act} {w w' : World} {K : Act → World → Prop} {E : Prop} (hgd : o.guard = none) {d : Nat} (hd : o.dst = some d) {u : Value}
    (hr : (execOp a.eval o).run P w = .ok (.value u) w') (h : K { a with tmps := a.tmps.setIfInBounds d u } w') : if Region.wanted o (yielded ops a.tmps) = true then Oper.wp P o a w K Q else E := by
  rw [if_pos (by simp [Region.wanted, hgd])]
  unfold Oper.wp
  rw [hr, Oper.upon_value]
  unfold Act.put
  rw [hd]
  exact h
/-- append(append(s, x...), literal..): the literal's block may be laid ahead of the first append. -/
theorem appLit {a : Act} {w : World} {oA oL oB : Oper} {iA iL iB dA dL dB sA sX : Nat} {l0 : Array Bool} {fuel : Nat} {B : Nat} {v vx : Value} {A X X2 : List Int}
    (hA : ops[iA]? = some oA) (hL : ops[iL]? = some oL) (hB : ops[iB]? = some oB) (gA : oA.guard = none) (gL : oL.guard = none) (gB : oB.guard = none)
    (eA : oA.dst = some dA) (eL : oL.dst = some dL) (eB : oB.dst = some dB)
    (pA : oA.op = .call { callee := .builtin .append, args := #[.tmp sA, .tmp sX], argTypes := #[33, 33] })
    (pB : oB.op = .call { callee := .builtin .append, args := #[.tmp dA, .tmp dL], argTypes := #[33, 33] })
    (rL0 : ∀ w, (execOp a.eval oL).run Try.prog w = .ok (.value (.slice (some ⟨w.heap.size, 0, none⟩) X2.length X2.length)) (w.alloc (.cells (u8s X2).toArray 5)))
    (rL1 : ∀ (u : Value) w, (execOp ({ a with tmps := a.tmps.setIfInBounds dA u } : Act).eval oL).run Try.prog w = .ok (.value (.slice (some ⟨w.heap.size, 0, none⟩) X2.length X2.length)) (w.alloc (.cells (u8s X2).toArray 5)))
    (t1 : Region.ready md ops l0 = [iA, iL]) (t2 : Region.ready md ops (l0.setIfInBounds iA true) = [iL]) (t3 : Region.ready md ops (l0.setIfInBounds iL true) = [iA]) (t4 : Region.ready md ops ((l0.setIfInBounds iA true).setIfInBounds iL true) = [iB])
    (nI : iA ≠ iL) (nAL : dA ≠ dL) (nA1 : dL ≠ sA) (nA2 : dL ≠ sX) (lA : dA < a.tmps.size) (lL : dL < a.tmps.size)
    (vA : a.tmps.getD sA undef = v) (own : OwnB w B v A) (vX : a.tmps.getD sX undef = vx) (hX : Rd w vx (u8s X)) (hn : A.length + X.length + X2.length ≤ 1000000) (hBw : B ≤ w.heap.size)
    (hK : ∀ w', Mods (from_ B w) w w' → S w')
    (h : ∀ v1 g v3 W, OwnB W B v3 (A ++ X ++ X2) → Mods (from_ B w) w W → wpAnyH Try.prog md ops Q S fuel (((l0.setIfInBounds iA true).setIfInBounds iL true).setIfInBounds iB true) { a with tmps := ((a.tmps.setIfInBounds dA v1).setIfInBounds dL (.slice (some ⟨g, 0, none⟩) X2.length X2.length)).setIfInBounds dB v3 } W) :
    wpAnyH Try.prog md ops Q S (fuel + 3) l0 a w := by
  have hf : ∀ {w1 : World} {v : Value} {A : List Int} {W : World}, OwnB w1 B v A → Mods v.ownBlock.toList w1 W → Mods (from_ B w) w w1 → Mods (from_ B w) w W := fun {w1} {v} {A} {W} h1 h2 h3 => h3.comp h2 fun k hk => by
    rcases Nat.lt_or_ge k w.heap.size with hl | hl
    · left
      have := h1.back hk
      simp [from_, List.mem_range']
      exact ⟨k - B, by omega, by omega⟩
    · exact .inr hl
  have last : ∀ v1 g W, OwnB W B v1 (A ++ X) → Rd W (.slice (some ⟨g, 0, none⟩) X2.length X2.length) (u8s X2) → Mods (from_ B w) w W → wpAnyH Try.prog md ops Q S (fuel + 1) ((l0.setIfInBounds iA true).setIfInBounds iL true) { a with tmps := (a.tmps.setIfInBounds dA v1).setIfInBounds dL (.slice (some ⟨g, 0, none⟩) X2.length X2.length) } W := by
    intro v1 g W O R M
    refine wpAnyH_ready t4 (by simp) (AllReadyH.cons hB (fun _ hk => ?_) AllReadyH.nil)
    refine step_appB (by simp [Region.wanted, gB]) _ _ pB ((getD_set_other nAL.symm).trans (getD_set_same lA)) O (getD_set_same (by simpa using lL)) R (by rw [List.length_append]; omega) (Nat.le_trans hBw M.size) (fun v3 W3 O3 M3 => ?_)
    have M3 := hf O M3 M
    unfold Act.put
    rw [eB]
    exact hk.out _ _ (hK _ M3) (fun _ => h _ _ _ _ O3 M3)
  refine wpAnyH_ready t1 (by simp) (AllReadyH.cons hA (fun _ hk => ?_) (AllReadyH.cons hL (fun _ hk => ?_) AllReadyH.nil))
  · refine step_appB (by simp [Region.wanted, gA]) _ _ pA vA own vX hX (by omega) hBw (fun v1 W1 O1 M1 => ?_)
    have M1 := hf own M1 Mods.refl
    unfold Act.put
    rw [eA]
    refine hk.out _ _ (hK _ M1) (fun _ => ?_)
    refine wpAnyH_ready t2 (by simp) (AllReadyH.cons hL (fun _ hk => ?_) AllReadyH.nil)
    refine exec_value gL eL (rL1 v1 W1) ?_
    exact hk.out _ _ (hK _ (M1.alloc _)) (fun _ => last _ _ _ (O1.mods0 (Mods.refl.alloc _)) (OwnB.lit W1 (Nat.le_refl _) X2 (by unfold maxLen; omega)).rd (M1.alloc _))
  · refine exec_value gL eL (rL0 w) ?_
    have ML := (Mods.refl (S := from_ B w) (w := w)).alloc (.cells (u8s X2).toArray 5)
    have ML0 := (Mods.refl (S := []) (w := w)).alloc (.cells (u8s X2).toArray 5)
    refine hk.out _ _ (hK _ ML) (fun _ => ?_)
    refine wpAnyH_ready t3 (by simp) (AllReadyH.cons hA (fun _ hk => ?_) AllReadyH.nil)
    refine step_appB (by simp [Region.wanted, gA]) _ _ pA ((getD_set_other nA1).trans vA) (own.mods0 ML0) ((getD_set_other nA2).trans vX) (hX.mods0 ML0) (by omega) (Nat.le_trans hBw ML.size) (fun v1 W1 O1 M1 => ?_)
    have R := ((OwnB.lit w (Nat.le_refl _) X2 (by unfold maxLen; omega)).mods M1 (fun k hk => by
      simp [Value.ownBlock] at hk
      intro hm
      have := (own.lt k (by simpa using hm)).2
      omega)).rd
    have M1 := hf (own.mods0 ML0) M1 ML
    unfold Act.put
    rw [eA]
    refine hk.out _ _ (hK _ M1) (fun _ => ?_)
    dsimp only
    rw [Array.setIfInBounds_comm _ _ nAL.symm, Array.setIfInBounds_comm _ _ nI.symm]
    exact last _ _ _ O1 R M1
end
end Go.Proofs.Ytgjjmiaiclhidaa

namespace Go.Proofs.Ytgjjmiaiclhidaa
open Go.RowKit

/-- n bytes of a number, the least significant one first. -/
def leL (v : Int) (n : Nat) : List Int := (List.range n).map fun i => v / 256 ^ i % 256
theorem leL_length (v : Int) (n : Nat) : (leL v n).length = n := by simp [leL]
theorem leL_succ (v : Int) (n : Nat) : leL v (n + 1) = leL v n ++ [v / 256 ^ n % 256] := by simp [leL, List.range_succ]
theorem leL_bytes (v : Int) (n : Nat) : ∀ x ∈ leL v n, 0 ≤ x ∧ x ≤ 255 := by
  intro x hx
  simp only [leL, List.mem_map] at hx
  obtain ⟨i, _, rfl⟩ := hx
  constructor <;> omega
theorem div_pow_succ (v : Int) (k : Nat) : v / 256 ^ k / 256 = v / 256 ^ (k + 1) := by
  rw [Int.pow_succ, Int.ediv_ediv_of_nonneg (Int.pow_nonneg (by decide))]
theorem div_bd (v : Int) (k : Nat) (h : I64 v) : I64 (v / 256 ^ k) := by
  have hp : (0 : Int) < 256 ^ k := Int.pow_pos (by decide)
  have h1 : (1 : Int) ≤ 256 ^ k := hp
  obtain ⟨h0, h2⟩ := h
  constructor
  · rw [Int.le_ediv_iff_mul_le hp]
    have : -9223372036854775808 * (256 : Int) ^ k ≤ -9223372036854775808 * 1 := Int.mul_le_mul_of_nonpos_left (by decide) h1
    omega
  · rcases (by omega : v < 0 ∨ 0 ≤ v) with hn | hn
    · have := Int.ediv_neg_of_neg_of_pos hn hp; omega
    · have : v / 256 ^ k ≤ v := Int.ediv_le_self _ hn
      omega
theorem div_bdU (v : Int) (k : Nat) (h : 0 ≤ v ∧ v ≤ 18446744073709551615) : 0 ≤ v / 256 ^ k ∧ v / 256 ^ k ≤ 18446744073709551615 := by
  have hp : (0 : Int) < 256 ^ k := Int.pow_pos (by decide)
  have : v / 256 ^ k ≤ v := Int.ediv_le_self _ h.1
  exact ⟨Int.ediv_nonneg h.1 (Int.le_of_lt hp), by omega⟩
/-- The bytes of a number are those of its 64 bits. -/
theorem leL_mod (v : Int) (n : Nat) (hn : n ≤ 8) : leL (v % 18446744073709551616) n = leL v n := by
  unfold leL
  refine List.map_congr_left fun i hi => ?_
  have hi := List.mem_range.1 hi
  match i, (show i < 8 by omega) with
  | 0, _ | 1, _ | 2, _ | 3, _ | 4, _ | 5, _ | 6, _ | 7, _ => simp only [Int.reducePow]; omega
set_option maxRecDepth 100000 in
set_option maxHeartbeats 1000000 in
theorem write_ok (w : World) (V : Int) (n : Nat) (hv : I64 V) (hn : n ≤ 100) :
    Calls Try.prog 101 #[.int .i64 V, .int .i64 n] w fun e w' => OwnedBy 5 w (u8s (leL V n)) e w' := by
  obtain ⟨i0, hi, hz0, hz1, hz2⟩ := info_parts Try.infoB
  go_enter Try.func101, Try.ntmps101
  go_wp2_with fail
  go_loopw [0, 5, 7] (fun x s i wr => ∃ (k : Nat) (y : Int), k ≤ n ∧ i = .int .i64 k ∧ x = .int .i64 y ∧ Hid (y = V / 256 ^ k) ∧ wr.ownsRow w.heap.size 5 1 s (u8s (leL V k)).length (u8s (leL V k)) ∧ Mods [] w wr) (fun _ _ i _ => n - (intOf i).toNat)
  case atStart => exact ⟨0, V, Nat.zero_le _, rfl, rfl, Lib.hid (by simp), World.ownsRow_nil _ _ _ _, Mods.refl⟩
  case round =>
    obtain ⟨k, y, hk, rfl, rfl, HY, O, M⟩ := hrel
    by_cases hlt : k < n
    · have hy : I64 y := by rw [HY.out]; exact div_bd V k hv
      have i1 : (0 : Int) ≤ (k : Int) := by omega
      have i2 : (k : Int) < (n : Int) := by omega
      obtain ⟨y1, y2⟩ := hy
      have HS := Lib.hid (leL_succ V k)
      have HM := Lib.hid M
      have HO := Lib.hid O
      have hzw := M.size
      have hln : (u8s (leL V k)).length = k := by rw [u8s_length, leL_length]
      clear M O
      go_wp2_with (at_builtin; refine wpList_push rfl (.tmp 9) (.tmp 12) 33 rfl w.heap.size 5 i0 (.int .u8 0) 1 Try.underlying33 hi hz0 hz1 hz2 rfl _ (u8s (leL V k)).length (u8s (leL V k)) (by rfl) HO.out (.int .u8 (y % 256)) _ (by rfl) (by rfl) (by omega) (by omega) HM.out.size ?_; intro v5 w5 O5 M5)
      have HM5 := Lib.hid (HM.out.then_from M5 (Nat.le_refl _))
      have HO5 : Hid (w5.ownsRow w.heap.size 5 1 v5 (u8s (leL V (k + 1))).length (u8s (leL V (k + 1)))) := Lib.hid (by
        have := own_u8 O5
        rw [u8s_length] at this
        rw [u8s_length, HS.out, ← HY.out, List.length_append]
        exact this)
      clear O5 M5
      go_wp2
      exact ⟨⟨k + 1, y / 256, by omega, by go_num, by go_num, Lib.hid (by rw [HY.out, div_pow_succ]), HO5.out, HM5.out⟩, by simp only [intOf]; omega⟩
    · have hk2 : k = n := by omega
      subst hk2
      have HM := Lib.hid M
      clear M
      go_wp2_with fail
      go_ret
      exact ⟨_, rfl, O, HM.out⟩
set_option maxRecDepth 100000 in
set_option maxHeartbeats 1000000 in
theorem little_ok (w : World) (V : Int) (n : Nat) (hv : 0 ≤ V ∧ V ≤ 18446744073709551615) (hn : n ≤ 100) :
    Calls Try.prog 79 #[.int .u64 V, .int .i64 n] w fun e w' => OwnedBy 5 w (u8s (leL V n)) e w' := by
  obtain ⟨i0, hi, hz0, hz1, hz2⟩ := info_parts Try.infoB
  go_enter Try.func79, Try.ntmps79
  go_wp2_with fail
  go_loopw [0, 5, 6] (fun x s i wr => ∃ (k : Nat) (y : Int), k ≤ n ∧ i = .int .i64 k ∧ x = .int .u64 y ∧ Hid (y = V / 256 ^ k) ∧ wr.ownsRow w.heap.size 5 1 s (u8s (leL V k)).length (u8s (leL V k)) ∧ Mods [] w wr) (fun _ _ i _ => n - (intOf i).toNat)
  case atStart => exact ⟨0, V, Nat.zero_le _, rfl, rfl, Lib.hid (by simp), World.ownsRow_nil _ _ _ _, Mods.refl⟩
  case round =>
    obtain ⟨k, y, hk, rfl, rfl, HY, O, M⟩ := hrel
    by_cases hlt : k < n
    · obtain ⟨y1, y2⟩ : 0 ≤ y ∧ y ≤ 18446744073709551615 := by rw [HY.out]; exact div_bdU V k hv
      have i1 : (0 : Int) ≤ (k : Int) := by omega
      have i2 : (k : Int) < (n : Int) := by omega
      have HS := Lib.hid (leL_succ V k)
      have HM := Lib.hid M
      have HO := Lib.hid O
      have hzw := M.size
      have hln : (u8s (leL V k)).length = k := by rw [u8s_length, leL_length]
      clear M O
      go_wp2_with (at_builtin; refine wpList_push rfl (.tmp 12) (.tmp 16) 33 rfl w.heap.size 5 i0 (.int .u8 0) 1 Try.underlying33 hi hz0 hz1 hz2 rfl _ (u8s (leL V k)).length (u8s (leL V k)) (by rfl) HO.out (.int .u8 (y % 256)) _ (by rfl) (by rfl) (by omega) (by omega) HM.out.size ?_; intro v5 w5 O5 M5)
      have HM5 := Lib.hid (HM.out.then_from M5 (Nat.le_refl _))
      have HO5 : Hid (w5.ownsRow w.heap.size 5 1 v5 (u8s (leL V (k + 1))).length (u8s (leL V (k + 1)))) := Lib.hid (by
        have := own_u8 O5
        rw [u8s_length] at this
        rw [u8s_length, HS.out, ← HY.out, List.length_append]
        exact this)
      clear O5 M5
      go_wp2
      exact ⟨⟨k + 1, y / 256, by omega, by go_num, by go_num, Lib.hid (by rw [HY.out, div_pow_succ]), HO5.out, HM5.out⟩, by simp only [intOf]; omega⟩
    · have hk2 : k = n := by omega
      subst hk2
      have HM := Lib.hid M
      clear M
      go_wp2_with fail
      go_ret
      exact ⟨_, rfl, O, HM.out⟩
end Go.Proofs.Ytgjjmiaiclhidaa
