/- slices.Repeat of one byte, New: contracts. -/
import Derived.Test.YtkdadnlleepkfaaFlashRead
import Derived.Test.YtkdadnlleepkfaaBits
import Derived.Laws.CopyOwn
namespace Go.Proofs.Ytkdadnlleepkfaa
open Go.RowKit
set_option maxRecDepth 100000

theorem madeCells_one (z : Value) (n : Nat) : (madeCells #[z] n).toList = List.replicate n z := toList_madeCells_one z n
theorem splice_fill (c z : Value) (k m N : Nat) : ((List.replicate k c ++ List.replicate (N - k) z).take k ++ (List.replicate m c ++ (List.replicate k c ++ List.replicate (N - k) z).drop (k + m))) = List.replicate (k + m) c ++ List.replicate (N - (k + m)) z := by
  have h1 : (List.replicate k c ++ List.replicate (N - k) z).take k = List.replicate k c := by rw [List.take_append_of_le_length (by simp)]; simp
  have h2 : (List.replicate k c ++ List.replicate (N - k) z).drop (k + m) = List.replicate (N - (k + m)) z := by
    rw [List.drop_append]
    simp
    omega
  rw [h1, h2, ← List.append_assoc, List.replicate_append_replicate]

theorem Mods.setRow {S : List Nat} {a w : World} (h : Mods S a w) {g : Nat} (hg : a.heap.size ≤ g) (cs : Array Value) : Mods S a (w.setRow g cs) :=
  h.comp (S' := [g]) ⟨rfl, rfl, rfl, by simp [World.setRow], fun k _ hn => setRow_other w g k cs (by simpa using hn)⟩ (by intro k hk; simp at hk; subst hk; exact .inr hg)
/-- copy into a row of one's own, as one step of a region, the world behind it known by its facts alone. -/
theorem step_copy {P : Program} {ops : Array Oper} {o : Oper} {a : Act} {w : World} {K : Act → World → Prop} {Q : Exit → Act → World → Prop} {E : Prop} (hgd : o.guard = none) (d s : Operand) (dT sT : TypeId)
    (ho : o.op = .call { callee := .builtin .copy, args := #[d, s], argTypes := #[dT, sT] }) (elem : TypeId) (hu : P.underlying dT = some (.slice elem)) (hsz : (P.info? elem).map (·.size) = some 1)
    (g off dLen dCap : Nat) (ad : Addr) (sLen sCap : Nat) (hd : a.eval d = .slice (some ⟨g, off, none⟩) dLen dCap) (hs : a.eval s = .slice (some ad) sLen sCap)
    (L : List Value) (t : TypeId) (hg : w.heap[g]? = some (.cells L.toArray t (0, 0))) (cs : List Value) (hn : cs.length = Nat.min sLen dLen)
    (hsrc : ∀ j v, cs[j]? = some v → w.cell? (ad.add j) = some v) (hfit : off + cs.length ≤ L.length) (h1 : ∀ v ∈ cs, v.oneCell' = true)
    (h : ∀ w', w'.heap[g]? = some (.cells (L.take off ++ (cs ++ L.drop (off + cs.length))).toArray t (0, 0)) → Mods [g] w w' → K (a.put o.dst (goInt cs.length)) w') :
    if Region.wanted o (yielded ops a.tmps) = true then Oper.wp P o a w K Q else E := by
  have hw : Region.wanted o (yielded ops a.tmps) = true := by simp [Region.wanted, hgd]
  rw [if_pos hw]
  have hrun := run_copy_row (P := P) w dT sT o.type elem g off dLen dCap ad sLen sCap L.toArray t cs hu hsz hg hn hsrc (by simpa using hfit) h1
  unfold Oper.wp
  simp [execOp, ho, resolve, invoke, builtin, hd, hs, hrun, Result.andThen]
  refine h _ ?_ ⟨rfl, rfl, rfl, by simp [World.setRow], fun k _ hk => setRow_other _ _ _ _ (by simpa using hk)⟩
  exact setRow_heap w g _ _ t _ hg
theorem wpList_copy {P : Program} {w : World} {ops : Array Oper} {rest : List Oper} {o : Oper} {a : Act} {Q : Exit → Act → World → Prop} (hgd : o.guard = none) (d s : Operand) (dT sT : TypeId)
    (ho : o.op = .call { callee := .builtin .copy, args := #[d, s], argTypes := #[dT, sT] }) (elem : TypeId) (hu : P.underlying dT = some (.slice elem)) (hsz : (P.info? elem).map (·.size) = some 1)
    (g off dLen dCap : Nat) (ad : Addr) (sLen sCap : Nat) (hd : a.eval d = .slice (some ⟨g, off, none⟩) dLen dCap) (hs : a.eval s = .slice (some ad) sLen sCap)
    (L : List Value) (t : TypeId) (hg : w.heap[g]? = some (.cells L.toArray t (0, 0))) (cs : List Value) (hn : cs.length = Nat.min sLen dLen)
    (hsrc : ∀ j v, cs[j]? = some v → w.cell? (ad.add j) = some v) (hfit : off + cs.length ≤ L.length) (h1 : ∀ v ∈ cs, v.oneCell' = true)
    (h : ∀ w', w'.heap[g]? = some (.cells (L.take off ++ (cs ++ L.drop (off + cs.length))).toArray t (0, 0)) → Mods [g] w w' → wpList P ops Q rest (a.put o.dst (goInt cs.length)) w') : wpList P ops Q (o :: rest) a w :=
  wpList_step fun _ hK => step_copy hgd d s dT sT ho elem hu hsz g off dLen dCap ad sLen sCap hd hs L t hg cs hn hsrc hfit h1 fun w' h2 h3 => hK _ _ (h w' h2 h3)
theorem run_copy_ex {P : Program} (w : World) (dT sT ty elem : TypeId) (g off dLen dCap : Nat) (ad : Addr) (sLen sCap : Nat) (L : List Value) (t : TypeId) (cs : List Value) (hu : P.underlying dT = some (.slice elem)) (hsz : (P.info? elem).map (·.size) = some 1)
    (hg : w.heap[g]? = some (.cells L.toArray t (0, 0))) (hn : cs.length = Nat.min sLen dLen) (hsrc : ∀ j v, cs[j]? = some v → w.cell? (ad.add j) = some v) (hfit : off + cs.length ≤ L.length) (h1 : ∀ v ∈ cs, v.oneCell' = true) :
    ∃ w', (Builtin.copy_ #[dT, sT] ty #[.slice (some ⟨g, off, none⟩) dLen dCap, .slice (some ad) sLen sCap]).run P w = .ok (.int .i64 cs.length) w' ∧ w'.heap[g]? = some (.cells (L.take off ++ (cs ++ L.drop (off + cs.length))).toArray t (0, 0)) ∧ Mods [g] w w' :=
  ⟨_, run_copy_row (P := P) w dT sT ty elem g off dLen dCap ad sLen sCap L.toArray t cs hu hsz hg hn hsrc (by simpa using hfit) h1, by rw [setRow_heap w g _ _ t _ hg, List.append_assoc], ⟨rfl, rfl, rfl, by simp [World.setRow], fun k _ hk => setRow_other _ _ _ _ (by simpa using hk)⟩⟩
/-- k bytes x, the rest of N zero. -/
def fillRow (x : Int) (k N : Nat) : List Value := List.replicate k (Value.int .u8 x) ++ List.replicate (N - k) (Value.int .u8 0)
theorem mul_one_ok (N : Nat) (hN : N ≤ 1000000) (w : World) :
    Calls Try.prog 80 #[.int .u64 1, .int .u64 N] w fun e w' => e = .returned (.tuple #[.int .u64 0, .int .u64 N]) ∧ w = w' := by
  refine (bits_Mul 1 N (by omega) (by omega) w).mono fun e w' ⟨he, hw⟩ => ⟨?_, hw.symm⟩
  rw [he, Nat.one_mul, Nat.div_eq_of_lt (by omega), Nat.mod_eq_of_lt (by omega)]
  rfl

set_option maxHeartbeats 1000000 in
theorem repeat_ok (w : World) (g c1 : Nat) (x : Int) (N : Nat) (hN : 1 ≤ N) (hN2 : N ≤ 1000000) (hv : w.cell? ⟨g, 0, none⟩ = some (.int .u8 x)) :
    Calls Try.prog 45 #[.slice (some ⟨g, 0, none⟩) 1 c1, .int .i64 N] w fun e w' => ∃ gn, e = .returned (.slice (some ⟨gn, 0, none⟩) N N) ∧ w.heap.size ≤ gn ∧ RowAt w' gn 5 N (u8s (List.replicate N x)) ∧ Mods [] w w' := by
  obtain ⟨i0, hi, hz0, hz1, hz2⟩ := info_parts Try.infoB
  have hd0 : decide ((N : Int) < 0) = false := by simp
  go_enter Try.func45, Try.ntmps45
  go_wp2_with fail
  refine (mul_one_ok N hN2 w).mono ?_
  rintro e w' ⟨rfl, rfl⟩
  go_wp2_with (at_make; refine wpList_make_full _ rfl (.tmp 29) (.tmp 29) 61 rfl w.heap.size 5 i0 (.int .u8 0) 1 Try.underlying61 hi hz0 hz1 .i64 .i64 _ _ N rfl rfl rfl rfl (by rw [hz2]; omega) (by unfold maxLen; omega) (Nat.le_refl _) ?_)
  intro w1 ho hg
  have hg1 : w1.heap[w.heap.size]? = some (.cells (List.replicate N (Value.int .u8 0)).toArray 5 (0, 0)) := by
    obtain ⟨_, h | ⟨g', cap', cur, hv', _, h1, _, _, h4, h5⟩⟩ := ho
    · simp at h
    · simp only [Value.slice.injEq, Option.some.injEq, Addr.mk.injEq, and_true, true_and] at hv'
      obtain ⟨rfl, rfl⟩ := hv'
      rw [h1]
      have e : cur.toList = List.replicate N (Value.int .u8 0) := by
        simp only [Nat.mul_one] at h4 h5
        rw [List.take_of_length_le (by rw [Array.length_toList]; omega)] at h5
        rw [h5]
        exact madeCells_one _ _
      rw [← e]
  have M1 : Mods [] w w1 := Mods.refl.grown hg (by simp)
  have hx1 := M1.cell hv (by simp)
  have hne : g ≠ w.heap.size := by have := World.block_lt_of_cell? w _ hv; simp at this; omega
  clear ho hg hv hi hz0 hz1 hz2
  go_wp2_with (with_reducible refine wpList_copy rfl (.tmp 31) (.tmp 32) 61 61 rfl 5 Try.underlying61 (by kernel_rfl) w.heap.size 0 N N ⟨g, 0, none⟩ 1 c1 rfl rfl _ 5 hg1 [.int .u8 x] ?c1 ?c2 ?c3 ?c4 ?_)
  case c1 => exact (Nat.min_eq_left hN).symm
  case c2 =>
    intro j u hj
    match j, hj with
    | 0, hj => simp at hj; subst hj; simpa [Addr.add] using hx1
  case c3 => simp; omega
  case c4 => intro u hu; simp at hu; subst hu; rfl
  intro w2 hg2 hm2
  have M2 := M1.comp hm2 (by intro k hk; simp at hk; subst hk; exact .inr (Nat.le_refl _))
  have hg3 : w2.heap[w.heap.size]? = some (.cells (fillRow x 1 N).toArray 5 (0, 0)) := by
    rw [hg2]
    simp [fillRow]
  clear hg2 hx1 hg1 M1 hm2
  go_wp2_with fail
  go_loopw [8] (fun n wr => ∃ k : Nat, 1 ≤ k ∧ k ≤ N ∧ n = .int .i64 k ∧ wr.heap[w.heap.size]? = some (.cells (fillRow x k N).toArray 5 (0, 0)) ∧ Mods [] w wr) (fun n _ => N - (intOf n).toNat)
  case atStart => exact ⟨1, Nat.le_refl _, hN, rfl, hg3, M2⟩
  case round =>
    obtain ⟨k, hk1, hk2, rfl, hgr, hm⟩ := hrel
    clear hg3 M2
    by_cases hlt : k < N
    · have hk0 : (0 : Int) ≤ (k : Int) := by omega
      have hk3 : (k : Int) ≤ (N : Int) := by omega
      have hk4 : ((k : Int)).toNat = k := by omega
      have hk5 : ¬ N = k := by omega
      have hl1 : (fillRow x k N).length = N := by simp [fillRow]; omega
      have hcs : ∀ j v, (List.replicate (Nat.min k (N - k)) (Value.int .u8 x))[j]? = some v → wr.cell? ((⟨w.heap.size, 0, none⟩ : Addr).add j) = some v := by
        intro j v hj
        have hj2 : j < Nat.min k (N - k) := by rcases Nat.lt_or_ge j (Nat.min k (N - k)) with h | h; exact h; rw [List.getElem?_eq_none (by simpa using h)] at hj; cases hj
        have hj3 : j < k := Nat.lt_of_lt_of_le hj2 (Nat.min_le_left _ _)
        have e : (⟨w.heap.size, 0, none⟩ : Addr).add j = ⟨w.heap.size, j, none⟩ := by unfold Addr.add; split <;> simp_all
        rw [e, cell_blk hgr]
        rw [List.getElem?_replicate, if_pos hj2] at hj
        rw [← hj]
        simp [fillRow, List.getElem?_append, hj3]
      have hmin : Nat.min k (N - k) ≤ N - k := Nat.min_le_right _ _
      have hmin1 : 1 ≤ Nat.min k (N - k) := Nat.le_min.2 ⟨hk1, by omega⟩
      have hmin2 : Nat.min k (N - k) ≤ k := Nat.min_le_left _ _
      obtain ⟨m, hmm⟩ : ∃ m, m = Nat.min k (N - k) := ⟨_, rfl⟩
      rw [← hmm] at hcs hmin hmin1 hmin2
      have e2 := splice_fill (.int .u8 x) (.int .u8 0) k m N
      obtain ⟨w3, hrun, hg4, hm4⟩ := run_copy_ex (P := Try.prog) wr.drew 61 61 3 5 w.heap.size k (N - k) (N - k) ⟨w.heap.size, 0, none⟩ k N (fillRow x k N) 5 (List.replicate m (.int .u8 x)) Try.underlying61 (by kernel_rfl) hgr (by rw [List.length_replicate]; exact hmm) hcs (by rw [List.length_replicate, hl1]; omega) (by intro u hu; rw [List.eq_of_mem_replicate hu]; rfl)
      have hg5 : w3.heap[w.heap.size]? = some (.cells (fillRow x (k + m) N).toArray 5 (0, 0)) := by
        rw [hg4, List.length_replicate]
        exact congrArg (fun l : List Value => some (Obj.cells l.toArray 5 (0, 0))) e2
      rw [List.length_replicate] at hrun
      clear hmm hcs hl1 hgr e2 hg4
      have hm5 : Mods [] w w3 := hm.drew.comp hm4 (by intro k hk; simp at hk; subst hk; exact .inr (Nat.le_refl _))
      have HG5 := Lib.hid hg5
      have HM5 := Lib.hid hm5
      clear hg5 hm4 hm5
      go_wp2_with fail
      go_region
      go_wp2
      go_roundw
      case rel => exact ⟨k + m, by omega, by omega, by simp, HG5.out, HM5.out⟩
      case measure => simp [intOf]; omega
    · have e : k = N := by omega
      subst e
      have HR : Hid (RowAt wr w.heap.size 5 k (u8s (List.replicate k x))) := by
        refine ⟨_, hgr, by simp [fillRow], by simp [u8s], by unfold maxLen; omega, ?_⟩
        simp [fillRow, u8s]
      clear hgr
      go_wp2
      go_ret
      exact ⟨_, rfl, Nat.le_refl _, HR.out, hm⟩
end Go.Proofs.Ytkdadnlleepkfaa
