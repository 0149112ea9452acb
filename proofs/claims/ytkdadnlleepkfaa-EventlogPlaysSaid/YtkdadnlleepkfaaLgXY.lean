/- Joined texts. A log over its device, in a law: what each call leaves. | A filled log over its device, as plain data. No program stands here. | geometry, filled: contracts. | awake: the contract. -/
import Derived.Test.YtkdadnlleepkfaaLgOP
import Derived.Test.YtkdadnlleepkfaaLgGK
import Derived.Test.YtkdadnlleepkfaaLgPl
import Derived.Test.YtkdadnlleepkfaaFlashMake
import Derived.Test.YtkdadnlleepkfaaDiJ
namespace Go.Proofs.Ytkdadnlleepkfaa
open Go.RowKit
set_option linter.unusedVariables false
set_option linter.unusedSimpArgs false
theorem evsK_le (b : Nat → Nat) (G : Geo) (j : Nat) : ∀ k, (evsK b G j k).length ≤ k
  | 0 => by simp [evsK]
  | k + 1 => by
    have := evsK_le b G j k
    simp only [evsK, List.length_append]
    cases evAt b (G.slot j k) <;> simp <;> omega
theorem secR_le (b : Nat → Nat) (G : Geo) (s : Nat) : (secR b G s).length ≤ G.slots := by
  unfold secR
  split
  · split
    · simpa using evsK_le b G ((s - 1) % G.n) G.slots
    · simp
  · simp
theorem recsK_le (b : Nat → Nat) (G : Geo) (t : Nat) : ∀ k, (recsK b G t k).length ≤ k * G.slots
  | 0 => by simp [recsK]
  | k + 1 => by
    have h1 := recsK_le b G t k
    have h2 := secR_le b G (t + k)
    simp only [recsK, List.length_append, Nat.add_mul, Nat.one_mul]
    omega
theorem openS_recs {D : Dev} {G : Geo} (h : Fits G D) : (openS (byt D) G).recs.length ≤ 1000 := by
  obtain ⟨f1, f2, f3, f4, f5, f6⟩ := openS_facts (byt D) G
  have hsl : G.slots ≤ 60 := by
    have h1 := h.ok.s1
    have h2 := h.size
    unfold Geo.slots
    omega
  have hn : G.n ≤ 16 := by have h1 := h.ok.wl; have h2 := h.sec; omega
  unfold openS
  split
  · simp
  · rename_i h0
    have h3 := recsK_le (byt D) G (newS (byt D) G).2 ((newS (byt D) G).1 + 1 - (newS (byt D) G).2)
    have h5 := f5 (by rw [f1]; omega)
    rw [f1, f2] at h5
    have h6 : (newS (byt D) G).1 + 1 - (newS (byt D) G).2 ≤ 15 := by omega
    have h7 := Nat.mul_le_mul h6 hsl
    simp only
    omega
/-- A log over its device, made since the world wb. -/
structure Lw (wb w : World) (q : LogAt) (B : Nat) (p : DevAt) (G : Geo) (D : Dev) (L : LogP) (k : Int) : Prop where
  dev : IsDev w p D
  here : Here w q B p G L
  base : B ≤ w.heap.size
  apart : ∀ x ∈ p.foot, x ∉ q.foot
  sync : Sync G D L
  few : Few D k
  mods : Mods [] wb w
  new : ∀ x ∈ p.foot ++ q.foot, wb.heap.size ≤ x
  num : L.num ≤ 65535
section
variable {wb w w' : World} {q : LogAt} {B : Nat} {p : DevAt} {G : Geo} {D : Dev} {L : LogP} {k : Int}
theorem Here.mods0 (h : Here w q B p G L) (M : Mods [] w w') : Here w' q B p G L := by
  rcases h with ⟨h1, h2⟩ | ⟨h1, h2, h3⟩
  · exact .inl ⟨h1, h2.mods0 M⟩
  · exact .inr ⟨h1, h2, IsLog.mods0 h3 M⟩
theorem Here.lt (h : Here w q B p G L) : ∀ x ∈ q.foot, x < w.heap.size := by
  rcases h with ⟨h1, h2⟩ | ⟨h1, h2, h3⟩
  · exact h2.footlt
  · intro x hx
    simp only [LogAt.foot, h2, List.mem_cons, Option.mem_toList] at hx
    rcases hx with rfl | hx
    · exact lt_of_block h3.blk
    · simp [Value.ownBlock] at hx
theorem Here.mods {S : List Nat} (h : Here w q B p G L) (M : Mods S w w') (hS : ∀ x ∈ q.foot, x ∉ S) : Here w' q B p G L := by
  rcases h with ⟨h1, h2⟩ | ⟨h1, h2, h3⟩
  · exact .inl ⟨h1, h2.mods M hS⟩
  · refine .inr ⟨h1, h2, IsLog.mods h3 M (fun x hx => hS x ?_)⟩
    simp only [LogAt.foot, h2]
    exact hx
theorem Lw.mods0 (h : Lw wb w q B p G D L k) (M : Mods [] w w') : Lw wb w' q B p G D L k :=
  ⟨h.dev.mods0 M, h.here.mods0 M, Nat.le_trans h.base M.size, h.apart, h.sync, h.few, h.mods.trans M, h.new, h.num⟩
theorem Lw.more {m : Int} (h : Lw wb w q B p G D L k) (hm : k ≤ m) : Lw wb w q B p G D L m :=
  ⟨h.dev, h.here, h.base, h.apart, h.sync, h.few.mono hm, h.mods, h.new, h.num⟩
/-- The call's own post, as a state. -/
theorem Lw.next (h : Lw wb w q B p G D L k) {v' : Value} {D' : Dev} {L' : LogP} {m : Int} (hd : IsDev w' p D') (hh : Here w' ⟨q.b, v'⟩ B p G L') (M : Mods (p.foot ++ q.foot) w w') (hv : ∀ y, v'.ownBlock = some y → q.v.ownBlock = some y ∨ w.heap.size ≤ y)
    (hs : Sync G D' L') (hf : Few D' m) (hn : L'.num ≤ 65535) : Lw wb w' ⟨q.b, v'⟩ B p G D' L' m := by
  refine ⟨hd, hh, Nat.le_trans h.base M.size, ?_, hs, hf, h.mods.comp M (fun y hy => .inr (h.new y hy)), ?_, hn⟩
  · intro x hx hm
    simp only [LogAt.foot, List.mem_cons, Option.mem_toList] at hm
    rcases hm with rfl | hm
    · exact h.apart _ hx (by simp [LogAt.foot])
    · rcases hv x hm with h2 | h2
      · exact h.apart _ hx (by simp [LogAt.foot, h2])
      · have := h.dev.lt _ hx; omega
  · intro x hx
    rcases List.mem_append.1 hx with hx | hx
    · exact h.new _ (List.mem_append.2 (.inl hx))
    · simp only [LogAt.foot, List.mem_cons, Option.mem_toList] at hx
      rcases hx with rfl | hx
      · exact h.new _ (by simp [LogAt.foot])
      · rcases hv x hx with h2 | h2
        · exact h.new _ (by simp [LogAt.foot, h2])
        · exact Nat.le_trans h.mods.size h2
theorem Lw.well (h : Lw wb w q B p G D L k) (he : L.ended = false) (hk : k ≤ 4611686018426000000) : Well w q B p G D L := by
  have hs := h.sync.s he
  obtain ⟨f1, f2, f3, f4, f5, f6⟩ := openS_facts (byt D) G
  have hr := openS_recs h.sync.fit
  have hn := next_rng (byt D) G
  rw [← hs] at f3 f4 hr hn
  rcases h.here with ⟨_, h2⟩ | ⟨h1, _, _⟩
  · exact ⟨h.dev, h.sync.fit, h.sync.fit.ok.s1, h.sync.fit.ok.wl, h.few.mono hk, h2, h.base, h.apart, f3, f4, by omega, hn⟩
  · rw [h1] at he; cases he
theorem orEnd_num (D : Dev) (L : LogP) (h : L.num ≤ 65535) : (orEnd D L).num ≤ 65535 := by
  unfold orEnd
  split
  · decide
  · exact h
theorem placeL_num (G : Geo) (D : Dev) (L : LogP) : (placeL G D L).2.2.num = L.num := by
  unfold placeL growL
  split
  · split <;> rfl
  · rfl
theorem addL_num (h : L.num ≤ 65535) (x : Evt) : (addL G D L x).2.2.num ≤ 65535 := by
  unfold addL
  split
  · exact Nat.zero_le 65535
  · split
    · exact h
    · split
      · exact orEnd_num _ _ (by rw [placeL_num]; exact h)
      · split
        · exact orEnd_num _ _ (by rw [placeL_num]; exact h)
        · show (placeL G D L).2.2.num ≤ 65535
          rw [placeL_num]; exact h
theorem clearL_num (h : L.num ≤ 65535) (r : Nat) : (clearL G D L r).2.2.num ≤ 65535 := by
  unfold clearL
  split
  · exact Nat.zero_le 65535
  · split
    · exact h
    · split
      · exact h
      · split
        · exact orEnd_num _ _ h
        · exact h
/-- Add keeps what its sectors hold, whatever comes. -/
theorem addL_sync (h : Sync G D L) (hf : Few D k) (x : Evt) : Sync G (addL G D L x).2.1 (addL G D L x).2.2 ∧ Few (addL G D L x).2.1 (k + 29) := by
  by_cases he : L.ended = true ∨ D.down = true
  · rw [addL_end he]
    refine ⟨⟨h.fit, fun hx => (by cases hx), fun hx => (by cases hx), fun _ => rfl⟩, hf.mono (by omega)⟩
  · have he1 : L.ended = false := by simpa using fun h => he (.inl h)
    have he2 : D.down = false := by simpa using fun h => he (.inr h)
    by_cases hv : (validE x && decide (x.id.val = 0)) = false
    · rw [addL_bad he1 he2 hv]
      exact ⟨h, hf.mono (by omega)⟩
    · have hv' : validE x = true ∧ x.id.val = 0 := by simpa using hv
      have hs := addL_spec h he1 hf hv'.1 hv'.2
      exact ⟨hs.sync, hs.few⟩
theorem Lw.add (h : Lw wb w q B p G D L k) (hk : k ≤ 4611686018426000000) (x : Evt) :
    Calls Try.prog 15 #[.pointer (some ⟨q.b, 0, none⟩), .agg x.cells.toArray] w fun e w' => ∃ v', e = .returned (.tuple #[.int .u16 ((addL G D L x).1.1 : Nat), .int .i64 (addL G D L x).1.2]) ∧
      Lw wb w' ⟨q.b, v'⟩ B p G (addL G D L x).2.1 (addL G D L x).2.2 (k + 29) ∧ Mods (p.foot ++ q.foot) w w' ∧ ∀ y, v'.ownBlock = some y → q.v.ownBlock = some y ∨ w.heap.size ≤ y := by
  have hsy := addL_sync h.sync h.few x
  have hnum := addL_num (G := G) (D := D) h.num x
  cases he : L.ended with
  | false =>
    refine (ladd_ok w q B p G D L (h.well he hk) (fun _ => h.sync.s he) he x).mono ?_
    rintro e w' ⟨v', rfl, hd, hh, hm, hy⟩
    exact ⟨v', rfl, h.next hd hh hm hy hsy.1 hsy.2 hnum, hm, hy⟩
  | true =>
    rcases h.here with ⟨h1, _⟩ | ⟨h1, h2, h3⟩
    · rw [h1] at he; cases he
    · rw [addL_end (.inl he)] at hsy hnum ⊢
      refine (ladd_end w q.b B h3 x).mono ?_
      rintro e w' ⟨rfl, hE, hm⟩
      have hm' : Mods (p.foot ++ q.foot) w w' := hm.mono (fun y hy => .inl (by simp at hy; subst hy; simp [LogAt.foot]))
      refine ⟨.slice none 0 0, rfl, h.next (h.dev.mods hm (fun x hx hm => by simp at hm; subst hm; exact h.apart _ hx (by simp [LogAt.foot]))) (.inr ⟨rfl, rfl, hE⟩) hm' (fun y hy => by simp [Value.ownBlock] at hy) hsy.1 hsy.2 hnum, hm', fun y hy => by simp [Value.ownBlock] at hy⟩
theorem clearL_sync (h : Sync G D L) (hf : Few D k) (r : Nat) : Sync G (clearL G D L r).2.1 (clearL G D L r).2.2 ∧ Few (clearL G D L r).2.1 (k + 12) := by
  by_cases he : L.ended = true ∨ D.down = true
  · have : clearL G D L r = (10, D, endL) := by
      unfold clearL
      rw [if_pos (by rcases he with h | h <;> rw [h] <;> simp)]
    rw [this]
    exact ⟨⟨h.fit, fun hx => (by cases hx), fun hx => (by cases hx), fun _ => rfl⟩, hf.mono (by omega)⟩
  · have he1 : L.ended = false := by simpa using fun h => he (.inl h)
    have hs := clearL_spec h he1 hf r
    exact ⟨hs.sync, hs.few⟩
theorem Lw.clear (h : Lw wb w q B p G D L k) (hk : k ≤ 4611686018426000000) (r : Nat) :
    Calls Try.prog 39 #[.pointer (some ⟨q.b, 0, none⟩), .int .u16 (r : Nat)] w fun e w' => ∃ v', e = .returned (.int .i64 (clearL G D L r).1) ∧
      Lw wb w' ⟨q.b, v'⟩ B p G (clearL G D L r).2.1 (clearL G D L r).2.2 (k + 12) ∧ Mods (p.foot ++ q.foot) w w' ∧ ∀ y, v'.ownBlock = some y → q.v.ownBlock = some y ∨ w.heap.size ≤ y := by
  have hsy := clearL_sync h.sync h.few r
  have hnum := clearL_num (G := G) (D := D) h.num r
  cases he : L.ended with
  | false =>
    refine (lclear_ok w q B p G D L (h.well he hk) he r).mono ?_
    rintro e w' ⟨v', rfl, hd, hh, hm, hy⟩
    exact ⟨v', rfl, h.next hd hh hm hy hsy.1 hsy.2 hnum, hm, hy⟩
  | true =>
    rcases h.here with ⟨h1, _⟩ | ⟨h1, h2, h3⟩
    · rw [h1] at he; cases he
    · have hc : clearL G D L r = (10, D, endL) := by
        unfold clearL
        rw [if_pos (by rw [he]; simp)]
      rw [hc] at hsy hnum ⊢
      refine (lclear_end w q.b B h3 r).mono ?_
      rintro e w' ⟨rfl, hE, hm⟩
      have hm' : Mods (p.foot ++ q.foot) w w' := hm.mono (fun y hy => .inl (by simp at hy; subst hy; simp [LogAt.foot]))
      refine ⟨.slice none 0 0, rfl, h.next (h.dev.mods hm (fun x hx hm => by simp at hm; subst hm; exact h.apart _ hx (by simp [LogAt.foot]))) (.inr ⟨rfl, rfl, hE⟩) hm' (fun y hy => by simp [Value.ownBlock] at hy) hsy.1 hsy.2 hnum, hm', fun y hy => by simp [Value.ownBlock] at hy⟩
theorem Lw.modsS {S : List Nat} (h : Lw wb w q B p G D L k) (M : Mods S w w') (hS : ∀ x ∈ p.foot ++ q.foot, x ∉ S) (hb : ∀ x ∈ S, wb.heap.size ≤ x) : Lw wb w' q B p G D L k :=
  ⟨h.dev.mods M (fun x hx => hS x (List.mem_append.2 (.inl hx))), h.here.mods M (fun x hx => hS x (List.mem_append.2 (.inr hx))), Nat.le_trans h.base M.size, h.apart, h.sync, h.few, h.mods.comp M (fun y hy => .inr (hb y hy)), h.new, h.num⟩
theorem Lw.lt (h : Lw wb w q B p G D L k) : ∀ x ∈ p.foot ++ q.foot, x < w.heap.size := fun x hx => by
  rcases List.mem_append.1 hx with hx | hx
  · exact h.dev.lt _ hx
  · exact h.here.lt _ hx
/-- The log as it lies, ended or not. -/
theorem Lw.lies (h : Lw wb w q B p G D L k) : ∃ pd first n, IsLog w q B pd first n L := by
  rcases h.here with ⟨_, h2⟩ | ⟨h1, h2, h3⟩
  · exact ⟨_, _, _, h2⟩
  · obtain ⟨qb, qv⟩ := q
    simp only at h2
    subst h1 h2
    exact ⟨_, _, _, h3⟩
theorem Lw.recs (h : Lw wb w q B p G D L k) : L.s.recs.length ≤ 1000 := by
  cases he : L.ended with
  | false => rw [h.sync.s he]; exact openS_recs h.sync.fit
  | true => rw [h.sync.e he]; decide
theorem Lw.get (h : Lw wb w q B p G D L k) (t : Nat) :
    Calls Try.prog 30 #[.pointer (some ⟨q.b, 0, none⟩), .int .u16 (t : Nat)] w fun e w' => e = .returned (.tuple #[.agg (getR L.s.recs t).1.cells.toArray, .int .u16 ((getR L.s.recs t).2.1 : Nat), .int .i64 (getR L.s.recs t).2.2]) ∧ Mods [] w w' := by
  obtain ⟨pd, first, n, hl⟩ := h.lies
  exact lget_ok w q B first n pd L hl (by have := h.recs; omega) t
theorem Lw.len (h : Lw wb w q B p G D L k) : Calls Try.prog 25 #[.pointer (some ⟨q.b, 0, none⟩)] w fun e w' => e = .returned (.int .i64 (L.s.recs.length : Nat)) ∧ w = w' := by
  obtain ⟨pd, first, n, hl⟩ := h.lies
  exact llen_ok w q B first n pd L hl
theorem Lw.full (h : Lw wb w q B p G D L k) : Calls Try.prog 24 #[.pointer (some ⟨q.b, 0, none⟩)] w fun e w' => e = .returned (.bool L.full) ∧ w = w' := by
  obtain ⟨pd, first, n, hl⟩ := h.lies
  exact lfull_ok w q B first n pd L hl
theorem Lw.records (h : Lw wb w q B p G D L k) : Calls Try.prog 28 #[.pointer (some ⟨q.b, 0, none⟩)] w fun e w' => RecsPost w (L.s.recs.map (·.2)) e w' := by
  obtain ⟨pd, first, n, hl⟩ := h.lies
  exact lrecords_ok w q B first n pd L hl h.base (by have := h.recs; omega)
/-- A log opened anew. -/
theorem Lw.open (h : IsDev w p D) (F : Fits G D) (hd : D.down = false) (hf : Few D k) (M : Mods [] wb w) (hn : ∀ x ∈ p.foot, wb.heap.size ≤ x) (over : Bool) :
    Calls Try.prog 13 #[.pointer (some ⟨p.b, 0, none⟩), .int .i64 (G.first : Nat), .int .i64 (G.n : Nat), .bool over] w fun e w' => ∃ q : LogAt, e = .returned (.tuple #[.pointer (some ⟨q.b, 0, none⟩), .int .i64 0]) ∧ Lw wb w' q (w.heap.size + 1) p G D (mkL over (openS (byt D) G)) k ∧ Mods [] w w' := by
  refine (open_ok w p D h G F hd F.ok.wl F.ok.s1 over).mono ?_
  rintro e w' ⟨q, rfl, hl, hq, hm⟩
  have hqf : ∀ x ∈ q.foot, w.heap.size ≤ x := fun x hx => by
    simp only [LogAt.foot, List.mem_cons, Option.mem_toList] at hx
    rcases hx with rfl | hx
    · exact hq
    · have := (hl.own.lt _ hx).1; omega
  refine ⟨q, rfl, ⟨h.mods0 hm, .inl ⟨rfl, hl⟩, ?_, ?_, ⟨F, fun _ => hd, fun _ => rfl, fun hx => (by cases hx)⟩, hf, M.trans hm, ?_, Nat.zero_le 65535⟩, hm⟩
  · have := lt_of_block hl.blk
    have := hl.lt
    omega
  · intro x hx hm
    have h1 := hqf x hm
    have h2 := h.lt _ hx
    omega
  · intro x hx
    rcases List.mem_append.1 hx with hx | hx
    · exact hn _ hx
    · exact Nat.le_trans M.size (hqf x hx)
end
end Go.Proofs.Ytkdadnlleepkfaa

namespace Go.Proofs.Ytkdadnlleepkfaa
set_option linter.unusedVariables false
/-- How many of n events find room. -/
def fillM (G : Geo) (over : Bool) (n : Nat) : Nat := if over then n else min n ((G.n - 1) * G.slots)
def fillL (G : Geo) (over : Bool) (ev : Nat → Evt) (n : Nat) : LogP := ⟨over, !over && decide ((G.n - 1) * G.slots < n), false, false, 0, fillS G.slots G.n ev (fillM G over n)⟩
theorem fresh_fits {N z : Nat} (h1 : 2 ≤ N) (h2 : N ≤ 16) (h3 : 64 ≤ z) (h4 : z ≤ 1024) {n : Nat} (hn : 2 ≤ n) {f : Nat} (hf : f + n ≤ N) : Fits ⟨f, n, z⟩ (Dev.fresh N z) :=
  ⟨Dev.fresh_ok h2 (by omega) h4, rfl, by show _ ≤ (List.replicate N (0 : Int)).length; simpa using hf, hn, h3⟩
theorem fresh_few (N z : Nat) : Few (Dev.fresh N z) 0 := ⟨Int.le_refl _, fun i => by
  show (List.replicate N (0 : Int)).getD i 0 ≤ 0
  rw [getD_replicate]
  split <;> omega⟩
theorem fresh_calm (N z : Nat) : Calm (Dev.fresh N z) := ⟨rfl, Int.le_refl _⟩
theorem fresh_open {N z : Nat} (G : Geo) (hz : 64 ≤ z) (hG : G.size = z) (hs : G.first + G.n ≤ N) (hn : 0 < G.n) : openS (byt (Dev.fresh N z)) G = ⟨0, 0, 0, 1, []⟩ := by
  have hh : ∀ j, j < G.n → hd (byt (Dev.fresh N z)) G j = none := by
    intro j hj
    unfold hd
    have hb : byt (Dev.fresh N z) (G.at j + 10) = 255 := by
      unfold byt
      show ((List.replicate (N * z) (255 : Int)).getD (G.at j + 10) 0).toNat = 255
      rw [getD_replicate, if_pos]
      · rfl
      · unfold Geo.at
        rw [hG]
        have h1 : (G.first + j + 1) * z ≤ N * z := Nat.mul_le_mul_right _ (by omega)
        rw [Nat.add_mul, Nat.one_mul] at h1
        omega
    rw [if_neg (fun hc => by rw [hb] at hc; omega)]
  unfold openS
  rw [if_pos (by rw [newS_zero hh hn])]
theorem fillL_zero (G : Geo) (over : Bool) (ev : Nat → Evt) (hK : 1 ≤ G.slots) : fillL G over ev 0 = ⟨over, false, false, false, 0, ⟨0, 0, 0, 1, []⟩⟩ := by
  have hm : fillM G over 0 = 0 := by unfold fillM; split <;> simp
  unfold fillL
  rw [hm, fillS_zero, Nat.div_eq_of_lt (show 0 + G.slots - 1 < G.slots by omega)]
  simp
theorem fillM_le (G : Geo) (over : Bool) (n : Nat) : fillM G over n ≤ n := by unfold fillM; split <;> omega
theorem fillS_newest (K N : Nat) (ev : Nat → Evt) (i : Nat) (hK : 1 ≤ K) : (fillS K N ev i).newest ≤ i := by
  show (i + K - 1) / K ≤ i
  rcases Nat.eq_zero_or_pos i with h | h
  · subst h; rw [Nat.div_eq_of_lt (by omega)]; omega
  · refine Nat.div_le_of_le_mul ?_
    have : K + i ≤ K * i + 1 := by
      obtain ⟨a, rfl⟩ : ∃ a, K = a + 1 := ⟨K - 1, by omega⟩
      obtain ⟨c, rfl⟩ : ∃ c, i = c + 1 := ⟨i - 1, by omega⟩
      simp only [Nat.add_mul, Nat.mul_add]
      omega
    omega
/-- One event more. -/
theorem fillL_add {G : Geo} {D : Dev} {over : Bool} {ev : Nat → Evt} {i : Nat} {k : Int} (h : Sync G D (fillL G over ev i)) (hc : Calm D) (hf : Few D k) (hi : i ≤ 1000) (hv : validE (ev i) = true ∧ (ev i).id.val = 0) :
    (addL G D (fillL G over ev i) (ev i)).2.2 = fillL G over ev (i + 1) ∧ (addL G D (fillL G over ev i) (ev i)).1 = (if over = true ∨ i < (G.n - 1) * G.slots then (i + 1, 0) else (0, 9)) := by
  have hK := slots_pos h.fit
  have hN := h.fit.n2
  have hs := addL_spec h rfl hf hv.1 hv.2
  have hcl := calm_addL (G := G) hc (fillL G over ev i) (ev i)
  by_cases hr : over = true ∨ i < (G.n - 1) * G.slots
  · have hm : fillM G over i = i := by
      unfold fillM
      rcases hr with h | h
      · rw [if_pos h]
      · split <;> omega
    have hm1 : fillM G over (i + 1) = i + 1 := by
      unfold fillM
      rcases hr with h | h
      · rw [if_pos h]
      · split <;> omega
    have hfl : (!over && decide ((G.n - 1) * G.slots < i)) = (!over && decide ((G.n - 1) * G.slots < i + 1)) := by
      rcases hr with h | h
      · rw [h]; rfl
      · rw [decide_eq_false (by omega), decide_eq_false (by omega)]
    have hls : (fillL G over ev i).s = fillS G.slots G.n ev i := by unfold fillL; rw [hm]
    obtain ⟨S0, hb, hmo⟩ := fill_step (ev := ev) (G := G) (L := fillL G over ev i) hN (by omega) (by omega) hls (hr.imp (fun h => h) (fun h => h))
    rw [if_pos hr]
    rcases hs.out with ⟨r, _, S1, hb1, hL⟩ | ⟨_, _, _, hn, ht⟩ | ⟨_, _, _, hq⟩ | ⟨_, hd, _⟩
    · rw [hb] at hb1
      injection hb1 with hb1
      subst hb1
      rw [hL, hmo]
      refine ⟨?_, ?_⟩
      · unfold fillL
        rw [hm1, hfl]
      · rw [r, hls]; rfl
    · exfalso
      unfold baseS at hb
      rw [if_pos hn, ht] at hb
      cases hb
    · exfalso
      have := fillS_newest G.slots G.n ev i (by omega)
      rw [hls] at hq
      omega
    · rw [hcl.1] at hd; cases hd
  · have ho : over = false := by simpa using fun h => hr (.inl h)
    have hge : (G.n - 1) * G.slots ≤ i := by have := fun h => hr (.inr h); omega
    have hm : fillM G over i = (G.n - 1) * G.slots := by unfold fillM; rw [ho]; simp; omega
    have hm1 : fillM G over (i + 1) = (G.n - 1) * G.slots := by unfold fillM; rw [ho]; simp; omega
    have hls : (fillL G over ev i).s = fillS G.slots G.n ev ((G.n - 1) * G.slots) := by unfold fillL; rw [hm]
    obtain ⟨hn, ht⟩ := fill_full (ev := ev) (G := G) (L := fillL G over ev i) hN (by omega) hls ho
    rw [if_neg hr]
    rcases hs.out with ⟨r, _, S1, hb1, hL⟩ | ⟨r, _, hL, _, _⟩ | ⟨_, _, _, hq⟩ | ⟨_, hd, _⟩
    · exfalso
      unfold baseS at hb1
      rw [if_pos hn, ht] at hb1
      cases hb1
    · refine ⟨?_, r⟩
      rw [hL]
      unfold fillL
      rw [hm, hm1, ho]
      simp
      omega
    · exfalso
      have := fillS_newest G.slots G.n ev ((G.n - 1) * G.slots) (by omega)
      rw [hls] at hq
      omega
    · rw [hcl.1] at hd; cases hd
end Go.Proofs.Ytkdadnlleepkfaa

namespace Go.Proofs.Ytkdadnlleepkfaa
open Go.RowKit
set_option linter.unusedVariables false
set_option linter.unusedSimpArgs false
theorem results_tmp4 {fn : Func} {t u v x : Tmp} (h : fn.results = #[.tmp t, .tmp u, .tmp v, .tmp x]) (tmps : Array Value) (P : Program) (w : World) :
    (results fn tmps).run P w = .ok (.tuple #[tmps.getD t undef, tmps.getD u undef, tmps.getD v undef, tmps.getD x undef]) w := by
  simp [results, h]
/-- The place of the dice behind j events, and the j-th event. -/
def evP (L : List Int) : Nat → Nat
  | 0 => 0
  | j + 1 => evN L (evP L j)
def evJ (L : List Int) (j : Nat) : Evt := evF L (evP L j)
set_option maxHeartbeats 400000 in
theorem geometry_ok (w : World) (s z : Int) (hs : I64 s) (hz : I64 z) :
    Calls Try.prog 18 #[.int .i64 s, .int .i64 z] w fun e w' => e = .returned (.tuple #[.int .i64 (2 + s % 3), .int .i64 (64 + z % 40)]) ∧ w = w' := by
  have h1 := Lib.hid (fun W => mod_ok s 3 W hs (by omega) (by omega))
  have h2 := Lib.hid (fun W => mod_ok z 40 W hz (by omega) (by omega))
  have a1 : 0 ≤ s % 3 := by omega
  have a2 : s % 3 < 3 := by omega
  have b1 : 0 ≤ z % 40 := by omega
  have b2 : z % 40 < 40 := by omega
  generalize s % 3 = x at h1 a1 a2 ⊢
  generalize z % 40 = y at h2 b1 b2 ⊢
  clear hs hz
  go_enter Try.func18, Try.ntmps18
  go_wp2_with fail
  refine (h1.out _).mono ?_
  rintro e w' ⟨rfl, rfl⟩
  go_wp2_with fail
  refine (h2.out _).mono ?_
  rintro e w' ⟨rfl, rfl⟩
  go_wp2_with fail
  go_ret2
  exact ⟨rfl, rfl⟩
def FilledPost (w : World) (G : Geo) (over : Bool) (ev : Nat → Evt) (n : Nat) (e : Ending) (w' : World) : Prop :=
  ∃ (p : DevAt) (qb : Nat) (v vr : Value) (B : Nat) (D : Dev) (k : Int) (B2 : Nat), e = .returned (.tuple #[.pointer (some ⟨p.b, 0, none⟩), .pointer (some ⟨qb, 0, none⟩), vr, .bool true]) ∧
    Lw w w' ⟨qb, v⟩ B p G D (fillL G over ev n) k ∧ k ≤ 100000 ∧ Calm D ∧ OwnE evE w' B2 vr ((fillL G over ev n).s.recs.map (·.2)) ∧ (∀ x ∈ p.foot ++ LogAt.foot ⟨qb, v⟩, x < B2) ∧ w.heap.size ≤ B2
set_option maxRecDepth 100000 in
set_option maxHeartbeats 4000000 in
theorem filled_ok (w : World) (N z : Nat) (h1 : 2 ≤ N) (h2 : N ≤ 16) (h3 : 64 ≤ z) (h4 : z ≤ 1024) (over : Bool) (vl : Value) (Ls : List Int) (hv : Rd w vl (i64s Ls)) (hl : Ls.length ≤ 1000000) (hb : ∀ i, I64 (Ls.getD i 0)) (n : Nat) (hn : n ≤ 100) :
    Calls Try.prog 19 #[.int .i64 (N : Nat), .int .i64 (z : Nat), .bool over, vl, .int .i64 (n : Nat)] w fun e w' => FilledPost w ⟨0, N, z⟩ over (evJ Ls) n e w' := by
  have HN := Lib.hid (new_ok N z (by omega) h2 h3 h4 w)
  have HV := Lib.hid hv
  have HB := Lib.hid hb
  have HL := Lib.hid hl
  have HG := Lib.hid (And.intro h1 (And.intro h2 (And.intro h3 h4)))
  have HNN := Lib.hid hn
  have HRLT := Lib.hid (fun hx y hy => hv.block_lt (fun e => hx (List.eq_nil_of_length_eq_zero (by rw [← i64s_length, e]; rfl))) y hy : Ls ≠ [] → ∀ y, vl.ownBlock = some y → y < w.heap.size)
  clear hv hl hb h1 h2 h3 h4 hn
  go_enter Try.func19, Try.ntmps19
  go_wp2_with fail
  refine HN.out.mono ?_
  rintro e w1 ⟨p, rfl, hd, hm, hp⟩
  have HD := Lib.hid hd
  have HM := Lib.hid hm
  have HP := Lib.hid hp
  clear hd hm hp
  obtain ⟨G, hG⟩ : ∃ G : Geo, G = ⟨0, N, z⟩ := ⟨_, rfl⟩
  have HGE := Lib.hid hG
  have HF := Lib.hid (show Fits G (Dev.fresh N z) by rw [hG]; exact fresh_fits HG.out.1 HG.out.2.1 HG.out.2.2.1 HG.out.2.2.2 HG.out.1 (by omega))
  have HOP := Lib.hid (show Calls Try.prog 13 #[.pointer (some ⟨p.b, 0, none⟩), .int .i64 0, .int .i64 (N : Nat), .bool over] w1 fun e w' => ∃ q : LogAt, e = .returned (.tuple #[.pointer (some ⟨q.b, 0, none⟩), .int .i64 0]) ∧ Lw w w' q (w1.heap.size + 1) p G (Dev.fresh N z) (fillL G over (evJ Ls) 0) 0 ∧ Mods [] w1 w' by
    have h := Lw.open HD.out HF.out rfl (fresh_few N z) HM.out HP.out over
    have ho := fresh_open (N := N) G HG.out.2.2.1 (by rw [hG]) (by rw [hG]; simp) (by rw [hG]; show 0 < N; have := HG.out.1; omega)
    rw [ho] at h
    rw [fillL_zero G over (evJ Ls) (by have := slots_pos HF.out; omega)]
    rw [hG] at h ⊢
    exact h)
  clear hG
  go_wp2_with fail
  refine HOP.out.mono ?_
  rintro e w2 ⟨⟨qb, v0⟩, rfl, hlw, hm2⟩
  have HLW := Lib.hid hlw
  clear hlw hm2
  go_wp2_with fail
  refine (roll_ok w2 vl Ls (HV.out.mods0 HLW.out.mods) HL.out HB.out).mono ?_
  rintro e w3 ⟨rfl, hd3, hm3, hz3⟩
  have HD3 := Lib.hid hd3
  have HLW3 := Lib.hid (HLW.out.mods0 hm3)
  have HBD := Lib.hid (show ∀ x ∈ p.foot ++ LogAt.foot ⟨qb, v0⟩, x < w2.heap.size from HLW.out.lt)
  have HBW := Lib.hid (show w.heap.size ≤ w2.heap.size from HLW.out.mods.size)
  clear hd3 hm3 hz3
  generalize w2.heap.size = bd at HD3 HBD HBW ⊢
  go_wp2_with fail
  clear HN HOP HLW HM HP HD
  have hn0 : (0 : Int) ≤ (n : Int) := by omega
  go_loopw [19] (fun i' wr => ∃ (i : Nat) (v : Value) (D : Dev), i' = .int .i64 (i : Nat) ∧ i ≤ n ∧ Lw w wr ⟨qb, v⟩ (w1.heap.size + 1) p G D (fillL G over (evJ Ls) i) (29 * (i : Int)) ∧ Calm D ∧ IsDice wr bd vl Ls (evP Ls i) ∧ bd ∉ p.foot ++ LogAt.foot ⟨qb, v⟩) (fun i' _ => n - (intOf i').toNat)
  case atStart => exact ⟨0, v0, _, rfl, Nat.zero_le _, HLW3.out.more (by omega), fresh_calm N z, HD3.out, fun h => Nat.lt_irrefl _ (HBD.out _ h)⟩
  case round =>
    obtain ⟨i, v, D, rfl, hi, hlw, hc, hd, hbd⟩ := hrel
    have HW := Lib.hid hlw
    have HC := Lib.hid hc
    have HDI := Lib.hid hd
    have HBN := Lib.hid hbd
    clear hlw hc hd hbd
    have i0 : (0 : Int) ≤ (i : Int) := by omega
    by_cases hlt : i < n
    · have i1 : (i : Int) < (n : Int) := by omega
      have hn100 := HNN.out
      have i2 : (n : Int) ≤ 100 := by omega
      have HEV := Lib.hid (evF_ok Ls (evP Ls i))
      have HST := Lib.hid (fillL_add (ev := evJ Ls) HW.out.sync HC.out HW.out.few (by omega) HEV.out)
      have HCA := Lib.hid (calm_addL (G := G) HC.out (fillL G over (evJ Ls) i) (evJ Ls i))
      have HEC := Lib.hid (show Calls Try.prog 22 #[.pointer (some ⟨bd, 0, none⟩)] wr fun e w' => e = .returned (.agg (evJ Ls i).cells.toArray) ∧ IsDice w' bd vl Ls (evP Ls (i + 1)) ∧ Mods [bd] wr w' from event_ok wr bd vl Ls (evP Ls i) HDI.out)
      clear hn100
      go_wp2_with fail
      refine HEC.out.mono ?_
      rintro e w4 ⟨rfl, hd4, hm4⟩
      have HW4 := Lib.hid (HW.out.modsS hm4 (fun x hx hm => by simp at hm; subst hm; exact HBN.out hx) (fun x hx => by simp at hx; subst hx; exact HBW.out))
      have HD4 := Lib.hid hd4
      have HZ4 := Lib.hid (show bd < w4.heap.size from Nat.lt_of_lt_of_le HDI.out.lt hm4.size)
      clear hd4 hm4 HEC
      have HAD := Lib.hid (HW4.out.add (by omega) (evJ Ls i))
      rw [HST.out.1, HST.out.2] at HAD
      have HFIN := Lib.hid (show ∀ (w5 : World) (v' : Value), Lw w w5 ⟨qb, v'⟩ (w1.heap.size + 1) p G (addL G D (fillL G over (evJ Ls) i) (evJ Ls i)).2.1 (fillL G over (evJ Ls) (i + 1)) (29 * (i : Int) + 29) → Mods (p.foot ++ LogAt.foot ⟨qb, v⟩) w4 w5 → (∀ y, v'.ownBlock = some y → v.ownBlock = some y ∨ w4.heap.size ≤ y) →
          Lw w w5 ⟨qb, v'⟩ (w1.heap.size + 1) p G (addL G D (fillL G over (evJ Ls) i) (evJ Ls i)).2.1 (fillL G over (evJ Ls) (i + 1)) (29 * ((i + 1 : Nat) : Int)) ∧ IsDice w5 bd vl Ls (evP Ls (i + 1)) ∧ bd ∉ p.foot ++ LogAt.foot ⟨qb, v'⟩ from fun w5 v' hl hm hy => by
        refine ⟨hl.more (by push_cast; omega), HD4.out.mods hm HBN.out (fun hx y hyo hm => ?_), fun hx => ?_⟩
        · have h1 := HW.out.new y hm
          have h2 := HRLT.out hx y hyo
          omega
        · rcases List.mem_append.1 hx with h | h
          · exact HBN.out (List.mem_append.2 (.inl h))
          · simp only [LogAt.foot, List.mem_cons, Option.mem_toList] at h
            rcases h with h | h
            · exact HBN.out (by simp [LogAt.foot, h])
            · rcases hy _ h with h2 | h2
              · exact HBN.out (by simp [LogAt.foot, h2])
              · have := HZ4.out; omega)
      clear HW HDI HW4 HD4
      by_cases hr : over = true ∨ i < (G.n - 1) * G.slots
      · rw [if_pos hr] at HAD
        clear hr
        go_wp2_with fail
        refine HAD.out.mono ?_
        rintro e w5 ⟨v', rfl, hl5, hm5, hy5⟩
        have H5 := Lib.hid (HFIN.out w5 v' hl5 hm5 hy5)
        clear hl5 hm5 hy5
        go_wp2_with fail
        go_roundw
        case rel => exact ⟨i + 1, v', _, by go_num, by omega, H5.out.1, HCA.out, H5.out.2.1, H5.out.2.2⟩
        case measure => simp [intOf]; omega
      · rw [if_neg hr] at HAD
        clear hr
        go_wp2_with fail
        refine HAD.out.mono ?_
        rintro e w5 ⟨v', rfl, hl5, hm5, hy5⟩
        have H5 := Lib.hid (HFIN.out w5 v' hl5 hm5 hy5)
        clear hl5 hm5 hy5
        go_wp2_with fail
        go_roundw
        case rel => exact ⟨i + 1, v', _, by go_num, by omega, H5.out.1, HCA.out, H5.out.2.1, H5.out.2.2⟩
        case measure => simp [intOf]; omega
    · have i1 : ¬ (i : Int) < (n : Int) := by omega
      obtain rfl : i = n := by omega
      have HRR := Lib.hid HW.out.records
      go_wp2_with fail
      refine HRR.out.mono ?_
      rintro e w5 ⟨vr, rfl, hr5, hm5⟩
      have H5 := Lib.hid (And.intro hr5 hm5)
      clear hr5 hm5
      go_wp2_with fail
      refine bodyPost_ret (results_tmp4 rfl _ _ _) rfl ?_
      have hG := HGE.out
      subst hG
      refine ⟨p, qb, v, vr, w1.heap.size + 1, D, 29 * (i : Int), wr.heap.size, rfl, HW.out.mods0 H5.out.2, by have := HNN.out; omega, HC.out, H5.out.1, HW.out.lt, HW.out.mods.size⟩
end Go.Proofs.Ytkdadnlleepkfaa

namespace Go.Proofs.Ytkdadnlleepkfaa
open Go.RowKit
set_option linter.unusedVariables false
set_option linter.unusedSimpArgs false
def awE : Evt := { zE with typ := f8 111 }
def awG : Geo := ⟨0, 4, 64⟩
theorem awE_ok : validE awE = true ∧ awE.id.val = 0 := by decide
theorem aw_len : (fillL awG true (fun _ => awE) 10).s.recs.length = 7 := by
  show (recsAB _ _ _ _).length = 7
  rw [recsAB_len]
  rfl
set_option maxRecDepth 100000 in
set_option maxHeartbeats 4000000 in
theorem awake_ok (w : World) : Calls Try.prog 14 #[] w fun e w' => e = .returned (.bool true) ∧ Mods [] w w' := by
  have HC := Lib.hid (capacity_ok w 4 64 (by omega) (by omega) (by omega) (by omega))
  have HN := Lib.hid (new_ok 4 64 (by omega) (by omega) (by omega) (by omega) w)
  go_enter Try.func14, Try.ntmps14
  go_wp2_with fail
  refine HC.out.mono ?_
  rintro e w1 ⟨rfl, rfl⟩
  go_wp2_with fail
  refine HN.out.mono ?_
  rintro e w1 ⟨p, rfl, hd, hm, hp⟩
  have HD := Lib.hid hd
  have HM := Lib.hid hm
  have HP := Lib.hid hp
  clear hd hm hp
  have HF := Lib.hid (show Fits awG (Dev.fresh 4 64) from fresh_fits (by omega) (by omega) (by omega) (by omega) (by omega) (by omega))
  have HOP := Lib.hid (show Calls Try.prog 13 #[.pointer (some ⟨p.b, 0, none⟩), .int .i64 0, .int .i64 4, .bool true] w1 fun e w' => ∃ q : LogAt, e = .returned (.tuple #[.pointer (some ⟨q.b, 0, none⟩), .int .i64 0]) ∧ Lw w w' q (w1.heap.size + 1) p awG (Dev.fresh 4 64) (fillL awG true (fun _ => awE) 0) 0 ∧ Mods [] w1 w' by
    have h := Lw.open HD.out HF.out rfl (fresh_few 4 64) HM.out HP.out true
    have ho := fresh_open (N := 4) (z := 64) awG (by omega) rfl (by decide) (by decide)
    rw [ho] at h
    rw [fillL_zero awG true (fun _ => awE) (by decide)]
    exact h)
  go_wp2_with fail
  refine HOP.out.mono ?_
  rintro e w2 ⟨⟨qb, v0⟩, rfl, hlw, hm2⟩
  have HLW := Lib.hid hlw
  clear hlw hm2
  go_wp2_with fail
  clear HC HN HOP HM HP HD
  go_loopw [7, 8, 9] (fun h' id' i' wr => ∃ (i : Nat) (v : Value) (D : Dev), h' = .int .i64 0 ∧ id' = .int .u16 (i : Nat) ∧ i' = .int .i64 (i : Nat) ∧ i ≤ 10 ∧ Lw w wr ⟨qb, v⟩ (w1.heap.size + 1) p awG D (fillL awG true (fun _ => awE) i) (29 * (i : Int)) ∧ Calm D) (fun _ _ i' _ => 10 - (intOf i').toNat)
  case atStart => exact ⟨0, v0, _, rfl, rfl, rfl, Nat.zero_le _, HLW.out.more (by omega), fresh_calm 4 64⟩
  case round =>
    obtain ⟨i, v, D, rfl, rfl, rfl, hi, hlw, hc⟩ := hrel
    have HW := Lib.hid hlw
    have HC := Lib.hid hc
    clear hlw hc
    have i0 : (0 : Int) ≤ (i : Int) := by omega
    by_cases hlt : i < 10
    · have i1 : (i : Int) < 10 := by omega
      have HST := Lib.hid (fillL_add (ev := fun _ => awE) HW.out.sync HC.out HW.out.few (by omega) awE_ok)
      have HCA := Lib.hid (calm_addL (G := awG) HC.out (fillL awG true (fun _ => awE) i) awE)
      have HAD := Lib.hid (HW.out.add (by omega) awE)
      have h2 := HST.out.2
      rw [if_pos (.inl rfl)] at h2
      rw [HST.out.1, h2] at HAD
      have HAD2 := Lib.hid (show Calls Try.prog 15 #[.pointer (some ⟨qb, 0, none⟩), .agg #[.int .u16 0, .int .u32 0, .int .u16 0, .int .u8 0, .int .u8 0, .int .u8 111, .bool false, .int .u8 0, .int .u8 0, .int .u8 0]] wr _ from HAD.out)
      clear h2 HST HAD HW
      go_wp2_with fail
      refine HAD2.out.mono ?_
      rintro e w5 ⟨v', rfl, hl5, hm5, hy5⟩
      have H5 := Lib.hid hl5
      clear hl5 hm5 hy5 HAD2
      go_wp2_with fail
      go_roundw
      case rel => exact ⟨i + 1, v', _, rfl, rfl, by go_num, by omega, H5.out.more (by push_cast; omega), HCA.out⟩
      case measure => simp [intOf]; omega
    · have i1 : ¬ (i : Int) < 10 := by omega
      obtain rfl : i = 10 := by omega
      have HLN := Lib.hid HW.out.len
      have HFL := Lib.hid HW.out.full
      rw [aw_len] at HLN
      go_wp2_with fail
      refine HLN.out.mono ?_
      rintro e w5 ⟨rfl, rfl⟩
      go_wp2_with fail
      refine HFL.out.mono ?_
      rintro e w5 ⟨rfl, rfl⟩
      have hfl : (fillL awG true (fun _ => awE) 10).full = false := rfl
      rw [hfl]
      go_wp2_with fail
      go_ret
      exact ⟨rfl, HW.out.mods⟩
end Go.Proofs.Ytkdadnlleepkfaa
