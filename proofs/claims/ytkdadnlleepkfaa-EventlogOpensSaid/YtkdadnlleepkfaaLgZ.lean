/- More of a log in a law: Arm, Restore, Reserve; a power failure at the first step. -/
import Derived.Test.YtkdadnlleepkfaaLgXY
namespace Go.Proofs.Ytkdadnlleepkfaa
open Go.RowKit
set_option linter.unusedVariables false
set_option linter.unusedSimpArgs false
section
variable {wb w w' : World} {q : LogAt} {B : Nat} {p : DevAt} {G : Geo} {D : Dev} {L : LogP} {k : Int}
theorem arm_data (D : Dev) (s t : Int) : (D.arm s t).data = D.data ∧ (D.arm s t).wear = D.wear ∧ (D.arm s t).steps = D.steps ∧ (D.arm s t).size = D.size ∧ (D.arm s t).down = D.down := by
  unfold Dev.arm
  split
  · exact ⟨rfl, rfl, rfl, rfl, rfl⟩
  · exact ⟨rfl, rfl, rfl, rfl, rfl⟩
theorem arm_ok2 {D : Dev} (h : D.Ok) (s t : Int) (hs : s ≤ 1000000000) (h0 : 0 ≤ t) (h1 : t ≤ 255) : (D.arm s t).Ok := by
  rw [Dev.arm]
  split
  · exact h
  · exact ⟨h.len, h.wl, h.mul, h.s0, h.s1, h.byt, ⟨h0, h1⟩, h.st, by show 0 ≤ max s 0 ∧ max s 0 ≤ 1000000000; omega, h.wr⟩
theorem fits_of (h : Fits G D) {D' : Dev} (ok : D'.Ok) (hz : D'.size = D.size) (hw : D'.wear.length = D.wear.length) : Fits G D' :=
  ⟨ok, by rw [hz]; exact h.size, by rw [hw]; exact h.sec, h.n2, by rw [hz]; exact h.s64⟩
theorem byt_of {D' : Dev} (h : D'.data = D.data) : byt D' = byt D := by funext i; unfold byt; rw [h]
theorem Lw.arm (h : Lw wb w q B p G D L k) (s t : Int) (hs : s ≤ 1000000000) (h0 : 0 ≤ t) (h1 : t ≤ 255) :
    Calls Try.prog 26 #[.pointer (some ⟨p.b, 0, none⟩), .int .i64 s, .int .u8 t] w fun e w' => e = .returned (.tuple #[]) ∧ Lw wb w' q B p G (D.arm s t) L k ∧ Mods [p.b] w w' := by
  refine (arm_ok w p D h.dev s t).mono ?_
  rintro e w' ⟨rfl, hd, hm⟩
  obtain ⟨d1, d2, d3, d4, d5⟩ := arm_data D s t
  have hpb : p.b ∈ p.foot := by simp [DevAt.foot]
  refine ⟨rfl, ⟨hd, h.here.mods hm (fun x hx hm => by simp at hm; subst hm; exact h.apart _ hpb hx), Nat.le_trans h.base hm.size, h.apart, ⟨fits_of h.sync.fit (arm_ok2 h.sync.fit.ok s t hs h0 h1) d4 (by rw [d2]), fun he => by rw [d5]; exact h.sync.up he, fun he => by rw [byt_of d1]; exact h.sync.s he, h.sync.e⟩, ⟨by rw [d3]; exact h.few.st, by rw [d2]; exact h.few.wr⟩, h.mods.comp hm (fun y hy => .inr (by simp at hy; subst hy; exact h.new _ (List.mem_append.2 (.inl hpb)))), h.new, h.num⟩, hm⟩
theorem Lw.restore (h : Lw wb w q B p G D L k) :
    Calls Try.prog 27 #[.pointer (some ⟨p.b, 0, none⟩)] w fun e w' => e = .returned (.tuple #[]) ∧ Lw wb w' q B p G { D with down := false, left := 0 } L k ∧ Mods [p.b] w w' := by
  refine (restore_ok w p D h.dev).mono ?_
  rintro e w' ⟨rfl, hd, hm⟩
  have hpb : p.b ∈ p.foot := by simp [DevAt.foot]
  have ok := h.sync.fit.ok
  refine ⟨rfl, ⟨hd, h.here.mods hm (fun x hx hm => by simp at hm; subst hm; exact h.apart _ hpb hx), Nat.le_trans h.base hm.size, h.apart, ⟨fits_of h.sync.fit ⟨ok.len, ok.wl, ok.mul, ok.s0, ok.s1, ok.byt, ok.tn, ok.st, by simp, ok.wr⟩ rfl rfl, fun _ => rfl, fun he => h.sync.s he, h.sync.e⟩, ⟨h.few.st, h.few.wr⟩, h.mods.comp hm (fun y hy => .inr (by simp at hy; subst hy; exact h.new _ (List.mem_append.2 (.inl hpb)))), h.new, h.num⟩, hm⟩
def resV (L : LogP) : Nat := if L.ended then 0 else resN L
def resS (L : LogP) : LogP := if L.ended then L else resL L
theorem resN_rng (h : L.num ≤ 65535) : 1 ≤ resN L ∧ resN L ≤ 65535 := by unfold resN; split <;> omega
theorem Lw.reserve (h : Lw wb w q B p G D L k) :
    Calls Try.prog 38 #[.pointer (some ⟨q.b, 0, none⟩)] w fun e w' => e = .returned (.int .u16 (resV L : Nat)) ∧ Lw wb w' q B p G D (resS L) k ∧ Mods [q.b] w w' := by
  cases he : L.ended with
  | false =>
    rcases h.here with ⟨_, h2⟩ | ⟨h1, _, _⟩
    · refine (lreserve_ok w q B _ _ _ L h2 he h.num).mono ?_
      rintro e w' ⟨rfl, hl, hm⟩
      have e1 : resV L = resN L := by unfold resV; rw [he]; rfl
      have e2 : resS L = resL L := by unfold resS; rw [he]; rfl
      rw [e1, e2]
      have hqb : q.b ∈ q.foot := by simp [LogAt.foot]
      refine ⟨rfl, ⟨h.dev.mods hm (fun x hx hm => by simp at hm; subst hm; exact h.apart _ hx hqb), .inl ⟨he, hl⟩, Nat.le_trans h.base hm.size, h.apart, ⟨h.sync.fit, h.sync.up, h.sync.s, fun hx => ?_⟩, h.few, h.mods.comp hm (fun y hy => .inr (by simp at hy; subst hy; exact h.new _ (List.mem_append.2 (.inr hqb)))), h.new, (resN_rng h.num).2⟩, hm⟩
      have : L.ended = true := hx
      rw [he] at this
      cases this
    · rw [h1] at he; cases he
  | true =>
    rcases h.here with ⟨h1, _⟩ | ⟨_, _, h3⟩
    · rw [h1] at he; cases he
    · refine (lreserve_end w q.b B h3).mono ?_
      rintro e w' ⟨rfl, rfl⟩
      have e1 : resV L = 0 := by unfold resV; rw [he]; rfl
      have e2 : resS L = L := by unfold resS; rw [he]; rfl
      rw [e1, e2]
      exact ⟨rfl, h, Mods.refl⟩
/-- Opened again: a log beside the one before. -/
theorem Lw.again (h : Lw wb w q B p G D L k) (hd : D.down = false) (over : Bool) :
    Calls Try.prog 13 #[.pointer (some ⟨p.b, 0, none⟩), .int .i64 (G.first : Nat), .int .i64 (G.n : Nat), .bool over] w fun e w' => ∃ q' : LogAt, e = .returned (.tuple #[.pointer (some ⟨q'.b, 0, none⟩), .int .i64 0]) ∧ Lw wb w' q' (w.heap.size + 1) p G D (mkL over (openS (byt D) G)) k ∧ Lw wb w' q B p G D L k ∧ (∀ x ∈ q'.foot, w.heap.size ≤ x) ∧ Mods [] w w' := by
  refine (open_ok w p D h.dev G h.sync.fit hd h.sync.fit.ok.wl h.sync.fit.ok.s1 over).mono ?_
  rintro e w' ⟨q', rfl, hl, hq, hm⟩
  have hqf : ∀ x ∈ q'.foot, w.heap.size ≤ x := fun x hx => by
    simp only [LogAt.foot, List.mem_cons, Option.mem_toList] at hx
    rcases hx with rfl | hx
    · exact hq
    · have := (hl.own.lt _ hx).1; omega
  refine ⟨q', rfl, ⟨h.dev.mods0 hm, .inl ⟨rfl, hl⟩, ?_, ?_, ⟨h.sync.fit, fun _ => hd, fun _ => rfl, fun hx => (by cases hx)⟩, h.few, h.mods.trans hm, ?_, Nat.zero_le _⟩, h.mods0 hm, hqf, hm⟩
  · have := lt_of_block hl.blk
    have := hl.lt
    omega
  · intro x hx hm
    have h1 := hqf x hm
    have h2 := h.dev.lt _ hx
    omega
  · intro x hx
    rcases List.mem_append.1 hx with hx | hx
    · exact h.new _ (List.mem_append.2 (.inl hx))
    · exact Nat.le_trans h.mods.size (hqf x hx)
end
/-- The power fails at the first step. -/
theorem dies_prog {D : Dev} (hd : D.down = false) (hl : D.left = 1) {a : Nat} {l : List Int} (hf : a + l.length ≤ D.data.length) (h1 : 1 ≤ l.length) : (D.program a l).1 = 10 := by
  have hff : fits D (a : Int) (l.length : Int) = true := decide_eq_true ⟨by omega, by omega, by omega⟩
  unfold Dev.program
  rw [if_neg (by rw [hd]; decide), if_pos hff, Int.toNat_natCast, run_torn l D a 1 hd (by rw [hl]; rfl) (by omega) h1]
theorem dies_erase {D : Dev} (hd : D.down = false) (hl : D.left = 1) {s : Nat} (hs : s < D.wear.length) : (D.erase (s : Int)).1 = 10 := by
  unfold Dev.erase
  rw [if_neg (by rw [hd]; decide), if_pos (by omega), Int.toNat_natCast]
  have : ((D.worn s).step).down = true := by
    have h2 : (D.worn s).left = 1 := hl
    unfold Dev.step
    rw [h2, if_pos (by omega)]
    rfl
  unfold Dev.erased
  rw [this]
  rfl
theorem dies_openD {G : Geo} {D : Dev} (h : Fits G D) (hd : D.down = false) (hl : D.left = 1) {j : Nat} (hj : j < G.n) (q t id : Nat) : (openD G D j q t id).1 = 10 := by
  have hh : (openH G D j q t id).1 = 10 := by
    unfold openH openE
    by_cases hb : blankS (byt D) G j = true
    · rw [if_pos hb, if_pos rfl]
      have h1 := h.sect hj
      have h2 := h.geo.s64
      exact dies_prog hd hl (by rw [hdrL_len]; omega) (by rw [hdrL_len]; omega)
    · rw [if_neg hb]
      have he := dies_erase hd hl (s := G.first + j) (by have := h.sec; omega)
      rw [if_neg (by rw [he]; decide)]
      exact he
  unfold openD
  rw [if_neg (by rw [hh]; decide)]
  exact hh
theorem dies_addL {G : Geo} {D : Dev} {L : LogP} {k : Int} (h : Sync G D L) (he : L.ended = false) (hf : Few D k) (hl : D.left = 1) {x : Evt} (hv : validE x = true) (hid : x.id.val = 0) {S0 : LogS} (hb : baseS G L = some S0) (hq : L.s.newest < 2147483648) :
    (addL G D L x).1 = (0, 10) := by
  have hu := h.up he
  have hs := h.s he
  have hp := placeL_spec h.fit hu hf hs
  have hr := next_rng (byt D) G
  rw [← hs] at hr
  unfold addL
  rw [if_neg (by rw [he, hu]; decide), if_neg (by rw [hv, hid]; decide)]
  have hn : 0 < G.n := by have := h.fit.n2; omega
  by_cases hnd : needG G L.s = true
  · have hpl : (placeL G D L).1 = 10 := by
      unfold placeL growL
      rw [if_pos hnd]
      unfold baseS at hb
      rw [if_pos hnd] at hb
      cases ht : tailL G L with
      | none => rw [ht] at hb; cases hb
      | some t =>
        show (openL G D L.s t).1 = 10
        unfold openL
        rw [if_neg (by omega)]
        exact dies_openD h.fit hu hl (Nat.mod_lt _ hn) _ _ _
    rw [if_pos (by rw [hpl]; decide), hpl]
  · have hpl : placeL G D L = (0, D, L) := by unfold placeL; rw [if_neg hnd]
    rw [hpl]
    rw [hpl] at hp
    have hus : 0 < L.s.newest ∧ L.s.used < G.slots := by
      rcases hp.out with ⟨_, _, S1, hb1, hL, _, h1, h2⟩ | ⟨h, _⟩ | ⟨h, _⟩ | ⟨h, _⟩
      · have : L.s = S1 := by
          unfold baseS at hb1
          rw [if_neg hnd] at hb1
          injection hb1
        rw [this]
        exact ⟨h1, h2⟩
      · cases h
      · cases h
      · cases h
    have hput : (putR G D L.s (withId x L.s.next)).1 = 10 := by
      unfold putR
      have hin := h.fit.sect (Nat.mod_lt (L.s.newest - 1) hn)
      have hsl := slot_in h.fit.geo hus.2 ((L.s.newest - 1) % G.n)
      exact dies_prog hu hl (by rw [List.length_append, encEv_len]; show _ + (16 + 1) ≤ _; omega) (by rw [List.length_append, encEv_len]; show 1 ≤ 16 + 1; omega)
    simp only
    rw [if_neg (by decide), if_pos (by rw [hput]; decide), hput]
end Go.Proofs.Ytkdadnlleepkfaa
