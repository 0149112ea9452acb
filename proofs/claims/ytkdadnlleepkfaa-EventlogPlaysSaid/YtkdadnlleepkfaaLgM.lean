/- The method grow of a log: the contract. -/
import Derived.Test.YtkdadnlleepkfaaLgL
namespace Go.Proofs.Ytkdadnlleepkfaa
open Go.RowKit
set_option linter.unusedVariables false
set_option linter.unusedSimpArgs false
def GrowPost (w : World) (q : LogAt) (B : Nat) (p : DevAt) (G : Geo) (D : Dev) (L : LogP) (e : Ending) (w' : World) : Prop :=
  ∃ v', e = .returned (.int .i64 (growL G D L).1) ∧ IsDev w' p (growL G D L).2.1 ∧ IsLog w' ⟨q.b, v'⟩ B (.pointer (some ⟨p.b, 0, none⟩)) G.first G.n (growL G D L).2.2 ∧
    Mods (p.foot ++ q.foot) w w' ∧ ∀ y, v'.ownBlock = some y → q.v.ownBlock = some y ∨ w.heap.size ≤ y
/-- A log that is well, over its device. -/
structure Well (w : World) (q : LogAt) (B : Nat) (p : DevAt) (G : Geo) (D : Dev) (L : LogP) : Prop where
  dev : IsDev w p D
  fit : Fits G D
  size : D.size ≤ 1024
  secs : D.wear.length ≤ 16
  few : Few D 4611686018426000000
  log : IsLog w q B (.pointer (some ⟨p.b, 0, none⟩)) G.first G.n L
  base : B ≤ w.heap.size
  apart : ∀ k ∈ p.foot, k ∉ q.foot
  newest : L.s.newest ≤ 2147483648
  tail : L.s.tail ≤ L.s.newest
  recs : L.s.recs.length ≤ 100000
  next : 1 ≤ L.s.next ∧ L.s.next ≤ 65534
set_option maxRecDepth 100000 in
set_option maxHeartbeats 4000000 in
theorem lgrow_ok (w : World) (q : LogAt) (B : Nat) (p : DevAt) (G : Geo) (D : Dev) (L : LogP) (h : Well w q B p G D L) (hup : D.down = false) :
    Calls Try.prog 54 #[.pointer (some ⟨q.b, 0, none⟩)] w fun e w' => GrowPost w q B p G D L e w' := by
  have HOP := Lib.hid (fun W (M : Mods [] w W) t (ht : t ≤ 2147483649) => lopen_ok W q B p D (h.dev.mods0 M) G h.fit h.size h.secs hup h.few.st h.few.wr L (h.log.mods0 M) (Nat.le_trans h.base M.size) h.apart h.newest h.recs h.next t ht)
  have H := Lib.hid h
  have c2 := (h.log.c 2).trans (show _ = some (Value.int .i64 (G.n : Nat)) from rfl)
  have c3 := (h.log.c 3).trans (show _ = some (Value.bool L.over) from rfl)
  have c4 := (h.log.c 4).trans (show _ = some (Value.int .i64 (L.s.newest : Nat)) from rfl)
  have c5 := (h.log.c 5).trans (show _ = some (Value.int .i64 (L.s.tail : Nat)) from rfl)
  have c9 := (h.log.c 9).trans (show _ = some (Value.bool L.full) from rfl)
  have f9 := h.log.f 9
  have hn2 := h.fit.n2
  have hmx : (if ((L.s.tail : Nat) : Int) < 1 then 1 else ((L.s.tail : Nat) : Int)) = ((max L.s.tail 1 : Nat) : Int) := by split <;> omega
  obtain ⟨m, hm⟩ : ∃ m, m = max L.s.tail 1 := ⟨_, rfl⟩
  have h1 := h.newest
  have h2 := h.tail
  have h3 := h.fit.sec
  have h4 := h.secs
  have hm1 : m ≤ L.s.newest + 1 := by omega
  have HT := Lib.hid (show tailL G L = if G.n - 2 < L.s.newest + 1 - m then (if L.over then some (m + 1) else none) else some m by rw [hm]; rfl)
  rw [← hm] at hmx
  have HMX := Lib.hid hmx
  clear h hm hmx
  have e0 : (0 : Int) ≤ (m : Int) := by omega
  have e1 : (m : Int) ≤ (L.s.newest : Int) + 1 := by omega
  have e2 : (L.s.newest : Int) ≤ 2147483648 := by omega
  have e3 : (G.n : Int) ≤ 16 := by omega
  have e4 : (2 : Int) ≤ (G.n : Int) := by omega
  have hfin : ∀ t, tailL G L = some t → ∀ W, Mods [] w W → ∀ e w', LopenPost W q B p G D L t e w' → GrowPost w q B p G D L e w' := by
    intro t h W M e w' hp
    obtain ⟨v', he, hd, hl, hm, hy⟩ := hp
    have hg : growL G D L = ((openL G D L.s t).1, (openL G D L.s t).2.1, { L with s := (openL G D L.s t).2.2 }) := by unfold growL; rw [h]
    exact ⟨v', by rw [hg]; exact he, by rw [hg]; exact hd, by rw [hg]; exact hl, M.nil.trans hm, fun y h => (hy y h).imp id (fun h => Nat.le_trans M.size h)⟩
  have HFIN := Lib.hid hfin
  have HM1 := Lib.hid (And.intro hm1 h1)
  clear hfin h2 h3 h4 hn2 hup
  by_cases hro : G.n - 2 < L.s.newest + 1 - m
  · have e5 : (G.n : Int) - 2 < (L.s.newest : Int) + 1 - (m : Int) := by omega
    cases hov : L.over with
    | true =>
      have HTL := Lib.hid (show tailL G L = some (m + 1) by rw [HT.out, if_pos hro, hov]; rfl)
      rw [hov] at c3
      have HCO := Lib.hid (fun W (M : Mods [] w W) => HOP.out W M (m + 1) (by omega))
      have e6 : (m : Int) ≤ 2147483648 := by omega
      clear hro h1 hm1
      go_enter Try.func54, Try.ntmps54
      go_upto_region 2 with (fail)
      simp only [HMX.out]
      go_quiet (fail)
      clear c5 e5 e2
      have HD := Lib.hid ((Mods.refl (S := []) (w := w)).drewN nq)
      go_wp2_with (go_at_call 79; refine (HCO.out _ HD.out).mono ?_; intro e w' hp; have HP := Lib.hid (HFIN.out _ HTL.out _ HD.out _ _ hp); obtain ⟨v', he, _⟩ := hp; subst he)
      go_ret
      exact HP.out
    | false =>
      have HTL := Lib.hid (show growL G D L = (9, D, { L with full := true }) by unfold growL; rw [HT.out, if_pos hro, hov]; rfl)
      rw [hov] at c3
      clear hro h1 hm1
      go_enter Try.func54, Try.ntmps54
      go_upto_region 2 with (fail)
      simp only [HMX.out]
      go_quiet (fail)
      clear c5 e5 e2
      have HD := Lib.hid ((Mods.refl (S := []) (w := w)).drewN nq)
      have HLD := Lib.hid (H.out.log.mods0 HD.out)
      have HDD := Lib.hid (H.out.dev.mods0 HD.out)
      go_wp2_with fail
      go_ret
      obtain ⟨hl, hm⟩ := HLD.out.set 9 (.bool true) { L with full := true } rfl rfl
      exact ⟨q.v, by rw [HTL.out]; rfl, by rw [HTL.out]; exact HDD.out.mods hm (fun k hk h => by simp at h; subst h; exact H.out.apart _ hk (by simp [LogAt.foot])), by rw [HTL.out]; exact hl, HD.out.nil.trans (hm.mono (fun y h => .inl (by simp at h; subst h; simp [LogAt.foot]))), fun y h => .inl h⟩
  · have e5 : ¬ (G.n : Int) - 2 < (L.s.newest : Int) + 1 - (m : Int) := by omega
    have HTL := Lib.hid (show tailL G L = some m by rw [HT.out, if_neg hro])
    have HCO := Lib.hid (fun W (M : Mods [] w W) => HOP.out W M m (by omega))
    clear hro h1 hm1
    go_enter Try.func54, Try.ntmps54
    go_upto_region 2 with (fail)
    simp only [HMX.out]
    go_quiet (fail)
    clear c5 e5 e2
    have HD := Lib.hid ((Mods.refl (S := []) (w := w)).drewN nq)
    go_wp2_with (go_at_call 79; refine (HCO.out _ HD.out).mono ?_; intro e w' hp; have HP := Lib.hid (HFIN.out _ HTL.out _ HD.out _ _ hp); obtain ⟨v', he, _⟩ := hp; subst he)
    go_ret
    exact HP.out
end Go.Proofs.Ytkdadnlleepkfaa
