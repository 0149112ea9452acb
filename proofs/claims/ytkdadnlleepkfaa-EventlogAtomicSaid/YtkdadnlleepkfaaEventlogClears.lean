/- EventlogClears: the walk of the law. -/
import Derived.Test.YtkdadnlleepkfaaEventlogOrder
namespace Go.Proofs.Ytkdadnlleepkfaa
open Go.RowKit
set_option linter.unusedVariables false
set_option linter.unusedSimpArgs false
theorem recsAB_old {K : Nat} {ev : Nat → Evt} {a b q : Nat} (hK : 1 ≤ K) (hq : q = (b + K - 1) / K) : (recsAB K ev a b).filter (fun x => decide (q + 1 ≤ x.1)) = [] := by
  rw [List.filter_eq_nil_iff]
  intro x hx
  unfold recsAB at hx
  obtain ⟨j, hj, rfl⟩ := List.mem_map.1 hx
  rw [List.mem_range'_1] at hj
  show ¬ decide (q + 1 ≤ j / K + 1) = true
  simp only [decide_eq_true_eq]
  have h1 : j / K < (b + K - 1) / K := by
    rw [Nat.div_lt_iff_lt_mul (by omega)]
    have h2 : b ≤ (b + K - 1) / K * K := by
      have h3 := Nat.div_add_mod (b + K - 1) K
      have h4 := Nat.mod_lt (b + K - 1) (show K > 0 by omega)
      rw [Nat.mul_comm] at h3
      omega
    omega
  omega
/-- What Clear leaves of a filled log, read again. -/
structure Cleared (G : Geo) (D : Dev) (ov : Bool) (S : LogS) (b : Nat) (R : Int × Dev × LogP) : Prop where
  code : R.1 = 0 ∨ R.1 = 10
  fit : Fits G R.2.1
  zero : R.1 = 0 → (openS (byt R.2.1) G).recs = [] ∧ R.2.2.s.recs = [] ∧ R.2.2.full = false ∧ R.2.2.held = false ∧ R.2.2.ended = false
  recs : (openS (byt R.2.1) G).recs = [] ∨ (openS (byt R.2.1) G).recs = S.recs
  next : (openS (byt R.2.1) G).next = b + 1
  newest : (openS (byt R.2.1) G).newest < 2147483648
  room : needG G (openS (byt R.2.1) G) = true → tailL G (mkL ov (openS (byt R.2.1) G)) = none → ov = false ∧ (openS (byt R.2.1) G).recs ≠ []
theorem fillS_room {G : Geo} {ov : Bool} {ev : Nat → Evt} {b : Nat} (hN : 2 ≤ G.n) (hK : 1 ≤ G.slots) (ht : tailL G (mkL ov (fillS G.slots G.n ev b)) = none) : ov = false ∧ (fillS G.slots G.n ev b).recs ≠ [] := by
  unfold tailL at ht
  have h1 : (mkL ov (fillS G.slots G.n ev b)).s = fillS G.slots G.n ev b := rfl
  have h2 : (mkL ov (fillS G.slots G.n ev b)).over = ov := rfl
  rw [h1, h2] at ht
  split at ht
  · rename_i hlt
    cases ov with
    | true => simp at ht
    | false =>
      refine ⟨rfl, fun he => ?_⟩
      have hl : (fillS G.slots G.n ev b).recs.length = b - (fillT G.slots G.n b - 1) * G.slots := recsAB_len _ _
      rw [he] at hl
      have hb : b = 0 := by
        rcases Nat.eq_zero_or_pos b with h | h
        · exact h
        · have := (fill_a (K := G.slots) (N := G.n) (i := b) hK hN).2.2.2.2 h
          simp at hl
          omega
      subst hb
      have e1 : (fillS G.slots G.n ev 0).newest = 0 := Nat.div_eq_of_lt (by omega)
      have e2 : (fillS G.slots G.n ev 0).tail = 0 := rfl
      rw [e1, e2] at hlt
      omega
  · cases ht
theorem cleared_ok {G : Geo} {D : Dev} {L : LogP} {ov : Bool} {ev : Nat → Evt} {b : Nat} {k : Int} (h : Sync G D L) (he : L.ended = false) (hf : Few D k) (hb : b ≤ 100) (hs : L.s = fillS G.slots G.n ev b) (hh : L.held = true) :
    Cleared G D ov L.s b (clearL G D L L.num) := by
  have hsp := clearL_spec h he hf L.num
  generalize clearL G D L L.num = R at hsp ⊢
  have hK : 1 ≤ G.slots := by have := slots_pos h.fit; omega
  have hN := h.fit.n2
  have hnw : L.s.newest ≤ b := by rw [hs]; exact fillS_newest _ _ _ _ hK
  have hnx : L.s.next = b + 1 := by rw [hs]; rfl
  have hgr : (grownS L.s (L.s.newest + 1)).recs = [] := by
    show L.s.recs.filter _ = []
    rw [hs]
    exact recsAB_old hK rfl
  have hgn : needG G (grownS L.s (L.s.newest + 1)) = false := by
    unfold needG
    have e1 : (grownS L.s (L.s.newest + 1)).newest = L.s.newest + 1 := rfl
    have e2 : (grownS L.s (L.s.newest + 1)).used = 0 := rfl
    rw [e1, e2]
    simp
    omega
  rcases hsp.out with ⟨_, _, _, hx⟩ | ⟨_, ⟨c, d, hL⟩ | ⟨_, _, _, hq⟩ | ⟨c, d, hL, hne, ho⟩⟩
  · rw [hh] at hx; simp at hx
  · have hen : R.2.2.ended = false := by rw [hL]; exact he
    have hoS : openS (byt R.2.1) G = (if L.s.recs = [] then L.s else grownS L.s (L.s.newest + 1)) := by
      rw [← hsp.sync.s hen, hL]
    have hr0 : (openS (byt R.2.1) G).recs = [] := by
      rw [hoS]
      split
      · assumption
      · exact hgr
    refine ⟨.inl c, hsp.fit, fun _ => ⟨hr0, ?_, by rw [hL], by rw [hL], hen⟩, .inl hr0, ?_, ?_, fun hn ht => ?_⟩
    · rw [hsp.sync.s hen]; exact hr0
    · rw [hoS]; split <;> exact hnx
    · rw [hoS]; split
      · omega
      · show L.s.newest + 1 < _; omega
    · rw [hoS] at hn ht ⊢
      split at hn
      · rename_i hr
        rw [if_pos hr] at ht ⊢
        rw [hs] at ht ⊢
        exact fillS_room hN hK ht
      · rw [hgn] at hn; cases hn
  · omega
  · refine ⟨.inr c, hsp.fit, fun h0 => by omega, ?_, ?_, ?_, fun hn ht => ?_⟩
    · rcases ho with ho | ho
      · right; rw [ho]
      · left; rw [ho]; exact hgr
    · rcases ho with ho | ho <;> rw [ho] <;> exact hnx
    · rcases ho with ho | ho
      · rw [ho]; omega
      · rw [ho]; show L.s.newest + 1 < _; omega
    · rcases ho with ho | ho
      · rw [ho] at ht ⊢
        rw [hs] at ht ⊢
        exact fillS_room hN hK ht
      · rw [ho] at hn
        rw [hgn] at hn; cases hn
theorem foot_next {p : DevAt} {qb : Nat} {v v' : Value} {w : World} {y : Nat} (h : y ∉ p.foot ++ LogAt.foot ⟨qb, v⟩) (hy : y < w.heap.size) (hv : ∀ y, v'.ownBlock = some y → v.ownBlock = some y ∨ w.heap.size ≤ y) : y ∉ p.foot ++ LogAt.foot ⟨qb, v'⟩ := fun hm => by
  rcases List.mem_append.1 hm with hm | hm
  · exact h (List.mem_append.2 (.inl hm))
  · simp only [LogAt.foot, List.mem_cons, Option.mem_toList] at hm
    rcases hm with hm | hm
    · exact h (by simp [LogAt.foot, hm])
    · rcases hv _ hm with h2 | h2
      · exact h (by simp [LogAt.foot, h2])
      · omega
/-- A list of the call's own beside the log. -/
structure Beside (w : World) (p : DevAt) (qb : Nat) (v vr : Value) (l : List Evt) : Prop where
  rd : RdE evE w vr l
  lt : ∀ y, vr.ownBlock = some y → y < w.heap.size
  out : ∀ y, vr.ownBlock = some y → y ∉ p.foot ++ LogAt.foot ⟨qb, v⟩
theorem Beside.next {w w' : World} {p : DevAt} {qb : Nat} {v v' vr : Value} {l : List Evt} (h : Beside w p qb v vr l) (M : Mods (p.foot ++ LogAt.foot ⟨qb, v⟩) w w') (hv : ∀ y, v'.ownBlock = some y → v.ownBlock = some y ∨ w.heap.size ≤ y) : Beside w' p qb v' vr l :=
  ⟨h.rd.mods evOk M (fun _ y hy => h.out y hy), fun y hy => Nat.lt_of_lt_of_le (h.lt y hy) M.size, fun y hy => foot_next (h.out y hy) (h.lt y hy) hv⟩
theorem Beside.step {w w' : World} {p : DevAt} {qb : Nat} {v vr : Value} {l : List Evt} (h : Beside w p qb v vr l) {S : List Nat} (M : Mods S w w') (hS : ∀ y ∈ S, y ∈ p.foot ++ LogAt.foot ⟨qb, v⟩) : Beside w' p qb v vr l :=
  h.next (M.mono (fun y hy => .inl (hS y hy))) (fun y hy => .inl hy)
theorem recsAB_gd {K : Nat} {ev : Nat → Evt} {a b i : Nat} (h : i < b - a) : (recsAB K ev a b).getD i recE.dflt = recJ K ev (a + i) := by
  rw [List.getD_eq_getElem?_getD, recsAB_get h]; rfl
theorem Lw.swap {wb w w' : World} {q q' : LogAt} {B B' : Nat} {p : DevAt} {G : Geo} {D : Dev} {L L' : LogP} {k k' : Int} (h' : Lw wb w q' B' p G D L' k') (h : Lw wb w' q B p G D L k) {S : List Nat} (M : Mods S w w') (hd : ∀ x ∈ q'.foot, x ∉ S) : Lw wb w' q' B' p G D L' k' :=
  ⟨h.dev, h'.here.mods M hd, Nat.le_trans h'.base M.size, h'.apart, h'.sync, h'.few, h.mods, h'.new, h'.num⟩
/-- What a new event is told after Clear. -/
theorem cleared_add {G : Geo} {D DA : Dev} {ov : Bool} {S : LogS} {b : Nat} {R : Int × Dev × LogP} {k : Int} (h : Cleared G D ov S b R) (hb : byt DA = byt R.2.1) (hc : Calm DA) (hs : Sync G DA (mkL ov (openS (byt R.2.1) G))) (hf : Few DA k) :
    (addL G DA (mkL ov (openS (byt R.2.1) G)) zE).1 = (b + 1, 0) ∨ ((addL G DA (mkL ov (openS (byt R.2.1) G)) zE).1 = (0, 9) ∧ ov = false ∧ (openS (byt R.2.1) G).recs ≠ []) := by
  have hcl := calm_addL (G := G) hc (mkL ov (openS (byt R.2.1) G)) zE
  have hsp := addL_spec hs rfl hf (e := zE) (by decide) (by decide)
  rcases hsp.out with ⟨r, _⟩ | ⟨r, _, _, hn, ht⟩ | ⟨_, _, _, hq⟩ | ⟨_, hd, _⟩
  · left
    rw [r]
    show ((openS (byt R.2.1) G).next, (0 : Int)) = _
    rw [h.next]
  · exact .inr ⟨r, h.room hn ht⟩
  · have := h.newest
    have hq' : 2147483648 ≤ (openS (byt R.2.1) G).newest := hq
    omega
  · rw [hcl.1] at hd; cases hd
set_option maxRecDepth 100000 in
set_option maxHeartbeats 8000000 in
theorem eventlogClears_walk (w : World) (s : Int) (hs : I64 s) (z : Int) (hz : I64 z) (ov : Bool) (v : Value) (Ls : List Int) (hv : Rd w v (i64s Ls)) (hb : ∀ i, I64 (Ls.getD i 0)) (n : Int) (hn : I64 n) (at_ : Int) (hat : I64 at_) (t : Int) (ht : 0 ≤ t ∧ t ≤ 255) (o : Int) (ho : 0 ≤ o ∧ o ≤ 65535) :
    Calls Try.prog 8 #[.int .i64 s, .int .i64 z, .bool ov, v, .int .i64 n, .int .i64 at_, .int .u8 t, .int .u16 o] w fun e w' => e = .returned (.bool true) ∧ Mods [] w w' := by
  have HT := Lib.hid ht
  obtain ⟨oo, rfl⟩ := Int.eq_ofNat_of_zero_le ho.1
  obtain ⟨x20, hx20⟩ := Int.eq_ofNat_of_zero_le (show 0 ≤ at_ % 20 by omega)
  have HX20 := Lib.hid (show x20 < 20 by omega)
  have HMA := Lib.hid (fun W => mod_ok at_ 20 W hat (by omega) (by omega))
  rw [hx20] at HMA
  clear ht ho hat hx20
  have HL := Lib.hid (light_ok w v Ls hv)
  have HV := Lib.hid hv
  have HB := Lib.hid hb
  have HAW := Lib.hid awake_ok
  obtain ⟨N, hN⟩ := Int.eq_ofNat_of_zero_le (show 0 ≤ 2 + s % 3 by omega)
  obtain ⟨Z, hZ⟩ := Int.eq_ofNat_of_zero_le (show 0 ≤ 64 + z % 40 by omega)
  obtain ⟨m, hm⟩ := Int.eq_ofNat_of_zero_le (show 0 ≤ n % 30 by omega)
  have HNR := Lib.hid (show 2 ≤ N ∧ N ≤ 4 by omega)
  have HZR := Lib.hid (show 64 ≤ Z ∧ Z ≤ 103 by omega)
  have HMR := Lib.hid (show m < 30 by omega)
  have HGM := Lib.hid (geometry_ok w s z hs hz)
  rw [hN, hZ] at HGM
  have HMD := Lib.hid (fun W => mod_ok n 30 W hn (by omega) (by omega))
  rw [hm] at HMD
  clear hv hb hs hz hn hN hZ hm
  by_cases hl : Ls.length ≤ 600
  rotate_left 1
  · have HLL := Lib.hid (decide_eq_false hl)
    go_enter Try.func8, Try.ntmps8
    go_wp2_with fail
    refine HL.out.mono ?_
    rw [HLL.out]
    rintro e w' ⟨rfl, rfl⟩
    go_wp2_with fail
    refine (HAW.out _).mono ?_
    rintro e w1 ⟨rfl, M1⟩
    go_wp2
    go_ret
    exact ⟨rfl, M1⟩
  have HLL := Lib.hid (decide_eq_true hl)
  have HFI := Lib.hid (filled_ok w N Z HNR.out.1 (by have := HNR.out.2; omega) HZR.out.1 (by have := HZR.out.2; omega) ov v Ls HV.out (by omega) HB.out m (by have := HMR.out; omega))
  obtain ⟨G, hG⟩ : ∃ G : Geo, G = ⟨0, N, Z⟩ := ⟨_, rfl⟩
  rw [← hG] at HFI
  have HGE := Lib.hid hG
  clear hG hl
  go_enter Try.func8, Try.ntmps8
  go_wp2_with fail
  refine HL.out.mono ?_
  rw [HLL.out]
  rintro e w' ⟨rfl, rfl⟩
  go_wp2_with fail
  refine HGM.out.mono ?_
  rintro e w' ⟨rfl, rfl⟩
  go_wp2_with fail
  refine (HMD.out _).mono ?_
  rintro e w' ⟨rfl, rfl⟩
  go_wp2_with fail
  refine HFI.out.mono ?_
  rintro e w1 ⟨p, qb, v1, vr, B, D, k, B2, rfl, hlw, hk, hc, hor, hB2, hwB⟩
  have HW := Lib.hid hlw
  have HK := Lib.hid hk
  have HC := Lib.hid hc
  have HOR := Lib.hid hor
  have HB2 := Lib.hid hB2
  have HWB := Lib.hid hwB
  obtain ⟨ad, cap, hvr⟩ := (hor.rd evOk).len
  have HSL := Lib.hid (slots_pos hlw.sync.fit)
  have HGN := Lib.hid hlw.sync.fit.n2
  clear hlw hk hc hor hB2 hwB HFI HGM HL
  obtain ⟨LQ, hLQ⟩ : ∃ LQ : Nat → LogP, LQ = fun i => { fillL G ov (evJ Ls) m with held := true, num := i } := ⟨_, rfl⟩
  have HLQ := Lib.hid hLQ
  have HR1 := Lib.hid (show Calls Try.prog 38 #[.pointer (some ⟨qb, 0, none⟩)] w1 fun e w' => e = .returned (.int .u16 1) ∧ Lw w w' ⟨qb, v1⟩ B p G D (LQ 1) k ∧ Mods [qb] w1 w' from by rw [hLQ]; exact HW.out.reserve)
  have HR2 := Lib.hid (fun w2 (H2 : Lw w w2 ⟨qb, v1⟩ B p G D (LQ 1) k) => show Calls Try.prog 38 #[.pointer (some ⟨qb, 0, none⟩)] w2 fun e w' => e = .returned (.int .u16 2) ∧ Lw w w' ⟨qb, v1⟩ B p G D (LQ 2) k ∧ Mods [qb] w2 w' from by
    have h := H2.reserve
    rw [hLQ] at h ⊢
    exact h)
  have HQB := Lib.hid (show ∀ v2, ∀ y ∈ [qb], y ∈ p.foot ++ LogAt.foot ⟨qb, v2⟩ from fun v2 y hy => by simp at hy; subst hy; simp [LogAt.foot])
  have HPB := Lib.hid (show ∀ v2, ∀ y ∈ [p.b], y ∈ p.foot ++ LogAt.foot ⟨qb, v2⟩ from fun v2 y hy => by simp at hy; subst hy; simp [DevAt.foot])
  have HBS1 := Lib.hid (show Beside w1 p qb v1 vr ((fillL G ov (evJ Ls) m).s.recs.map (·.2)) from ⟨HOR.out.rd evOk, fun y hy => (HOR.out.lt y hy).2, fun y hy hm => by have h1 := (HOR.out.lt y hy).1; have h2 := HB2.out y hm; omega⟩)
  have HNO := Lib.hid (fun (i : Nat) (hi : i ≠ 2) => show clearL G D (LQ 2) i = (11, D, LQ 2) by
    rw [hLQ]
    unfold clearL
    rw [if_neg (by rw [HC.out.1]; show ¬ (false || false) = true; decide), if_pos (by simp; exact hi)])
  clear hLQ
  rw [List.length_map] at hvr
  generalize hl : (fillL G ov (evJ Ls) m).s.recs = l at hvr HBS1
  have HLR := Lib.hid hl
  rw [hvr] at HBS1
  rw [hvr]
  clear hvr hl HOR
  go_wp2_with fail
  refine HR1.out.mono ?_
  rintro e w2 ⟨rfl, hl2, hm2⟩
  have H2 := Lib.hid hl2
  have HBS2 := Lib.hid (HBS1.out.step hm2 (HQB.out _))
  clear hl2 hm2
  go_wp2_with fail
  refine (HR2.out w2 H2.out).mono ?_
  rintro e w3 ⟨rfl, hl3, hm3⟩
  have H3 := Lib.hid hl3
  have HBS3 := Lib.hid (HBS2.out.step hm3 (HQB.out _))
  clear hl3 hm3
  have HC3 := Lib.hid (H3.out.clear (by have := HK.out; omega) 1)
  rw [HNO.out 1 (by decide)] at HC3
  go_wp2_with fail
  refine HC3.out.mono ?_
  rintro e w4 ⟨v4, rfl, hl4, hm4, hy4⟩
  have H4 := Lib.hid hl4
  have HBS4 := Lib.hid (HBS3.out.next hm4 hy4)
  clear hl4 hm4 hy4 HC3
  by_cases hoo : oo = 2
  · have o1 : ((oo : Nat) : Int) = 2 := by omega
    have ob : (((oo : Nat) : Int) != 2) = false := by simp [o1]
    have HX := H4
    have HBX := HBS4
    clear hoo o1
    have HRC := Lib.hid HX.out.records
    rw [HLQ.out] at HRC
    go_wp2_with fail
    refine HRC.out.mono ?_
    rintro e w5 ⟨vr2, rfl, ho5, hm5⟩
    have ho5 : RdE evE w5 vr2 (l.map (·.2)) := by
      have h := ho5.rd evOk
      rw [show ({ fillL G ov (evJ Ls) m with held := true, num := 2 } : LogP).s.recs = l from HLR.out] at h
      exact h
    obtain ⟨ad2, cap2, hv2⟩ := ho5.len
    rw [List.length_map] at hv2
    have HS5 := Lib.hid (sameL_ok w5 vr2 (.slice ad l.length cap) _ _ ho5 (HBX.out.rd.mods0 evOk hm5))
    have HDT := Lib.hid (show decide (l.map (·.2) = l.map (·.2)) = true from decide_eq_true rfl)
    have HM5 := Lib.hid hm5
    rw [hv2] at HS5 ⊢
    clear hv2 ho5 hm5 HRC
    go_wp2_with fail
    refine HS5.out.mono ?_
    rw [HDT.out]
    rintro e w6 ⟨rfl, hm6⟩
    have H6 := Lib.hid (HX.out.mods0 (HM5.out.trans hm6))
    have HBS6 := Lib.hid (HBX.out.step (HM5.out.trans hm6) (by simp))
    clear hm6 HS5 HDT
    go_wp2_with fail
    refine (HMA.out _).mono ?_
    rintro e w' ⟨rfl, rfl⟩
    have hx20 : ((x20 : Nat) : Int) < 20 := by have := HX20.out; omega
    have hx0 : (0 : Int) ≤ ((x20 : Nat) : Int) := by omega
    go_wp2_with fail
    refine (H6.out.arm (1 + ((x20 : Nat) : Int)) t (by omega) HT.out.1 HT.out.2).mono ?_
    rintro e w7 ⟨rfl, hl7, hm7⟩
    have H7 := Lib.hid hl7
    have HBS7 := Lib.hid (HBS6.out.step hm7 (HPB.out _))
    clear hl7 hm7
    have HCL := Lib.hid (H7.out.clear (by have := HK.out; omega) 2)
    have HCD := Lib.hid (show Cleared G (D.arm (1 + ((x20 : Nat) : Int)) t) ov (LQ 2).s (fillM G ov m) (clearL G (D.arm (1 + ((x20 : Nat) : Int)) t) (LQ 2) 2) from by
      have h := cleared_ok (L := LQ 2) (ov := ov) (ev := evJ Ls) (b := fillM G ov m) H7.out.sync (by rw [HLQ.out]; rfl) H7.out.few (by have := fillM_le G ov m; have := HMR.out; omega) (by rw [HLQ.out]; rfl) (by rw [HLQ.out])
      have e : (LQ 2).num = 2 := by rw [HLQ.out]
      rw [e] at h
      exact h)
    generalize clearL G (D.arm (1 + ((x20 : Nat) : Int)) t) (LQ 2) 2 = R at HCL HCD
    obtain ⟨cd, D8, L8⟩ := R
    simp only at HCL
    go_wp2_with fail
    refine HCL.out.mono ?_
    rintro e w8 ⟨v8, rfl, hl8, hm8, hy8⟩
    have H8 := Lib.hid hl8
    have HBS8 := Lib.hid (HBS7.out.next hm8 hy8)
    clear hl8 hm8 hy8 HCL
    go_wp2_with fail
    refine (H8.out.arm 0 0 (by omega) (by omega) (by omega)).mono ?_
    rintro e w9 ⟨rfl, hl9, hm9⟩
    have H9 := Lib.hid hl9
    have HBS9 := Lib.hid (HBS8.out.step hm9 (HPB.out _))
    clear hl9 hm9
    go_wp2_with fail
    refine H9.out.restore.mono ?_
    rintro e w10 ⟨rfl, hl10, hm10⟩
    have H10 := Lib.hid hl10
    have HBS10 := Lib.hid (HBS9.out.step hm10 (HPB.out _))
    clear hl10 hm10
    have HBY := Lib.hid (show byt { (D8.arm 0 0) with down := false, left := 0 } = byt D8 from byt_of (arm_data D8 0 0).1)
    have HCALM := Lib.hid (show Calm { (D8.arm 0 0) with down := false, left := 0 } from ⟨rfl, Int.le_refl _⟩)
    generalize ({ (D8.arm 0 0) with down := false, left := 0 } : Dev) = DA at H10 HBY HCALM
    have HOP := Lib.hid (show Calls Try.prog 13 #[.pointer (some ⟨p.b, 0, none⟩), .int .i64 0, .int .i64 (N : Nat), .bool ov] w10 fun e w' => ∃ q' : LogAt, e = .returned (.tuple #[.pointer (some ⟨q'.b, 0, none⟩), .int .i64 0]) ∧ Lw w w' q' (w10.heap.size + 1) p G DA (mkL ov (openS (byt D8) G)) (k + 12 + 12) ∧ Lw w w' ⟨qb, v8⟩ B p G DA L8 (k + 12 + 12) ∧ (∀ x ∈ q'.foot, w10.heap.size ≤ x) ∧ Mods [] w10 w' from by
      have h := (H10.out.again HCALM.out.1 ov)
      rw [HBY.out] at h
      have e1 : G.first = 0 := by rw [HGE.out]
      have e2 : G.n = N := by rw [HGE.out]
      rw [e1, e2] at h
      exact h.mono (fun e w' hh => hh))
    go_wp2_with fail
    refine HOP.out.mono ?_
    rintro e w11 ⟨⟨qb2, v11⟩, rfl, hl11, hlo11, hqf, hm11⟩
    have H11 := Lib.hid hl11
    have HLO := Lib.hid hlo11
    have HQF := Lib.hid hqf
    have HBS11 := Lib.hid (HBS10.out.step hm11 (by simp))
    clear hl11 hlo11 hqf hm11 HOP
    have HR11 := Lib.hid H11.out.records
    go_wp2_with fail
    refine HR11.out.mono ?_
    rintro e w12 ⟨vr3, rfl, ho12, hm12⟩
    have H12 := Lib.hid (H11.out.mods0 hm12)
    have HLO12 := Lib.hid (HLO.out.mods0 hm12)
    have HBS12 := Lib.hid (HBS11.out.step hm12 (by simp))
    have HAC := Lib.hid (cleared_add HCD.out HBY.out HCALM.out H11.out.sync H11.out.few)
    obtain ⟨S5, hS5⟩ : ∃ S5, S5 = openS (byt D8) G := ⟨_, rfl⟩
    have HCR := Lib.hid (show S5.recs = [] ∨ S5.recs = l from by
      have h := HCD.out.recs
      rw [show (LQ 2).s.recs = l by rw [HLQ.out]; exact HLR.out] at h
      rw [hS5]; exact h)
    have HC0 := Lib.hid (show cd = 0 → S5.recs = [] ∧ L8.s.recs = [] ∧ L8.full = false ∧ L8.held = false ∧ L8.ended = false from by rw [hS5]; exact HCD.out.zero)
    have HCC := Lib.hid (show cd = 0 ∨ cd = 10 from HCD.out.code)
    have ho13 : RdE evE w12 vr3 (S5.recs.map (·.2)) := by
      have h := ho12.rd evOk
      rw [hS5]
      exact h
    obtain ⟨ad3, cap3, hv3⟩ := ho13.len
    rw [List.length_map] at hv3
    have HO13 := Lib.hid ho13
    rw [hv3] at HO13 ⊢
    simp only [← hS5] at H12 HAC
    clear hv3 ho12 hm12 ho13 hS5 HR11 HCD H11 HLO HBS11
    have HWANT := Lib.hid (show (l.length = 0 → fillM G ov m = 0) ∧ ∀ h : l.length - 1 < l.length, (l.getD (l.length - 1) recE.dflt).2.id.val = fillM G ov m from by
      have hb100 : fillM G ov m ≤ 100 := by have := fillM_le G ov m; have := HMR.out; omega
      have hl : l = recsAB G.slots (evJ Ls) ((fillT G.slots G.n (fillM G ov m) - 1) * G.slots) (fillM G ov m) := HLR.out.symm
      have hA := fill_a (K := G.slots) (N := G.n) (i := fillM G ov m) (by have := HSL.out; omega) HGN.out
      have hln : l.length = fillM G ov m - (fillT G.slots G.n (fillM G ov m) - 1) * G.slots := by rw [hl, recsAB_len]
      refine ⟨fun h => ?_, fun h => ?_⟩
      · rcases Nat.eq_zero_or_pos (fillM G ov m) with h0 | h0
        · exact h0
        · have := hA.2.2.2.2 h0; omega
      · rw [hln] at h ⊢
        rw [hl, recsAB_gd h]
        show (_ + 1) % 65536 = _
        omega)
    have HB100 := Lib.hid (show fillM G ov m ≤ 100 by have := fillM_le G ov m; have := HMR.out; omega)
    generalize fillM G ov m = b at HWANT HAC HB100
    rcases HCC.out with rfl | rfl
    · obtain ⟨r1, r2, r3, r4, r5⟩ := HC0.out rfl
      rw [r1]
      have HLE := Lib.hid HLO12.out.len
      rw [r2] at HLE
      have HLE : Hid (Calls Try.prog 25 #[.pointer (some ⟨qb, 0, none⟩)] w12 fun e w' => e = .returned (.int .i64 0) ∧ w12 = w') := HLE
      have HFU := Lib.hid HLO12.out.full
      rw [r3] at HFU
      have HCN := Lib.hid (HLO12.out.clear (by have := HK.out; omega) 2)
      have hcn : clearL G DA L8 2 = (11, DA, L8) := by
        unfold clearL
        rw [if_neg (by rw [r5, HCALM.out.1]; decide), if_pos (by rw [r4]; rfl)]
      rw [hcn] at HCN
      clear hcn
      go_wp2_with fail
      refine HLE.out.mono ?_
      rintro e w' ⟨rfl, rfl⟩
      go_wp2_with fail
      refine HFU.out.mono ?_
      rintro e w' ⟨rfl, rfl⟩
      go_wp2_with fail
      refine HCN.out.mono ?_
      rintro e w13 ⟨v13, rfl, hl13, hm13, hy13⟩
      have H13 := Lib.hid (H12.out.swap hl13 hm13 (fun x hx hm => by
        have h1 := HQF.out x hx
        have h2 := H10.out.lt x hm
        omega))
      have HBS13 := Lib.hid (HBS12.out.step hm13 (fun y hy => hy))
      clear hl13 hm13 hy13
      go_upto_region 24 with (fail)
      have HAD := Lib.hid (H13.out.add (by have := HK.out; omega) zE)
      generalize addL G DA (mkL ov S5) zE = RA at HAD HAC
      obtain ⟨⟨ra, rc⟩, DB, LB⟩ := RA
      simp only at HAD HAC
      have HAD : Hid (Calls Try.prog 15 #[.pointer (some ⟨qb2, 0, none⟩), .agg #[.int .u16 0, .int .u32 0, .int .u16 0, .int .u8 0, .int .u8 0, .int .u8 0, .bool false, .int .u8 0, .int .u8 0, .int .u8 0]] w13 _) := HAD
      have HBL := Lib.hid (show b ≤ 100 from HB100.out)
      by_cases hl0 : l.length = 0
      · obtain rfl : b = 0 := HWANT.out.1 hl0
        have l1 : decide ((0 : Int) < ((l.length : Nat) : Int)) = false := decide_eq_false (by omega)
        have l2 : decide (0 < l.length) = false := decide_eq_false (by omega)
        clear hl0
        go_wp2_with fail
        refine HAD.out.mono ?_
        rintro e w14 ⟨v14, rfl, hl14, -, -⟩
        have H14 := Lib.hid hl14
        clear hl14
        have hac := HAC.out
        rcases hac with hac | ⟨hac, hov, hne⟩
        · injection hac with h1 h2
          subst h1 h2
          go_wp2_with fail
          refine (HAW.out _).mono ?_
          rintro e w15 ⟨rfl, h15⟩
          have H15 := Lib.hid h15
          clear h15
          go_wp2_with fail
          go_ret
          exact ⟨rfl, H14.out.mods.trans H15.out⟩
        · exact absurd r1 hne
      · have hidb := HWANT.out.2 (by omega)
        have hrd := HBS13.out.rd
        obtain ⟨bb, off, cp, hv2, _, _, hat⟩ := hrd.at (by rw [List.length_map]; omega)
        injection hv2 with hv3 hv5 hv4
        subst hv3 hv4
        clear hv5
        have hml : (l.map (·.2)).getD (l.length - 1) evE.dflt = (l.getD (l.length - 1) recE.dflt).2 := by
          rw [List.getD_eq_getElem?_getD, List.getD_eq_getElem?_getD, List.getElem?_map, List.getElem?_eq_getElem (by omega)]; rfl
        have cx : w13.cell? ⟨bb, off + (l.length - 1) * 10, none⟩ = some (.int .u16 ((b : Nat) : Int)) := by
          have h := hat (l.length - 1) (by rw [List.length_map]; omega) 0 (by decide)
          rw [hml] at h
          refine h.trans ?_
          show some (Value.int .u16 (((l.getD (l.length - 1) recE.dflt).2.id.val : Nat) : Int)) = _
          rw [hidb]
        have n1 : (1 : Int) ≤ ((l.length : Nat) : Int) := by omega
        have n2 : 1 ≤ l.length := by omega
        have n3 : 0 < l.length := by omega
        have n4 : (((l.length : Nat) : Int) - 1).toNat = l.length - 1 := by omega
        have n5 : l.length ≤ 9223372036854775807 := by have h := HLR.out; have h2 := HW.out.recs; rw [h] at h2; omega
        have hb1 : ((b : Nat) : Int) ≤ 100 := by have := HBL.out; omega
        have hb0 : (0 : Int) ≤ ((b : Nat) : Int) := by omega
        have hw16 : IntKind.u16.wrap (((b : Nat) : Int) + 1) = ((b : Nat) : Int) + 1 := by rw [IntKind.wrap_u16]; omega
        clear hat hml hidb hl0 hrd
        go_wp2_with fail
        refine HAD.out.mono ?_
        rintro e w14 ⟨v14, rfl, hl14, -, -⟩
        have H14 := Lib.hid hl14
        clear hl14
        have hac := HAC.out
        rcases hac with hac | ⟨hac, hov, hne⟩
        · injection hac with h1 h2
          subst h1 h2
          have hbb : ((b + 1 : Nat) : Int) = ((b : Nat) : Int) + 1 := by omega
          rw [hbb]
          clear hbb
          go_wp2_with fail
          refine (HAW.out _).mono ?_
          rintro e w15 ⟨rfl, h15⟩
          have H15 := Lib.hid h15
          clear h15
          go_wp2_with fail
          go_ret
          exact ⟨rfl, H14.out.mods.trans H15.out⟩
        · exact absurd r1 hne
    · by_cases r1 : S5.recs = []
      · rw [r1]
        go_upto_region 24 with (fail)
        have HAD := Lib.hid (H12.out.add (by have := HK.out; omega) zE)
        generalize addL G DA (mkL ov S5) zE = RA at HAD HAC
        obtain ⟨⟨ra, rc⟩, DB, LB⟩ := RA
        simp only at HAD HAC
        have HAD : Hid (Calls Try.prog 15 #[.pointer (some ⟨qb2, 0, none⟩), .agg #[.int .u16 0, .int .u32 0, .int .u16 0, .int .u8 0, .int .u8 0, .int .u8 0, .bool false, .int .u8 0, .int .u8 0, .int .u8 0]] w12 _) := HAD
        have HBL := Lib.hid (show b ≤ 100 from HB100.out)
        by_cases hl0 : l.length = 0
        · obtain rfl : b = 0 := HWANT.out.1 hl0
          have l1 : decide ((0 : Int) < ((l.length : Nat) : Int)) = false := decide_eq_false (by omega)
          have l2 : decide (0 < l.length) = false := decide_eq_false (by omega)
          clear hl0
          go_wp2_with fail
          refine HAD.out.mono ?_
          rintro e w14 ⟨v14, rfl, hl14, -, -⟩
          have H14 := Lib.hid hl14
          clear hl14
          have hac := HAC.out
          rcases hac with hac | ⟨hac, hov, hne⟩
          · injection hac with h1 h2
            subst h1 h2
            go_wp2_with fail
            refine (HAW.out _).mono ?_
            rintro e w15 ⟨rfl, h15⟩
            have H15 := Lib.hid h15
            clear h15
            go_wp2_with fail
            go_ret
            exact ⟨rfl, H14.out.mods.trans H15.out⟩
          · exact absurd r1 hne
        · have hidb := HWANT.out.2 (by omega)
          have hrd := HBS12.out.rd
          obtain ⟨bb, off, cp, hv2, _, _, hat⟩ := hrd.at (by rw [List.length_map]; omega)
          injection hv2 with hv3 hv5 hv4
          subst hv3 hv4
          clear hv5
          have hml : (l.map (·.2)).getD (l.length - 1) evE.dflt = (l.getD (l.length - 1) recE.dflt).2 := by
            rw [List.getD_eq_getElem?_getD, List.getD_eq_getElem?_getD, List.getElem?_map, List.getElem?_eq_getElem (by omega)]; rfl
          have cx : w12.cell? ⟨bb, off + (l.length - 1) * 10, none⟩ = some (.int .u16 ((b : Nat) : Int)) := by
            have h := hat (l.length - 1) (by rw [List.length_map]; omega) 0 (by decide)
            rw [hml] at h
            refine h.trans ?_
            show some (Value.int .u16 (((l.getD (l.length - 1) recE.dflt).2.id.val : Nat) : Int)) = _
            rw [hidb]
          have n1 : (1 : Int) ≤ ((l.length : Nat) : Int) := by omega
          have n2 : 1 ≤ l.length := by omega
          have n3 : 0 < l.length := by omega
          have n4 : (((l.length : Nat) : Int) - 1).toNat = l.length - 1 := by omega
          have n5 : l.length ≤ 9223372036854775807 := by have h := HLR.out; have h2 := HW.out.recs; rw [h] at h2; omega
          have hb1 : ((b : Nat) : Int) ≤ 100 := by have := HBL.out; omega
          have hb0 : (0 : Int) ≤ ((b : Nat) : Int) := by omega
          have hw16 : IntKind.u16.wrap (((b : Nat) : Int) + 1) = ((b : Nat) : Int) + 1 := by rw [IntKind.wrap_u16]; omega
          clear hat hml hidb hl0 hrd
          go_wp2_with fail
          refine HAD.out.mono ?_
          rintro e w14 ⟨v14, rfl, hl14, -, -⟩
          have H14 := Lib.hid hl14
          clear hl14
          have hac := HAC.out
          rcases hac with hac | ⟨hac, hov, hne⟩
          · injection hac with h1 h2
            subst h1 h2
            have hbb : ((b + 1 : Nat) : Int) = ((b : Nat) : Int) + 1 := by omega
            rw [hbb]
            clear hbb
            go_wp2_with fail
            refine (HAW.out _).mono ?_
            rintro e w15 ⟨rfl, h15⟩
            have H15 := Lib.hid h15
            clear h15
            go_wp2_with fail
            go_ret
            exact ⟨rfl, H14.out.mods.trans H15.out⟩
          · exact absurd r1 hne
      · have r2 : S5.recs = l := by rcases HCR.out with h | h; exact absurd h r1; exact h
        have hl1 : l.length ≠ 0 := fun h => r1 (by rw [r2]; exact List.eq_nil_of_length_eq_zero h)
        have HO14 := HO13.out
        rw [r2] at HO14 ⊢
        have HS14 := Lib.hid (sameL_ok w12 (.slice ad3 l.length cap3) (.slice ad l.length cap) _ _ HO14 HBS12.out.rd)
        have HDT2 := Lib.hid (show decide (l.map (·.2) = l.map (·.2)) = true from decide_eq_true rfl)
        have e1 : decide ((0 : Int) < ((l.length : Nat) : Int)) = true := decide_eq_true (by omega)
        have e2 : decide (0 < l.length) = true := decide_eq_true (by omega)
        have HAFT := Lib.hid (And.intro e1 e2)
        have HNEL := Lib.hid hl1
        clear HO14 r2 r1 hl1
        go_wp2_with fail
        refine HS14.out.mono ?_
        rw [HDT2.out]
        rintro e w13 ⟨rfl, hm13⟩
        have H13 := Lib.hid (H12.out.mods0 hm13)
        have HBS13 := Lib.hid (HBS12.out.step hm13 (by simp))
        clear hm13 HS14 HDT2
        go_upto_region 24 with (fail)
        clear e1 e2
        have HAD := Lib.hid (H13.out.add (by have := HK.out; omega) zE)
        generalize addL G DA (mkL ov S5) zE = RA at HAD HAC
        obtain ⟨⟨ra, rc⟩, DB, LB⟩ := RA
        simp only at HAD HAC
        have HAD : Hid (Calls Try.prog 15 #[.pointer (some ⟨qb2, 0, none⟩), .agg #[.int .u16 0, .int .u32 0, .int .u16 0, .int .u8 0, .int .u8 0, .int .u8 0, .bool false, .int .u8 0, .int .u8 0, .int .u8 0]] w13 _) := HAD
        have HBL := Lib.hid (show b ≤ 100 from HB100.out)
        by_cases hl0 : l.length = 0
        · obtain rfl : b = 0 := HWANT.out.1 hl0
          have l1 : decide ((0 : Int) < ((l.length : Nat) : Int)) = false := decide_eq_false (by omega)
          have l2 : decide (0 < l.length) = false := decide_eq_false (by omega)
          clear hl0
          go_wp2_with fail
          refine HAD.out.mono ?_
          rintro e w14 ⟨v14, rfl, hl14, -, -⟩
          have H14 := Lib.hid hl14
          clear hl14
          have hac := HAC.out
          rcases hac with hac | ⟨hac, hov, hne⟩
          · injection hac with h1 h2
            subst h1 h2
            go_wp2_with fail
            refine (HAW.out _).mono ?_
            rintro e w15 ⟨rfl, h15⟩
            have H15 := Lib.hid h15
            clear h15
            go_wp2_with fail
            go_ret
            exact ⟨rfl, H14.out.mods.trans H15.out⟩
          · first | (exact (of_decide_eq_false l2 (Nat.pos_of_ne_zero HNEL.out)).elim) | (injection hac with h1 h2; subst h1 h2; subst hov; go_wp2_with fail; refine (HAW.out _).mono ?_; rintro e w15 ⟨rfl, h15⟩; have H15 := Lib.hid h15; clear h15; go_wp2_with fail; go_ret; exact ⟨rfl, H14.out.mods.trans H15.out⟩)
        · have hidb := HWANT.out.2 (by omega)
          have hrd := HBS13.out.rd
          obtain ⟨bb, off, cp, hv2, _, _, hat⟩ := hrd.at (by rw [List.length_map]; omega)
          injection hv2 with hv3 hv5 hv4
          subst hv3 hv4
          clear hv5
          have hml : (l.map (·.2)).getD (l.length - 1) evE.dflt = (l.getD (l.length - 1) recE.dflt).2 := by
            rw [List.getD_eq_getElem?_getD, List.getD_eq_getElem?_getD, List.getElem?_map, List.getElem?_eq_getElem (by omega)]; rfl
          have cx : w13.cell? ⟨bb, off + (l.length - 1) * 10, none⟩ = some (.int .u16 ((b : Nat) : Int)) := by
            have h := hat (l.length - 1) (by rw [List.length_map]; omega) 0 (by decide)
            rw [hml] at h
            refine h.trans ?_
            show some (Value.int .u16 (((l.getD (l.length - 1) recE.dflt).2.id.val : Nat) : Int)) = _
            rw [hidb]
          have n1 : (1 : Int) ≤ ((l.length : Nat) : Int) := by omega
          have n2 : 1 ≤ l.length := by omega
          have n3 : 0 < l.length := by omega
          have n4 : (((l.length : Nat) : Int) - 1).toNat = l.length - 1 := by omega
          have n5 : l.length ≤ 9223372036854775807 := by have h := HLR.out; have h2 := HW.out.recs; rw [h] at h2; omega
          have hb1 : ((b : Nat) : Int) ≤ 100 := by have := HBL.out; omega
          have hb0 : (0 : Int) ≤ ((b : Nat) : Int) := by omega
          have hw16 : IntKind.u16.wrap (((b : Nat) : Int) + 1) = ((b : Nat) : Int) + 1 := by rw [IntKind.wrap_u16]; omega
          clear hat hml hidb hl0 hrd
          go_wp2_with fail
          refine HAD.out.mono ?_
          rintro e w14 ⟨v14, rfl, hl14, -, -⟩
          have H14 := Lib.hid hl14
          clear hl14
          have hac := HAC.out
          rcases hac with hac | ⟨hac, hov, hne⟩
          · injection hac with h1 h2
            subst h1 h2
            have hbb : ((b + 1 : Nat) : Int) = ((b : Nat) : Int) + 1 := by omega
            rw [hbb]
            clear hbb
            go_wp2_with fail
            refine (HAW.out _).mono ?_
            rintro e w15 ⟨rfl, h15⟩
            have H15 := Lib.hid h15
            clear h15
            go_wp2_with fail
            go_ret
            exact ⟨rfl, H14.out.mods.trans H15.out⟩
          · first | (exact (of_decide_eq_false l2 (Nat.pos_of_ne_zero HNEL.out)).elim) | (injection hac with h1 h2; subst h1 h2; subst hov; go_wp2_with fail; refine (HAW.out _).mono ?_; rintro e w15 ⟨rfl, h15⟩; have H15 := Lib.hid h15; clear h15; go_wp2_with fail; go_ret; exact ⟨rfl, H14.out.mods.trans H15.out⟩)
  · have ob : (((oo : Nat) : Int) != 2) = true := by simp; omega
    have HC4 := Lib.hid (H4.out.clear (by have := HK.out; omega) oo)
    rw [HNO.out oo hoo] at HC4
    clear hoo
    go_wp2_with fail
    refine HC4.out.mono ?_
    rintro e w4b ⟨v4b, rfl, hl4b, hm4b, hy4b⟩
    have HX := Lib.hid hl4b
    have HBX := Lib.hid (HBS4.out.next hm4b hy4b)
    clear hl4b hm4b hy4b HC4
    have HRC := Lib.hid HX.out.records
    rw [HLQ.out] at HRC
    go_wp2_with fail
    refine HRC.out.mono ?_
    rintro e w5 ⟨vr2, rfl, ho5, hm5⟩
    have ho5 : RdE evE w5 vr2 (l.map (·.2)) := by
      have h := ho5.rd evOk
      rw [show ({ fillL G ov (evJ Ls) m with held := true, num := 2 } : LogP).s.recs = l from HLR.out] at h
      exact h
    obtain ⟨ad2, cap2, hv2⟩ := ho5.len
    rw [List.length_map] at hv2
    have HS5 := Lib.hid (sameL_ok w5 vr2 (.slice ad l.length cap) _ _ ho5 (HBX.out.rd.mods0 evOk hm5))
    have HDT := Lib.hid (show decide (l.map (·.2) = l.map (·.2)) = true from decide_eq_true rfl)
    have HM5 := Lib.hid hm5
    rw [hv2] at HS5 ⊢
    clear hv2 ho5 hm5 HRC
    go_wp2_with fail
    refine HS5.out.mono ?_
    rw [HDT.out]
    rintro e w6 ⟨rfl, hm6⟩
    have H6 := Lib.hid (HX.out.mods0 (HM5.out.trans hm6))
    have HBS6 := Lib.hid (HBX.out.step (HM5.out.trans hm6) (by simp))
    clear hm6 HS5 HDT
    go_wp2_with fail
    refine (HMA.out _).mono ?_
    rintro e w' ⟨rfl, rfl⟩
    have hx20 : ((x20 : Nat) : Int) < 20 := by have := HX20.out; omega
    have hx0 : (0 : Int) ≤ ((x20 : Nat) : Int) := by omega
    go_wp2_with fail
    refine (H6.out.arm (1 + ((x20 : Nat) : Int)) t (by omega) HT.out.1 HT.out.2).mono ?_
    rintro e w7 ⟨rfl, hl7, hm7⟩
    have H7 := Lib.hid hl7
    have HBS7 := Lib.hid (HBS6.out.step hm7 (HPB.out _))
    clear hl7 hm7
    have HCL := Lib.hid (H7.out.clear (by have := HK.out; omega) 2)
    have HCD := Lib.hid (show Cleared G (D.arm (1 + ((x20 : Nat) : Int)) t) ov (LQ 2).s (fillM G ov m) (clearL G (D.arm (1 + ((x20 : Nat) : Int)) t) (LQ 2) 2) from by
      have h := cleared_ok (L := LQ 2) (ov := ov) (ev := evJ Ls) (b := fillM G ov m) H7.out.sync (by rw [HLQ.out]; rfl) H7.out.few (by have := fillM_le G ov m; have := HMR.out; omega) (by rw [HLQ.out]; rfl) (by rw [HLQ.out])
      have e : (LQ 2).num = 2 := by rw [HLQ.out]
      rw [e] at h
      exact h)
    generalize clearL G (D.arm (1 + ((x20 : Nat) : Int)) t) (LQ 2) 2 = R at HCL HCD
    obtain ⟨cd, D8, L8⟩ := R
    simp only at HCL
    go_wp2_with fail
    refine HCL.out.mono ?_
    rintro e w8 ⟨v8, rfl, hl8, hm8, hy8⟩
    have H8 := Lib.hid hl8
    have HBS8 := Lib.hid (HBS7.out.next hm8 hy8)
    clear hl8 hm8 hy8 HCL
    go_wp2_with fail
    refine (H8.out.arm 0 0 (by omega) (by omega) (by omega)).mono ?_
    rintro e w9 ⟨rfl, hl9, hm9⟩
    have H9 := Lib.hid hl9
    have HBS9 := Lib.hid (HBS8.out.step hm9 (HPB.out _))
    clear hl9 hm9
    go_wp2_with fail
    refine H9.out.restore.mono ?_
    rintro e w10 ⟨rfl, hl10, hm10⟩
    have H10 := Lib.hid hl10
    have HBS10 := Lib.hid (HBS9.out.step hm10 (HPB.out _))
    clear hl10 hm10
    have HBY := Lib.hid (show byt { (D8.arm 0 0) with down := false, left := 0 } = byt D8 from byt_of (arm_data D8 0 0).1)
    have HCALM := Lib.hid (show Calm { (D8.arm 0 0) with down := false, left := 0 } from ⟨rfl, Int.le_refl _⟩)
    generalize ({ (D8.arm 0 0) with down := false, left := 0 } : Dev) = DA at H10 HBY HCALM
    have HOP := Lib.hid (show Calls Try.prog 13 #[.pointer (some ⟨p.b, 0, none⟩), .int .i64 0, .int .i64 (N : Nat), .bool ov] w10 fun e w' => ∃ q' : LogAt, e = .returned (.tuple #[.pointer (some ⟨q'.b, 0, none⟩), .int .i64 0]) ∧ Lw w w' q' (w10.heap.size + 1) p G DA (mkL ov (openS (byt D8) G)) (k + 12 + 12 + 12) ∧ Lw w w' ⟨qb, v8⟩ B p G DA L8 (k + 12 + 12 + 12) ∧ (∀ x ∈ q'.foot, w10.heap.size ≤ x) ∧ Mods [] w10 w' from by
      have h := (H10.out.again HCALM.out.1 ov)
      rw [HBY.out] at h
      have e1 : G.first = 0 := by rw [HGE.out]
      have e2 : G.n = N := by rw [HGE.out]
      rw [e1, e2] at h
      exact h.mono (fun e w' hh => hh))
    go_wp2_with fail
    refine HOP.out.mono ?_
    rintro e w11 ⟨⟨qb2, v11⟩, rfl, hl11, hlo11, hqf, hm11⟩
    have H11 := Lib.hid hl11
    have HLO := Lib.hid hlo11
    have HQF := Lib.hid hqf
    have HBS11 := Lib.hid (HBS10.out.step hm11 (by simp))
    clear hl11 hlo11 hqf hm11 HOP
    have HR11 := Lib.hid H11.out.records
    go_wp2_with fail
    refine HR11.out.mono ?_
    rintro e w12 ⟨vr3, rfl, ho12, hm12⟩
    have H12 := Lib.hid (H11.out.mods0 hm12)
    have HLO12 := Lib.hid (HLO.out.mods0 hm12)
    have HBS12 := Lib.hid (HBS11.out.step hm12 (by simp))
    have HAC := Lib.hid (cleared_add HCD.out HBY.out HCALM.out H11.out.sync H11.out.few)
    obtain ⟨S5, hS5⟩ : ∃ S5, S5 = openS (byt D8) G := ⟨_, rfl⟩
    have HCR := Lib.hid (show S5.recs = [] ∨ S5.recs = l from by
      have h := HCD.out.recs
      rw [show (LQ 2).s.recs = l by rw [HLQ.out]; exact HLR.out] at h
      rw [hS5]; exact h)
    have HC0 := Lib.hid (show cd = 0 → S5.recs = [] ∧ L8.s.recs = [] ∧ L8.full = false ∧ L8.held = false ∧ L8.ended = false from by rw [hS5]; exact HCD.out.zero)
    have HCC := Lib.hid (show cd = 0 ∨ cd = 10 from HCD.out.code)
    have ho13 : RdE evE w12 vr3 (S5.recs.map (·.2)) := by
      have h := ho12.rd evOk
      rw [hS5]
      exact h
    obtain ⟨ad3, cap3, hv3⟩ := ho13.len
    rw [List.length_map] at hv3
    have HO13 := Lib.hid ho13
    rw [hv3] at HO13 ⊢
    simp only [← hS5] at H12 HAC
    clear hv3 ho12 hm12 ho13 hS5 HR11 HCD H11 HLO HBS11
    have HWANT := Lib.hid (show (l.length = 0 → fillM G ov m = 0) ∧ ∀ h : l.length - 1 < l.length, (l.getD (l.length - 1) recE.dflt).2.id.val = fillM G ov m from by
      have hb100 : fillM G ov m ≤ 100 := by have := fillM_le G ov m; have := HMR.out; omega
      have hl : l = recsAB G.slots (evJ Ls) ((fillT G.slots G.n (fillM G ov m) - 1) * G.slots) (fillM G ov m) := HLR.out.symm
      have hA := fill_a (K := G.slots) (N := G.n) (i := fillM G ov m) (by have := HSL.out; omega) HGN.out
      have hln : l.length = fillM G ov m - (fillT G.slots G.n (fillM G ov m) - 1) * G.slots := by rw [hl, recsAB_len]
      refine ⟨fun h => ?_, fun h => ?_⟩
      · rcases Nat.eq_zero_or_pos (fillM G ov m) with h0 | h0
        · exact h0
        · have := hA.2.2.2.2 h0; omega
      · rw [hln] at h ⊢
        rw [hl, recsAB_gd h]
        show (_ + 1) % 65536 = _
        omega)
    have HB100 := Lib.hid (show fillM G ov m ≤ 100 by have := fillM_le G ov m; have := HMR.out; omega)
    generalize fillM G ov m = b at HWANT HAC HB100
    rcases HCC.out with rfl | rfl
    · obtain ⟨r1, r2, r3, r4, r5⟩ := HC0.out rfl
      rw [r1]
      have HLE := Lib.hid HLO12.out.len
      rw [r2] at HLE
      have HLE : Hid (Calls Try.prog 25 #[.pointer (some ⟨qb, 0, none⟩)] w12 fun e w' => e = .returned (.int .i64 0) ∧ w12 = w') := HLE
      have HFU := Lib.hid HLO12.out.full
      rw [r3] at HFU
      have HCN := Lib.hid (HLO12.out.clear (by have := HK.out; omega) 2)
      have hcn : clearL G DA L8 2 = (11, DA, L8) := by
        unfold clearL
        rw [if_neg (by rw [r5, HCALM.out.1]; decide), if_pos (by rw [r4]; rfl)]
      rw [hcn] at HCN
      clear hcn
      go_wp2_with fail
      refine HLE.out.mono ?_
      rintro e w' ⟨rfl, rfl⟩
      go_wp2_with fail
      refine HFU.out.mono ?_
      rintro e w' ⟨rfl, rfl⟩
      go_wp2_with fail
      refine HCN.out.mono ?_
      rintro e w13 ⟨v13, rfl, hl13, hm13, hy13⟩
      have H13 := Lib.hid (H12.out.swap hl13 hm13 (fun x hx hm => by
        have h1 := HQF.out x hx
        have h2 := H10.out.lt x hm
        omega))
      have HBS13 := Lib.hid (HBS12.out.step hm13 (fun y hy => hy))
      clear hl13 hm13 hy13
      go_upto_region 24 with (fail)
      have HAD := Lib.hid (H13.out.add (by have := HK.out; omega) zE)
      generalize addL G DA (mkL ov S5) zE = RA at HAD HAC
      obtain ⟨⟨ra, rc⟩, DB, LB⟩ := RA
      simp only at HAD HAC
      have HAD : Hid (Calls Try.prog 15 #[.pointer (some ⟨qb2, 0, none⟩), .agg #[.int .u16 0, .int .u32 0, .int .u16 0, .int .u8 0, .int .u8 0, .int .u8 0, .bool false, .int .u8 0, .int .u8 0, .int .u8 0]] w13 _) := HAD
      have HBL := Lib.hid (show b ≤ 100 from HB100.out)
      by_cases hl0 : l.length = 0
      · obtain rfl : b = 0 := HWANT.out.1 hl0
        have l1 : decide ((0 : Int) < ((l.length : Nat) : Int)) = false := decide_eq_false (by omega)
        have l2 : decide (0 < l.length) = false := decide_eq_false (by omega)
        clear hl0
        go_wp2_with fail
        refine HAD.out.mono ?_
        rintro e w14 ⟨v14, rfl, hl14, -, -⟩
        have H14 := Lib.hid hl14
        clear hl14
        have hac := HAC.out
        rcases hac with hac | ⟨hac, hov, hne⟩
        · injection hac with h1 h2
          subst h1 h2
          go_wp2_with fail
          refine (HAW.out _).mono ?_
          rintro e w15 ⟨rfl, h15⟩
          have H15 := Lib.hid h15
          clear h15
          go_wp2_with fail
          go_ret
          exact ⟨rfl, H14.out.mods.trans H15.out⟩
        · exact absurd r1 hne
      · have hidb := HWANT.out.2 (by omega)
        have hrd := HBS13.out.rd
        obtain ⟨bb, off, cp, hv2, _, _, hat⟩ := hrd.at (by rw [List.length_map]; omega)
        injection hv2 with hv3 hv5 hv4
        subst hv3 hv4
        clear hv5
        have hml : (l.map (·.2)).getD (l.length - 1) evE.dflt = (l.getD (l.length - 1) recE.dflt).2 := by
          rw [List.getD_eq_getElem?_getD, List.getD_eq_getElem?_getD, List.getElem?_map, List.getElem?_eq_getElem (by omega)]; rfl
        have cx : w13.cell? ⟨bb, off + (l.length - 1) * 10, none⟩ = some (.int .u16 ((b : Nat) : Int)) := by
          have h := hat (l.length - 1) (by rw [List.length_map]; omega) 0 (by decide)
          rw [hml] at h
          refine h.trans ?_
          show some (Value.int .u16 (((l.getD (l.length - 1) recE.dflt).2.id.val : Nat) : Int)) = _
          rw [hidb]
        have n1 : (1 : Int) ≤ ((l.length : Nat) : Int) := by omega
        have n2 : 1 ≤ l.length := by omega
        have n3 : 0 < l.length := by omega
        have n4 : (((l.length : Nat) : Int) - 1).toNat = l.length - 1 := by omega
        have n5 : l.length ≤ 9223372036854775807 := by have h := HLR.out; have h2 := HW.out.recs; rw [h] at h2; omega
        have hb1 : ((b : Nat) : Int) ≤ 100 := by have := HBL.out; omega
        have hb0 : (0 : Int) ≤ ((b : Nat) : Int) := by omega
        have hw16 : IntKind.u16.wrap (((b : Nat) : Int) + 1) = ((b : Nat) : Int) + 1 := by rw [IntKind.wrap_u16]; omega
        clear hat hml hidb hl0 hrd
        go_wp2_with fail
        refine HAD.out.mono ?_
        rintro e w14 ⟨v14, rfl, hl14, -, -⟩
        have H14 := Lib.hid hl14
        clear hl14
        have hac := HAC.out
        rcases hac with hac | ⟨hac, hov, hne⟩
        · injection hac with h1 h2
          subst h1 h2
          have hbb : ((b + 1 : Nat) : Int) = ((b : Nat) : Int) + 1 := by omega
          rw [hbb]
          clear hbb
          go_wp2_with fail
          refine (HAW.out _).mono ?_
          rintro e w15 ⟨rfl, h15⟩
          have H15 := Lib.hid h15
          clear h15
          go_wp2_with fail
          go_ret
          exact ⟨rfl, H14.out.mods.trans H15.out⟩
        · exact absurd r1 hne
    · by_cases r1 : S5.recs = []
      · rw [r1]
        go_upto_region 24 with (fail)
        have HAD := Lib.hid (H12.out.add (by have := HK.out; omega) zE)
        generalize addL G DA (mkL ov S5) zE = RA at HAD HAC
        obtain ⟨⟨ra, rc⟩, DB, LB⟩ := RA
        simp only at HAD HAC
        have HAD : Hid (Calls Try.prog 15 #[.pointer (some ⟨qb2, 0, none⟩), .agg #[.int .u16 0, .int .u32 0, .int .u16 0, .int .u8 0, .int .u8 0, .int .u8 0, .bool false, .int .u8 0, .int .u8 0, .int .u8 0]] w12 _) := HAD
        have HBL := Lib.hid (show b ≤ 100 from HB100.out)
        by_cases hl0 : l.length = 0
        · obtain rfl : b = 0 := HWANT.out.1 hl0
          have l1 : decide ((0 : Int) < ((l.length : Nat) : Int)) = false := decide_eq_false (by omega)
          have l2 : decide (0 < l.length) = false := decide_eq_false (by omega)
          clear hl0
          go_wp2_with fail
          refine HAD.out.mono ?_
          rintro e w14 ⟨v14, rfl, hl14, -, -⟩
          have H14 := Lib.hid hl14
          clear hl14
          have hac := HAC.out
          rcases hac with hac | ⟨hac, hov, hne⟩
          · injection hac with h1 h2
            subst h1 h2
            go_wp2_with fail
            refine (HAW.out _).mono ?_
            rintro e w15 ⟨rfl, h15⟩
            have H15 := Lib.hid h15
            clear h15
            go_wp2_with fail
            go_ret
            exact ⟨rfl, H14.out.mods.trans H15.out⟩
          · exact absurd r1 hne
        · have hidb := HWANT.out.2 (by omega)
          have hrd := HBS12.out.rd
          obtain ⟨bb, off, cp, hv2, _, _, hat⟩ := hrd.at (by rw [List.length_map]; omega)
          injection hv2 with hv3 hv5 hv4
          subst hv3 hv4
          clear hv5
          have hml : (l.map (·.2)).getD (l.length - 1) evE.dflt = (l.getD (l.length - 1) recE.dflt).2 := by
            rw [List.getD_eq_getElem?_getD, List.getD_eq_getElem?_getD, List.getElem?_map, List.getElem?_eq_getElem (by omega)]; rfl
          have cx : w12.cell? ⟨bb, off + (l.length - 1) * 10, none⟩ = some (.int .u16 ((b : Nat) : Int)) := by
            have h := hat (l.length - 1) (by rw [List.length_map]; omega) 0 (by decide)
            rw [hml] at h
            refine h.trans ?_
            show some (Value.int .u16 (((l.getD (l.length - 1) recE.dflt).2.id.val : Nat) : Int)) = _
            rw [hidb]
          have n1 : (1 : Int) ≤ ((l.length : Nat) : Int) := by omega
          have n2 : 1 ≤ l.length := by omega
          have n3 : 0 < l.length := by omega
          have n4 : (((l.length : Nat) : Int) - 1).toNat = l.length - 1 := by omega
          have n5 : l.length ≤ 9223372036854775807 := by have h := HLR.out; have h2 := HW.out.recs; rw [h] at h2; omega
          have hb1 : ((b : Nat) : Int) ≤ 100 := by have := HBL.out; omega
          have hb0 : (0 : Int) ≤ ((b : Nat) : Int) := by omega
          have hw16 : IntKind.u16.wrap (((b : Nat) : Int) + 1) = ((b : Nat) : Int) + 1 := by rw [IntKind.wrap_u16]; omega
          clear hat hml hidb hl0 hrd
          go_wp2_with fail
          refine HAD.out.mono ?_
          rintro e w14 ⟨v14, rfl, hl14, -, -⟩
          have H14 := Lib.hid hl14
          clear hl14
          have hac := HAC.out
          rcases hac with hac | ⟨hac, hov, hne⟩
          · injection hac with h1 h2
            subst h1 h2
            have hbb : ((b + 1 : Nat) : Int) = ((b : Nat) : Int) + 1 := by omega
            rw [hbb]
            clear hbb
            go_wp2_with fail
            refine (HAW.out _).mono ?_
            rintro e w15 ⟨rfl, h15⟩
            have H15 := Lib.hid h15
            clear h15
            go_wp2_with fail
            go_ret
            exact ⟨rfl, H14.out.mods.trans H15.out⟩
          · exact absurd r1 hne
      · have r2 : S5.recs = l := by rcases HCR.out with h | h; exact absurd h r1; exact h
        have hl1 : l.length ≠ 0 := fun h => r1 (by rw [r2]; exact List.eq_nil_of_length_eq_zero h)
        have HO14 := HO13.out
        rw [r2] at HO14 ⊢
        have HS14 := Lib.hid (sameL_ok w12 (.slice ad3 l.length cap3) (.slice ad l.length cap) _ _ HO14 HBS12.out.rd)
        have HDT2 := Lib.hid (show decide (l.map (·.2) = l.map (·.2)) = true from decide_eq_true rfl)
        have e1 : decide ((0 : Int) < ((l.length : Nat) : Int)) = true := decide_eq_true (by omega)
        have e2 : decide (0 < l.length) = true := decide_eq_true (by omega)
        have HAFT := Lib.hid (And.intro e1 e2)
        have HNEL := Lib.hid hl1
        clear HO14 r2 r1 hl1
        go_wp2_with fail
        refine HS14.out.mono ?_
        rw [HDT2.out]
        rintro e w13 ⟨rfl, hm13⟩
        have H13 := Lib.hid (H12.out.mods0 hm13)
        have HBS13 := Lib.hid (HBS12.out.step hm13 (by simp))
        clear hm13 HS14 HDT2
        go_upto_region 24 with (fail)
        clear e1 e2
        have HAD := Lib.hid (H13.out.add (by have := HK.out; omega) zE)
        generalize addL G DA (mkL ov S5) zE = RA at HAD HAC
        obtain ⟨⟨ra, rc⟩, DB, LB⟩ := RA
        simp only at HAD HAC
        have HAD : Hid (Calls Try.prog 15 #[.pointer (some ⟨qb2, 0, none⟩), .agg #[.int .u16 0, .int .u32 0, .int .u16 0, .int .u8 0, .int .u8 0, .int .u8 0, .bool false, .int .u8 0, .int .u8 0, .int .u8 0]] w13 _) := HAD
        have HBL := Lib.hid (show b ≤ 100 from HB100.out)
        by_cases hl0 : l.length = 0
        · obtain rfl : b = 0 := HWANT.out.1 hl0
          have l1 : decide ((0 : Int) < ((l.length : Nat) : Int)) = false := decide_eq_false (by omega)
          have l2 : decide (0 < l.length) = false := decide_eq_false (by omega)
          clear hl0
          go_wp2_with fail
          refine HAD.out.mono ?_
          rintro e w14 ⟨v14, rfl, hl14, -, -⟩
          have H14 := Lib.hid hl14
          clear hl14
          have hac := HAC.out
          rcases hac with hac | ⟨hac, hov, hne⟩
          · injection hac with h1 h2
            subst h1 h2
            go_wp2_with fail
            refine (HAW.out _).mono ?_
            rintro e w15 ⟨rfl, h15⟩
            have H15 := Lib.hid h15
            clear h15
            go_wp2_with fail
            go_ret
            exact ⟨rfl, H14.out.mods.trans H15.out⟩
          · first | (exact (of_decide_eq_false l2 (Nat.pos_of_ne_zero HNEL.out)).elim) | (injection hac with h1 h2; subst h1 h2; subst hov; go_wp2_with fail; refine (HAW.out _).mono ?_; rintro e w15 ⟨rfl, h15⟩; have H15 := Lib.hid h15; clear h15; go_wp2_with fail; go_ret; exact ⟨rfl, H14.out.mods.trans H15.out⟩)
        · have hidb := HWANT.out.2 (by omega)
          have hrd := HBS13.out.rd
          obtain ⟨bb, off, cp, hv2, _, _, hat⟩ := hrd.at (by rw [List.length_map]; omega)
          injection hv2 with hv3 hv5 hv4
          subst hv3 hv4
          clear hv5
          have hml : (l.map (·.2)).getD (l.length - 1) evE.dflt = (l.getD (l.length - 1) recE.dflt).2 := by
            rw [List.getD_eq_getElem?_getD, List.getD_eq_getElem?_getD, List.getElem?_map, List.getElem?_eq_getElem (by omega)]; rfl
          have cx : w13.cell? ⟨bb, off + (l.length - 1) * 10, none⟩ = some (.int .u16 ((b : Nat) : Int)) := by
            have h := hat (l.length - 1) (by rw [List.length_map]; omega) 0 (by decide)
            rw [hml] at h
            refine h.trans ?_
            show some (Value.int .u16 (((l.getD (l.length - 1) recE.dflt).2.id.val : Nat) : Int)) = _
            rw [hidb]
          have n1 : (1 : Int) ≤ ((l.length : Nat) : Int) := by omega
          have n2 : 1 ≤ l.length := by omega
          have n3 : 0 < l.length := by omega
          have n4 : (((l.length : Nat) : Int) - 1).toNat = l.length - 1 := by omega
          have n5 : l.length ≤ 9223372036854775807 := by have h := HLR.out; have h2 := HW.out.recs; rw [h] at h2; omega
          have hb1 : ((b : Nat) : Int) ≤ 100 := by have := HBL.out; omega
          have hb0 : (0 : Int) ≤ ((b : Nat) : Int) := by omega
          have hw16 : IntKind.u16.wrap (((b : Nat) : Int) + 1) = ((b : Nat) : Int) + 1 := by rw [IntKind.wrap_u16]; omega
          clear hat hml hidb hl0 hrd
          go_wp2_with fail
          refine HAD.out.mono ?_
          rintro e w14 ⟨v14, rfl, hl14, -, -⟩
          have H14 := Lib.hid hl14
          clear hl14
          have hac := HAC.out
          rcases hac with hac | ⟨hac, hov, hne⟩
          · injection hac with h1 h2
            subst h1 h2
            have hbb : ((b + 1 : Nat) : Int) = ((b : Nat) : Int) + 1 := by omega
            rw [hbb]
            clear hbb
            go_wp2_with fail
            refine (HAW.out _).mono ?_
            rintro e w15 ⟨rfl, h15⟩
            have H15 := Lib.hid h15
            clear h15
            go_wp2_with fail
            go_ret
            exact ⟨rfl, H14.out.mods.trans H15.out⟩
          · first | (exact (of_decide_eq_false l2 (Nat.pos_of_ne_zero HNEL.out)).elim) | (injection hac with h1 h2; subst h1 h2; subst hov; go_wp2_with fail; refine (HAW.out _).mono ?_; rintro e w15 ⟨rfl, h15⟩; have H15 := Lib.hid h15; clear h15; go_wp2_with fail; go_ret; exact ⟨rfl, H14.out.mods.trans H15.out⟩)
end Go.Proofs.Ytkdadnlleepkfaa
