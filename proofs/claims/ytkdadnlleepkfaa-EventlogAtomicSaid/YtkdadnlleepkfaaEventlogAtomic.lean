/- EventlogAtomic: the walk of the law. -/
import Derived.Test.YtkdadnlleepkfaaEndOf
import Derived.Test.YtkdadnlleepkfaaEventlogClears
namespace Go.Proofs.Ytkdadnlleepkfaa
open Go.RowKit
set_option linter.unusedVariables false
set_option linter.unusedSimpArgs false
/-- A struct in a block of its own beside the log. -/
structure XAt (w : World) (p : DevAt) (qb : Nat) (v : Value) (g : Nat) (x : Evt) : Prop where
  blk : w.heap[g]? = some (.cells x.cells.toArray 37 (0, 0))
  out : g ∉ p.foot ++ LogAt.foot ⟨qb, v⟩
theorem XAt.next {w w' : World} {p : DevAt} {qb g : Nat} {v v' : Value} {x : Evt} (h : XAt w p qb v g x) (M : Mods (p.foot ++ LogAt.foot ⟨qb, v⟩) w w') (hv : ∀ y, v'.ownBlock = some y → v.ownBlock = some y ∨ w.heap.size ≤ y) : XAt w' p qb v' g x :=
  ⟨M.heap h.blk h.out, foot_next h.out (lt_of_block h.blk) hv⟩
theorem XAt.step {w w' : World} {p : DevAt} {qb g : Nat} {v : Value} {x : Evt} (h : XAt w p qb v g x) {S : List Nat} (M : Mods S w w') (hS : ∀ y ∈ S, y ∈ p.foot ++ LogAt.foot ⟨qb, v⟩) : XAt w' p qb v g x :=
  h.next (M.mono (fun y hy => .inl (hS y hy))) (fun y hy => .inl hy)
theorem added_getD (ev : Nat → Evt) (d : Evt) {a b i : Nat} (h : i < b - a) : (addedJ ev a b).getD i d = withId (ev (a + i)) (a + i + 1) := by
  unfold addedJ
  rw [List.getD_eq_getElem?_getD, List.getElem?_map, List.getElem?_range' h]
  simp
theorem added_last (ev : Nat → Evt) (d : Evt) {a b : Nat} (h : a < b) (hb : b ≤ 65534) : ((addedJ ev a b).getD (b - a - 1) d).id.val = b := by
  rw [added_getD ev d (by omega)]
  rw [withId_id (by omega)]
  omega
theorem added_len_ne (ev : Nat → Evt) {a c b : Nat} (h1 : a < c) (h2 : c ≤ b) : decide (addedJ ev c b = addedJ ev a b) = false := decide_eq_false fun h => by
  have := congrArg List.length h
  rw [added_len, added_len] at this
  omega
theorem added_drop2 (ev : Nat → Evt) {a b k : Nat} (h : a + k ≤ b) : (addedJ ev a b).drop k = addedJ ev (a + k) b := by
  unfold addedJ
  rw [← List.map_drop]
  congr 1
  rw [show b - a = k + (b - (a + k)) by omega, ← List.range'_append_1, List.drop_left' (by simp)]
theorem RdE.lastId {W : World} {ad : Option Addr} {n cap i : Nat} {l : List Evt} (h : RdE evE W (.slice ad n cap) l) (hl : l.length = n) (hn : 0 < n) (hi : (l.getD (n - 1) evE.dflt).id.val = i) :
    ∃ bb off, ad = some ⟨bb, off, none⟩ ∧ W.cell? ⟨bb, off + (n - 1) * 10, none⟩ = some (.int .u16 ((i : Nat) : Int)) := by
  subst hl
  obtain ⟨bb, off, cp, hv2, _, _, hat⟩ := h.at hn
  injection hv2 with hv3 hv5 hv4
  subst hv3
  refine ⟨bb, off, rfl, ?_⟩
  have h := hat (l.length - 1) (by omega) 0 (by decide)
  refine h.trans ?_
  show some (Value.int .u16 (((l.getD (l.length - 1) evE.dflt).id.val : Nat) : Int)) = _
  rw [hi]
set_option maxRecDepth 100000 in
set_option maxHeartbeats 8000000 in
theorem eventlogAtomic_walk (w : World) (s : Int) (hs : I64 s) (z : Int) (hz : I64 z) (ov : Bool) (v : Value) (Ls : List Int) (hv : Rd w v (i64s Ls)) (hb : ∀ i, I64 (Ls.getD i 0)) (n : Int) (hn : I64 n) (at_ : Int) (hat : I64 at_) (t : Int) (ht : 0 ≤ t ∧ t ≤ 255) :
    Calls Try.prog 5 #[.int .i64 s, .int .i64 z, .bool ov, v, .int .i64 n, .int .i64 at_, .int .u8 t] w fun e w' => e = .returned (.bool true) ∧ Mods [] w w' := by
  have HT := Lib.hid ht
  obtain ⟨x35, hx35⟩ := Int.eq_ofNat_of_zero_le (show 0 ≤ at_ % 35 by omega)
  have HX35 := Lib.hid (show x35 < 35 by omega)
  have HMA := Lib.hid (fun W => mod_ok at_ 35 W hat (by omega) (by omega))
  rw [hx35] at HMA
  clear ht hat hx35
  have HL := Lib.hid (light_ok w v Ls hv)
  have HV := Lib.hid hv
  have HB := Lib.hid hb
  have HAW := Lib.hid awake_ok
  obtain ⟨N, hN⟩ := Int.eq_ofNat_of_zero_le (show 0 ≤ 2 + s % 3 by omega)
  obtain ⟨Z, hZ⟩ := Int.eq_ofNat_of_zero_le (show 0 ≤ 64 + z % 40 by omega)
  obtain ⟨m, hm⟩ := Int.eq_ofNat_of_zero_le (show 0 ≤ n % 30 by omega)
  have HNR := Lib.hid (show 2 ≤ N ∧ N ≤ 4 by omega)
  have HZR := Lib.hid (show 64 ≤ Z ∧ Z ≤ 103 by omega)
  have HMR := Lib.hid (show m < 30 by omega)
  have HGM := Lib.hid (geometry_ok w s z hs hz)
  rw [hN, hZ] at HGM
  have HMD := Lib.hid (fun W => mod_ok n 30 W hn (by omega) (by omega))
  rw [hm] at HMD
  clear hv hb hs hz hn hN hZ hm
  by_cases hl : Ls.length ≤ 600
  rotate_left 1
  · have HLL := Lib.hid (decide_eq_false hl)
    go_enter Try.func5, Try.ntmps5
    go_wp2_with fail
    refine HL.out.mono ?_
    rw [HLL.out]
    rintro e w' ⟨rfl, rfl⟩
    go_wp2_with fail
    refine (HAW.out _).mono ?_
    rintro e w1 ⟨rfl, M1⟩
    go_wp2
    go_ret
    exact ⟨rfl, M1⟩
  have HLL := Lib.hid (decide_eq_true hl)
  have HFI := Lib.hid (filled_ok w N Z HNR.out.1 (by have := HNR.out.2; omega) HZR.out.1 (by have := HZR.out.2; omega) ov v Ls HV.out (by omega) HB.out m (by have := HMR.out; omega))
  obtain ⟨G, hG⟩ : ∃ G : Geo, G = ⟨0, N, Z⟩ := ⟨_, rfl⟩
  rw [← hG] at HFI
  have HGE := Lib.hid hG
  clear hG hl
  go_enter Try.func5, Try.ntmps5
  go_wp2_with fail
  refine HL.out.mono ?_
  rw [HLL.out]
  rintro e w' ⟨rfl, rfl⟩
  go_wp2_with fail
  refine HGM.out.mono ?_
  rintro e w' ⟨rfl, rfl⟩
  go_wp2_with fail
  refine (HMD.out _).mono ?_
  rintro e w' ⟨rfl, rfl⟩
  go_wp2_with fail
  refine HFI.out.mono ?_
  rintro e w1 ⟨p, qb, v1, vr, B, D, k, B2, rfl, hlw, hk, hc, hor, hB2, hwB⟩
  have HW := Lib.hid hlw
  have HK := Lib.hid hk
  have HC := Lib.hid hc
  have HOR := Lib.hid hor
  have HB2 := Lib.hid hB2
  have HWB := Lib.hid hwB
  obtain ⟨ad, cap, hvr⟩ := (hor.rd evOk).len
  have HSL := Lib.hid (slots_pos hlw.sync.fit)
  have HGN := Lib.hid hlw.sync.fit.n2
  clear hlw hk hc hor hB2 hwB HFI HGM HL
  have HCP := Lib.hid (fun W => capacity_ok W N Z HNR.out.1 (by have := HNR.out.2; omega) HZR.out.1 (by have := HZR.out.2; omega))
  obtain ⟨K, hK⟩ : ∃ K, K = G.slots := ⟨_, rfl⟩
  obtain ⟨L, hL⟩ : ∃ L, L = fillL G ov (evJ Ls) m := ⟨_, rfl⟩
  obtain ⟨b, hb⟩ : ∃ b, b = fillM G ov m := ⟨_, rfl⟩
  obtain ⟨a, ha⟩ : ∃ a, a = (fillT G.slots G.n b - 1) * G.slots := ⟨_, rfl⟩
  obtain ⟨evf, hevf⟩ : ∃ evf, evf = evJ Ls := ⟨_, rfl⟩
  have HA := Lib.hid (show a ≤ b ∧ (0 < b → a < b) ∧ 1 ≤ K ∧ b ≤ 30 from by
    have hA := fill_a (K := G.slots) (N := G.n) (i := b) (by have := HSL.out; omega) HGN.out
    rw [← ha] at hA
    exact ⟨hA.2.2.1, hA.2.2.2.2, by rw [hK]; have := HSL.out; omega, by rw [hb]; have := fillM_le G ov m; have := HMR.out; omega⟩)
  have HLS := Lib.hid (show L.s = fillS G.slots G.n evf b ∧ L.ended = false ∧ L.over = ov from by rw [hL, hb, hevf]; exact ⟨rfl, rfl, rfl⟩)
  have hrc : (fillL G ov (evJ Ls) m).s.recs.map (·.2) = addedJ evf a b := by
    rw [ha, hb, hevf]
    exact recs_added _ _ _ _
  rw [hrc, added_len] at hvr
  obtain ⟨lb, hlb⟩ : ∃ lb, lb = b - a := ⟨_, rfl⟩
  rw [← hlb] at hvr
  have HLB := Lib.hid (show lb = b - a from hlb)
  rw [hrc] at HOR
  have HBS1 := Lib.hid (show Beside w1 p qb v1 vr (addedJ evf a b) from ⟨HOR.out.rd evOk, fun y hy => (HOR.out.lt y hy).2, fun y hy hm => by have h1 := (HOR.out.lt y hy).1; have h2 := HB2.out y hm; omega⟩)
  have HCP2 := Lib.hid (show ∀ W, Calls Try.prog 20 #[.int .i64 (N : Nat), .int .i64 (Z : Nat)] W fun e w' => e = .returned (.tuple #[.int .i64 ((N - 1) * ((Z - 11) / 17) : Nat), .int .i64 (K : Nat), .int .i64 0]) ∧ W = w' from fun W => by
    have h := HCP.out W
    have e : (Z - 11) / 17 = K := by rw [hK]; have h := HGE.out; subst h; rfl
    rw [e] at h ⊢
    exact h)
  have HRW := Lib.hid (fun W (M : Mods [] w W) => roll_ok W v Ls (HV.out.mods0 M) (by have := of_decide_eq_true HLL.out; omega) HB.out)
  have HXV := Lib.hid (show validE (evJ Ls 0) = true ∧ (evJ Ls 0).id.val = 0 from evF_ok Ls (evP Ls 0))
  have HEV := Lib.hid (fun W bd (h : IsDice W bd v Ls 0) => show Calls Try.prog 22 #[.pointer (some ⟨bd, 0, none⟩)] W fun e w' => e = .returned (.agg (evJ Ls 0).cells.toArray) ∧ IsDice w' bd v Ls (evP Ls 1) ∧ Mods [bd] W w' from event_ok W bd v Ls 0 h)
  generalize evJ Ls 0 = x at HXV HEV
  rw [← hL] at HW
  rw [hvr] at HBS1
  rw [hvr]
  have HHA := Lib.hid ha
  have HHK := Lib.hid hK
  clear hK hL hb ha hevf hrc hvr hlb HOR HB2 HCP
  go_wp2_with fail
  refine (HCP2.out _).mono ?_
  rintro e w' ⟨rfl, rfl⟩
  go_wp2_with fail
  refine (HRW.out _ HW.out.mods).mono ?_
  rintro e w2 ⟨rfl, hd2, hm2, hz2⟩
  have HM2 := Lib.hid hm2
  have HE2 := Lib.hid (HEV.out _ _ hd2)
  clear hd2 hm2 hz2 HRW HEV
  generalize hbd : w1.heap.size = bd at HM2 HE2 ⊢
  have HBD := Lib.hid hbd
  clear hbd
  go_wp2_with fail
  refine HE2.out.mono ?_
  rintro e w3 ⟨rfl, -, hm3⟩
  have HM3 := Lib.hid (show Mods [] w1 w3 from HM2.out.comp hm3 (fun y hy => by simp at hy; subst hy; exact .inr (by have := HBD.out; omega)))
  clear hm3 HE2
  go_upto_region 9 with (refine wpList_store_row (cs := x.cells.toArray) rfl 37 (.tmp 24) (.tmp 74) rfl (heap_alloc_new w3 _) (by rfl) (by rfl) (by rfl) Try.sizeEv (Evt.one x) ?_; intro w4 R4 M4; have HF4 := Lib.hid (freshA M4); have HR4 := Lib.hid R4; clear R4 M4)
  have H4 := Lib.hid (HW.out.mods0 (HM3.out.trans HF4.out))
  have HBS4 := Lib.hid (HBS1.out.step (HM3.out.trans HF4.out) (by simp))
  have HX4 := Lib.hid (show XAt w4 p qb v1 w3.heap.size x from ⟨HR4.out, fun hm => by have h1 := HW.out.lt _ hm; have h2 := HM3.out.size; omega⟩)
  have HPB := Lib.hid (show ∀ v2, ∀ y ∈ [p.b], y ∈ p.foot ++ LogAt.foot ⟨qb, v2⟩ from fun v2 y hy => by simp at hy; subst hy; simp [DevAt.foot])
  generalize w3.heap.size = g24 at HX4 ⊢
  clear HR4 HF4 HM3
  go_wp2_with fail
  refine (HMA.out _).mono ?_
  rintro e w' ⟨rfl, rfl⟩
  have hx35 : ((x35 : Nat) : Int) < 35 := by have := HX35.out; omega
  have hx0 : (0 : Int) ≤ ((x35 : Nat) : Int) := by omega
  go_wp2_with fail
  refine (H4.out.arm (1 + ((x35 : Nat) : Int)) t (by omega) HT.out.1 HT.out.2).mono ?_
  rintro e w5 ⟨rfl, hl5, hm5⟩
  have H5 := Lib.hid hl5
  have HBS5 := Lib.hid (HBS4.out.step hm5 (HPB.out _))
  have HX5 := Lib.hid (HX4.out.step hm5 (HPB.out _))
  clear hl5 hm5 H4 HBS4 HX4
  have HAD := Lib.hid (H5.out.add (by have := HK.out; omega) x)
  have HAT := Lib.hid (atom_ok H5.out.sync HLS.out.2.1 H5.out.few (by have := HA.out.2.2.2; omega) HLS.out.1 HXV.out.1 HXV.out.2)
  rw [HLS.out.2.2] at HAT
  generalize addL G (D.arm (1 + ((x35 : Nat) : Int)) t) L x = R at HAD HAT
  obtain ⟨⟨ra, rc⟩, D6, L6⟩ := R
  simp only at HAD
  have hat2 := HAT.out
  obtain ⟨a', g, c, h1, h2, h3, h4, h5⟩ := hat2
  injection h1 with h1a h1b
  subst h1b
  have HRA := Lib.hid (show rc = 0 → ra = b + 1 from fun h => by rw [h1a, if_pos h])
  clear h1a
  have HAFT := Lib.hid h3
  have HCC := Lib.hid h4
  have HA2 := Lib.hid (show a' = a ∨ ov = true ∧ a' = a + K ∧ a + K ≤ b from by rw [HHA.out, HHK.out]; exact h5)
  have HCA := Lib.hid (show rc = 9 → a' = a from fun h => by
    rcases HCC.out with h6 | h6 | h6
    · rw [HHA.out]; exact h6.2.2.1
    · omega
    · omega)
  clear h2 h3 h4 h5 HAT
  have HAD : Hid (Calls Try.prog 15 #[.pointer (some ⟨qb, 0, none⟩), .agg x.cells.toArray] w5 _) := HAD
  go_wp2_with (refine wpList_load_rowG (by rfl) 37 (.tmp 24) rfl g24 (by rfl) _ _ _ _ HX5.out.blk Try.underlying37 rfl Try.sizeEv ?_)
  refine HAD.out.mono ?_
  rintro e w6 ⟨v6, rfl, hl6, hm6, hy6⟩
  have H6 := Lib.hid hl6
  have HBS6 := Lib.hid (HBS5.out.next hm6 hy6)
  have HX6 := Lib.hid (HX5.out.next hm6 hy6)
  clear hl6 hm6 hy6 HAD H5 HBS5 HX5
  go_wp2_with fail
  refine H6.out.restore.mono ?_
  rintro e w7 ⟨rfl, hl7, hm7⟩
  have H7 := Lib.hid hl7
  have HBS7 := Lib.hid (HBS6.out.step hm7 (HPB.out _))
  have HX7 := Lib.hid (HX6.out.step hm7 (HPB.out _))
  clear hl7 hm7 H6 HBS6 HX6
  have HBY := Lib.hid (show byt { D6 with down := false, left := 0 } = byt D6 from byt_of rfl)
  have HCALM := Lib.hid (show Calm { D6 with down := false, left := 0 } from ⟨rfl, Int.le_refl _⟩)
  generalize ({ D6 with down := false, left := 0 } : Dev) = DA at H7 HBY HCALM
  have HOP := Lib.hid (show Calls Try.prog 13 #[.pointer (some ⟨p.b, 0, none⟩), .int .i64 0, .int .i64 (N : Nat), .bool ov] w7 fun e w' => ∃ q' : LogAt, e = .returned (.tuple #[.pointer (some ⟨q'.b, 0, none⟩), .int .i64 0]) ∧ Lw w w' q' (w7.heap.size + 1) p G DA (mkL ov (openS (byt D6) G)) (k + 29) ∧ Lw w w' ⟨qb, v6⟩ B p G DA L6 (k + 29) ∧ (∀ x ∈ q'.foot, w7.heap.size ≤ x) ∧ Mods [] w7 w' from by
    have h := (H7.out.again HCALM.out.1 ov)
    rw [HBY.out] at h
    have e1 : G.first = 0 := by rw [HGE.out]
    have e2 : G.n = N := by rw [HGE.out]
    rw [e1, e2] at h
    exact h.mono (fun e w' hh => hh))
  go_wp2_with fail
  refine HOP.out.mono ?_
  rintro e w8 ⟨⟨qb2, v8⟩, rfl, hl8, -, hqf, hm8⟩
  have H8 := Lib.hid hl8
  have HBS8 := Lib.hid (HBS7.out.step hm8 (by simp))
  have HX8 := Lib.hid (HX7.out.step hm8 (by simp))
  have HQF := Lib.hid (show ∀ y ∈ p.foot ++ LogAt.foot ⟨qb2, v8⟩, y ∉ p.foot → w7.heap.size ≤ y from fun y hy hn => by
    rcases List.mem_append.1 hy with h | h
    · exact absurd h hn
    · exact hqf y h)
  have HXL := Lib.hid (lt_of_block HX7.out.blk)
  have HBL := Lib.hid HBS7.out.lt
  clear hl8 hqf hm8 HOP HX7 HBS7 H7
  generalize openS (byt D6) G = S5 at H8 HAFT
  have HR8 := Lib.hid H8.out.records
  go_wp2_with fail
  refine HR8.out.mono ?_
  rintro e w9 ⟨vr3, rfl, ho9, hm9⟩
  have H9 := Lib.hid (H8.out.mods0 hm9)
  have HBS9 := Lib.hid (HBS8.out.step hm9 (by simp))
  have HX9 := Lib.hid (HX8.out.step hm9 (by simp))
  have HR9 := Lib.hid (show RdE evE w9 vr3 (addedJ evf a' b ++ (if g then [withId x (b + 1)] else [])) from by rw [← HAFT.out.recs]; exact ho9.rd evOk)
  have HBA := Lib.hid (show Beside w9 p qb2 v8 vr3 (addedJ evf a' b ++ (if g then [withId x (b + 1)] else [])) from ⟨HR9.out, fun y hy => (ho9.lt y hy).2, fun y hy hm => by have h1 := (ho9.lt y hy).1; have h2 := H8.out.lt y hm; omega⟩)
  have HBB := Lib.hid (show Beside w9 p qb2 v8 (.slice ad lb cap) (addedJ evf a b) from ⟨HBS9.out.rd, HBS9.out.lt, fun y hy hm => by
    by_cases h : y ∈ p.foot
    · exact HBS9.out.out y hy (List.mem_append.2 (.inl h))
    · have h1 := HQF.out y hm h
      have h2 := HBL.out y hy
      omega⟩)
  have HXB := Lib.hid (show XAt w9 p qb2 v8 g24 x from ⟨HX9.out.blk, fun hm => by
    by_cases h : g24 ∈ p.foot
    · exact HX9.out.out (List.mem_append.2 (.inl h))
    · have h1 := HQF.out g24 hm h
      have h2 := HXL.out
      omega⟩)
  obtain ⟨l3, hl3⟩ : ∃ l3, l3 = addedJ evf a' b ++ (if g then [withId x (b + 1)] else []) := ⟨_, rfl⟩
  obtain ⟨la, hla⟩ : ∃ la, la = l3.length := ⟨_, rfl⟩
  obtain ⟨ad3, cap3, hv3⟩ := HR9.out.len
  rw [← hl3, ← hla] at hv3
  rw [← hl3, hv3] at HBA
  rw [hv3]
  have HL3 := Lib.hid hl3
  have HLA := Lib.hid (show la = b - a' + (if g then 1 else 0) from by rw [hla, hl3, List.length_append, added_len]; split <;> rfl)
  have HLL3 := Lib.hid hla.symm
  have HAB := Lib.hid (show a' ≤ b from by
    have h1 := HA.out
    rcases HA2.out with h | ⟨_, h, h2⟩ <;> omega)
  have HID3 := Lib.hid (show 0 < la → (l3.getD (la - 1) evE.dflt).id.val = (if g then b + 1 else b) from fun h => by
    have h1 := HLA.out
    have h2 := HA.out
    rw [hl3]
    cases g with
    | true =>
      rw [h1, if_pos rfl, if_pos rfl, if_pos rfl, Nat.add_sub_cancel, List.getD_eq_getElem?_getD, List.getElem?_append_right (by rw [added_len]; exact Nat.le_refl _), added_len, Nat.sub_self]
      exact withId_id (by omega)
    | false =>
      simp only [Bool.false_eq_true, if_false, List.append_nil, Nat.add_zero] at h1 ⊢
      rw [h1]
      exact added_last _ _ (by omega) (by omega))
  have HIDB := Lib.hid (show 0 < lb → ((addedJ evf a b).getD (lb - 1) evE.dflt).id.val = b from fun h => by rw [HLB.out] at h ⊢; exact added_last _ _ (by omega) (by have := HA.out; omega))
  have HALN := Lib.hid (show (addedJ evf a b).length = lb from by rw [HLB.out]; exact added_len evf a b)
  clear ho9 hm9 HR8 H8 HBS8 HX8 HMA HCP2 hl3 hla hv3 HR9 HBS9 HX9
  have HNX := Lib.hid (show S5.next = (if g then b + 2 else b + 1) ∧ S5.newest ≤ b + 1 from ⟨HAFT.out.next, HAFT.out.newest⟩)
  have HGC := Lib.hid (show (rc = 9 ∧ ov = false ∧ a' = a ∧ g = false) ∨ (rc = 0 ∧ ra = b + 1 ∧ g = true) ∨ rc = 10 from by
    rcases HCC.out with h | h | h
    · exact .inl ⟨h.1, h.2.1, HCA.out h.1, h.2.2.2⟩
    · exact .inr (.inl ⟨h.1, HRA.out h.1, h.2⟩)
    · exact .inr (.inr h))
  clear HAFT HCC HCA HRA
  by_cases hc9 : rc = 9
  · have hx := HGC.out
    obtain ⟨rfl, rfl, rfl, rfl⟩ : rc = 9 ∧ ov = false ∧ a' = a ∧ g = false := by
      rcases hx with h | h | h
      · exact h
      · omega
      · omega
    clear hc9 hx
    have HS := Lib.hid (sameL_ok w9 (.slice ad3 la cap3) (.slice ad lb cap) _ _ HBA.out.rd HBB.out.rd)
    have HDT := Lib.hid (show decide (l3 = addedJ evf a' b) = true from decide_eq_true (by rw [HL3.out]; simp))
    go_wp2_with fail
    refine HS.out.mono ?_
    rw [HDT.out]
    rintro e w10 ⟨rfl, hm10⟩
    have HM10 := Lib.hid hm10
    clear hm10
    go_wp2_with fail
    refine (HAW.out _).mono ?_
    rintro e w11 ⟨rfl, hm11⟩
    have HM11 := Lib.hid hm11
    clear hm11
    go_wp2_with fail
    go_ret
    exact ⟨rfl, H9.out.mods.trans (HM10.out.trans HM11.out)⟩
  · have hc9' : (rc == 9) = false := by simp [hc9]
    clear hc9
    go_upto_region 18 with (fail)
    go_cut [30] (fun u wx => u = .bool g ∧ Mods [] w9 wx)
    case first => as_aux_lemma =>
      by_cases hb0 : lb = 0
      · have h0 : b = 0 ∧ a = 0 ∧ a' = 0 := by
          have h1 := HLB.out
          have h2 := HA.out
          have h3 := HAB.out
          omega
        have e1 : decide ((0 : Int) < ((lb : Nat) : Int)) = false := decide_eq_false (by omega)
        have e2 : decide (0 < lb) = false := decide_eq_false (by omega)
        have e3 : (((lb : Nat) : Int) == 0) = true := by simp [hb0]
        have h4 := HLA.out
        clear hb0
        cases g with
        | false =>
          have h5 : la = 0 := by rw [h4, h0.1]; simp
          have f1 : decide ((0 : Int) < ((la : Nat) : Int)) = false := decide_eq_false (by omega)
          have f2 : decide (0 < la) = false := decide_eq_false (by omega)
          have f3 : (((la : Nat) : Int) == 1) = false := by simp [h5]
          clear h5 h4 h0
          go_quiet (fail)
          go_wp2_with fail
          go_meet
          exact ⟨rfl, Mods.refl.drewN _⟩
        | true =>
          have h5 : la = 1 := by rw [h4, h0.1]; simp
          have f1 : decide ((0 : Int) < ((la : Nat) : Int)) = true := decide_eq_true (by omega)
          have f2 : decide (0 < la) = true := decide_eq_true (by omega)
          have f3 : (((la : Nat) : Int) == 1) = true := by simp [h5]
          clear h5 h4 h0
          go_quiet (fail)
          go_wp2_with fail
          go_meet
          exact ⟨rfl, Mods.refl.drewN _⟩
      · skip
        have e1 : decide ((0 : Int) < ((lb : Nat) : Int)) = true := decide_eq_true (by omega)
        have e2 : decide (0 < lb) = true := decide_eq_true (by omega)
        have e3 : (0 : Int) < ((lb : Nat) : Int) := by omega
        have e4 : 0 < lb := by omega
        have e5 : (((lb : Nat) : Int) - 1).toNat = lb - 1 := by omega
        have e6 : (1 : Int) ≤ ((lb : Nat) : Int) := by omega
        have e7 : 1 ≤ lb := by omega
        have e9 : lb ≤ 9223372036854775807 := by have h1 := HLB.out; have h2 := HA.out; have h3 := HLA.out; (try split at h3) <;> omega
        have e8 : (((lb : Nat) : Int) == 0) = false := by simp [hb0]
        obtain ⟨bb, off, rfl, cb⟩ := RdE.lastId HBB.out.rd HALN.out e4 (HIDB.out e4)
        have hb30 : b ≤ 30 := HA.out.2.2.2
        have m1 : ((b : Nat) : Int) % 65534 = ((b : Nat) : Int) := by omega
        have m2 : ((b : Nat) : Int).tmod 65534 = ((b : Nat) : Int) := by rw [Int.tmod_eq_emod_of_nonneg (by omega)]; exact m1
        have m3 : IntKind.u16.wrap (((b : Nat) : Int) + 1) = ((b + 1 : Nat) : Int) := by rw [IntKind.wrap_u16]; omega
        clear hb0
        by_cases hla0 : la = 0
        · have hg : g = false := by
            have h := HLA.out
            cases g with
            | false => rfl
            | true => rw [if_pos rfl] at h; omega
          subst hg
          have f1 : decide ((0 : Int) < ((la : Nat) : Int)) = false := decide_eq_false (by omega)
          have f2 : decide (0 < la) = false := decide_eq_false (by omega)
          clear hla0 cb m1 m2 m3
          go_quiet (fail)
          go_wp2_with fail
          go_meet
          exact ⟨rfl, Mods.refl.drewN _⟩
        · skip
          have f1 : decide ((0 : Int) < ((la : Nat) : Int)) = true := decide_eq_true (by omega)
          have f2 : decide (0 < la) = true := decide_eq_true (by omega)
          have f3 : (0 : Int) < ((la : Nat) : Int) := by omega
          have f4 : 0 < la := by omega
          have f5 : (((la : Nat) : Int) - 1).toNat = la - 1 := by omega
          have f6 : (1 : Int) ≤ ((la : Nat) : Int) := by omega
          have f7 : 1 ≤ la := by omega
          have f9 : la ≤ 9223372036854775807 := by have h1 := HLB.out; have h2 := HA.out; have h3 := HLA.out; (try split at h3) <;> omega
          obtain ⟨b3, off3, rfl, c3⟩ := RdE.lastId HBA.out.rd HLL3.out f4 (HID3.out f4)
          cases g with
          | true =>
            rw [if_pos rfl] at c3
            have q1 : (((b + 1 : Nat) : Int) == ((b + 1 : Nat) : Int)) = true := by simp
            clear hla0 hb30
            go_quiet (fail)
            go_wp2_with fail
            go_meet
            exact ⟨rfl, Mods.refl.drewN _⟩
          | false =>
            rw [if_neg (by decide)] at c3
            have q1 : (((b : Nat) : Int) == ((b : Nat) : Int) + 1) = false := by simp; omega
            have m4 : IntKind.u16.wrap (((b : Nat) : Int) + 1) = ((b : Nat) : Int) + 1 := by rw [IntKind.wrap_u16]; omega
            clear m3
            clear hla0 hb30
            go_quiet (fail)
            go_wp2_with fail
            go_meet
            exact ⟨rfl, Mods.refl.drewN _⟩
    case rest => as_aux_lemma =>
      obtain ⟨rfl, MC⟩ := hcut
      have H10 := Lib.hid (H9.out.mods0 MC)
      have HBA10 := Lib.hid (HBA.out.step MC (by simp))
      have HBB10 := Lib.hid (HBB.out.step MC (by simp))
      have HXB10 := Lib.hid (HXB.out.step MC (by simp))
      obtain ⟨lr, hlr⟩ : ∃ lr, lr = b - a' := ⟨_, rfl⟩
      have HLR := Lib.hid hlr
      clear MC H9 HBA HBB HXB hlr
      go_upto_if 154 with (fail)
      go_cut [31] (fun u wx => (∃ d3 c3, u = .slice d3 lr c3 ∧ RdE evE wx u (addedJ evf a' b)) ∧ Mods [] wc wx)
      case first => as_aux_lemma =>
        cases g with
        | false =>
          have h1 : la = lr := by rw [HLA.out, HLR.out]; simp
          have HRR := Lib.hid (show RdE evE wc (.slice ad3 la cap3) (addedJ evf a' b) from by
            have h := HBA10.out.rd
            have h2 := HL3.out
            simp only [Bool.false_eq_true, if_false, List.append_nil] at h2
            rwa [h2] at h)
          subst h1
          go_wp2_with fail
          go_meet
          exact ⟨⟨ad3, cap3, rfl, HRR.out⟩, Mods.refl⟩
        | true =>
          have h1 : la = lr + 1 := by rw [HLA.out, HLR.out]; simp
          have f4 : 0 < la := by omega
          obtain ⟨b3, off3, rfl, c3⟩ := RdE.lastId HBA10.out.rd HLL3.out f4 (HID3.out f4)
          rw [if_pos rfl] at c3
          obtain ⟨y, hy⟩ : ∃ y, y = withId x (b + 1) := ⟨_, rfl⟩
          have HRG := Lib.hid (show wc.rangeAt b3 (off3 + (la - 1) * 10) y.cells from by
            have h0 : RdE evE wc (.slice (some ⟨b3, off3, none⟩) l3.length cap3) l3 := by rw [HLL3.out]; exact HBA10.out.rd
            have h := h0.range (i := la - 1) (by rw [HLL3.out]; omega) evOk.len
            have e : l3.getD (la - 1) evE.dflt = y := by
              rw [HL3.out, if_pos rfl, hy, List.getD_eq_getElem?_getD, List.getElem?_append_right (by rw [added_len]; have := HLR.out; omega), added_len]
              rw [show la - 1 - (b - a') = 0 by have := HLR.out; omega]
              rfl
            rw [e] at h
            exact h)
          have HRR := Lib.hid (show RdE evE wc (.slice (some ⟨b3, off3, none⟩) lr cap3) (addedJ evf a' b) from by
            have h0 : RdE evE wc (.slice (some ⟨b3, off3, none⟩) la cap3) l3 := HBA10.out.rd
            have h := h0.take (k := lr) (by rw [HLL3.out]; omega)
            have e : l3.take lr = addedJ evf a' b := by
              rw [HL3.out, List.take_left' (by rw [added_len]; exact HLR.out.symm)]
            rwa [e] at h)
          have HCC3 := Lib.hid (show la ≤ cap3 from by
            obtain ⟨_, _, he, h2, h3, _⟩ := HBA10.out.rd
            injection he with _ he1 he2
            rw [← he2] at h2
            rw [HLL3.out] at h2
            exact h2)
          have HYC := Lib.hid (show y.cells.toArray.setIfInBounds 0 (.int .u16 0) = x.cells.toArray from by
            rw [hy]
            have hx := HXV.out.2
            simp only [Evt.cells]
            simp [withId, hx])
          have HYI := Lib.hid (show y.id.val = b + 1 from by rw [hy]; exact withId_id (by have := HA.out; omega))
          have f1 : decide ((0 : Int) < ((la : Nat) : Int)) = true := decide_eq_true (by omega)
          have f2 : decide (0 < la) = true := decide_eq_true (by omega)
          have f3 : (0 : Int) < ((la : Nat) : Int) := by omega
          have f4b : 0 < la := by omega
          have f5 : (((la : Nat) : Int) - 1).toNat = la - 1 := by omega
          have f6 : (1 : Int) ≤ ((la : Nat) : Int) := by omega
          have f7 : 1 ≤ la := by omega
          have f9 : la ≤ 9223372036854775807 := by have h1 := HLB.out; have h2 := HA.out; have h3 := HLA.out; (try split at h3) <;> omega
          have f10 : la - 1 = lr := by omega
          have HC3 := Lib.hid c3
          rw [f10] at HRG
          clear hy h1 c3
          go_upto_region 22 with (first | (refine wpList_load_mid rfl 37 (.tmp 159) rfl b3 (off3 + lr * 10) rfl y.cells _ HRG.out Try.underlying37 rfl Try.sizeEv ?_) | (refine wpList_store_row (cs := y.cells.toArray) rfl 37 (.tmp 32) (.tmp 160) rfl (heap_alloc_new wc _) (by rfl) (by rfl) (by rfl) Try.sizeEv (Evt.one y) ?_; intro w11 R11 M11; have HF11 := Lib.hid (freshA M11); have HR11 := Lib.hid R11; clear R11 M11))
          have HM11 := Lib.hid HF11.out
          have HX11 := Lib.hid (HXB10.out.step HF11.out (by simp))
          have HG32 := Lib.hid (show g24 < wc.heap.size from lt_of_block HXB10.out.blk)
          have HB32 := Lib.hid (show ∀ W, Mods [wc.heap.size] w11 W → Mods [] wc W from fun W M => HM11.out.comp M (fun q hq => by simp at hq; subst hq; exact .inr (Nat.le_refl _)))
          clear HF11 HM11
          generalize wc.heap.size = g32 at HR11 HG32 HB32 ⊢
          have cid := (cell_blk HR11.out 0).trans (show _ = some (Value.int .u16 ((y.id.val : Nat) : Int)) from rfl)
          have fid := froz_blk HR11.out 0
          go_upto_region 23 with (fail)
          have HM12 := Lib.hid ((Mods.refl (S := [g32]) (w := w11)).setCell (p := ⟨g32, 0, none⟩) (.inl (by simp)) (.int .u16 0))
          have HB12 := Lib.hid (show (w11.setCell ⟨g32, 0, none⟩ (.int .u16 0)).heap[g32]? = some (.cells x.cells.toArray 37 (0, 0)) from by
            have h := heap_setCell (i := 0) (v := .int .u16 0) HR11.out
            rw [HYC.out] at h
            exact h)
          have HX12 := Lib.hid (HM12.out.heap HX11.out.blk (by have := HG32.out; simp; omega))
          have HM13 := Lib.hid (HB32.out _ HM12.out)
          clear cid fid HM12 HR11 HX11
          generalize w11.setCell ⟨g32, 0, none⟩ (.int .u16 0) = w12 at HB12 HX12 HM13 ⊢
          have hxx : ∀ W, (binOp .neq 37 (.agg x.cells.toArray) (.agg x.cells.toArray)).run Try.prog W = .ok (.bool false) W := fun W => (ev_neq x x W).trans (by simp)
          go_cut [179] (fun u wx => u = .bool false ∧ w12 = wx)
          case first => as_aux_lemma =>
            have hgc := HGC.out
            have c3 := (HM13.out.cell (HRG.out 0 (.int .u16 ((y.id.val : Nat) : Int)) (by rfl)) (by simp))
            rw [Nat.add_zero] at c3
            rcases hgc with ⟨h, _, _, h2⟩ | ⟨rfl, h2, _⟩ | rfl
            · exact absurd h2 (by decide)
            · have q1 : (((y.id.val : Nat) : Int) != ((ra : Nat) : Int)) = false := by rw [HYI.out, h2]; simp
              clear h2
              go_wp2_with (first | (refine wpList_load_rowG (by rfl) 37 (.tmp 32) rfl g32 (by rfl) _ _ _ _ HB12.out Try.underlying37 rfl Try.sizeEv ?_) | (refine wpList_load_rowG (by rfl) 37 (.tmp 24) rfl g24 (by rfl) _ _ _ _ HX12.out Try.underlying37 rfl Try.sizeEv ?_))
              go_meet
              exact ⟨rfl, rfl⟩
            · go_wp2_with (first | (refine wpList_load_rowG (by rfl) 37 (.tmp 32) rfl g32 (by rfl) _ _ _ _ HB12.out Try.underlying37 rfl Try.sizeEv ?_) | (refine wpList_load_rowG (by rfl) 37 (.tmp 24) rfl g24 (by rfl) _ _ _ _ HX12.out Try.underlying37 rfl Try.sizeEv ?_))
              go_meet
              exact ⟨rfl, rfl⟩
          case rest => as_aux_lemma =>
            obtain ⟨rfl, rfl⟩ := hcut
            clear hxx
            have f11 : ((la : Nat) : Int) - 1 ≤ ((cap3 : Nat) : Int) := by have := HCC3.out; omega
            have f12 : (0 : Int) ≤ ((la : Nat) : Int) - 1 := by omega
            have f13 : lr ≤ cap3 := by have := HCC3.out; omega
            go_wp2_with fail
            go_meet
            exact ⟨⟨_, cap3, rfl, HRR.out.mods0 evOk HM13.out⟩, HM13.out⟩
      case rest => as_aux_lemma =>
        obtain ⟨⟨d3, c3, rfl, hrd⟩, MC⟩ := hcut
        have H11 := Lib.hid (H10.out.mods0 MC)
        have HBA11 := Lib.hid (HBA10.out.step MC (by simp))
        have HBB11 := Lib.hid (HBB10.out.step MC (by simp))
        have HXB11 := Lib.hid (HXB10.out.step MC (by simp))
        have HRD := Lib.hid hrd
        clear hrd MC H10 HBA10 HBB10 HXB10
        go_upto_region 26 with (fail)
        go_cut [198] (fun u wx => u = .bool false ∧ wc = wx)
        case first => as_aux_lemma =>
          have hgc := HGC.out
          rcases hgc with ⟨h, _, _, h2⟩ | ⟨rfl, h2, rfl⟩ | rfl
          · rw [h] at hc9'
            exact absurd hc9' (by decide)
          · clear h2
            go_wp2_with fail
            go_meet
            exact ⟨rfl, rfl⟩
          · go_wp2_with fail
            go_meet
            exact ⟨rfl, rfl⟩
        case rest => as_aux_lemma =>
          obtain ⟨rfl, rfl⟩ := hcut
          go_upto_region 28 with (fail)
          go_cut [33] (fun u wx => u = .bool true ∧ Mods [] wc wx)
          case first => as_aux_lemma =>
            have HE0 := Lib.hid (show Calls Try.prog 29 #[.slice d3 lr c3, .slice ad lb cap, .int .i64 0] wc fun en w' => en = .returned (.bool (decide (addedJ evf a' b = addedJ evf a b))) ∧ Mods [] wc w' from by
              have h := endOf0_ok wc _ _ (addedJ evf a b) ad cap HRD.out (by rw [HALN.out]; exact HBB11.out.rd)
              rwa [HALN.out] at h)
            rcases HA2.out with rfl | ⟨rfl, rfl, hle⟩
            · have HDT := Lib.hid (show decide (addedJ evf a' b = addedJ evf a' b) = true from decide_eq_true rfl)
              go_wp2_with fail
              refine HE0.out.mono ?_
              rw [HDT.out]
              rintro e w13 ⟨rfl, hm13⟩
              have HM13 := Lib.hid hm13
              clear hm13
              go_wp2_with fail
              go_meet
              exact ⟨rfl, HM13.out⟩
            · have hK1 := HA.out.2.2.1
              have HDT := Lib.hid (added_len_ne evf (a := a) (c := a + K) (b := b) (by omega) hle)
              have hlb : K ≤ lb := by have := HLB.out; omega
              have g1 : decide (((K : Nat) : Int) ≤ ((lb : Nat) : Int)) = true := decide_eq_true (by omega)
              have g2 : decide (K ≤ lb) = true := decide_eq_true hlb
              have g3 : ((K : Nat) : Int) ≤ ((lb : Nat) : Int) := by omega
              have h0 : 0 < lb := by omega
              obtain ⟨bb, off, rfl, -⟩ := RdE.lastId HBB11.out.rd HALN.out h0 (HIDB.out h0)
              have HEK := Lib.hid (fun W (M : Mods [] wc W) => show Calls Try.prog 29 #[.slice d3 lr c3, .slice (some ⟨bb, off, none⟩) lb cap, .int .i64 (K : Nat)] W fun en w' => en = .returned (.bool (decide (addedJ evf (a + K) b = addedJ evf (a + K) b))) ∧ Mods [] W w' from by
                have h := endOfK_ok W _ _ (addedJ evf a b) bb off cap K (by rw [HALN.out]; exact hlb) (HRD.out.mods0 evOk M) (by rw [HALN.out]; exact HBB11.out.rd.mods0 evOk M)
                rwa [HALN.out, added_drop2 evf hle] at h)
              have HDT2 := Lib.hid (show decide (addedJ evf (a + K) b = addedJ evf (a + K) b) = true from decide_eq_true rfl)
              clear h0 hK1 hle hlb
              go_wp2_with fail
              refine HE0.out.mono ?_
              rw [HDT.out]
              rintro e w13 ⟨rfl, hm13⟩
              have HM13 := Lib.hid hm13
              have HEK2 := Lib.hid (HEK.out w13 hm13)
              clear hm13 HEK HE0
              go_wp2_with fail
              refine HEK2.out.mono ?_
              rw [HDT2.out]
              rintro e w14 ⟨rfl, hm14⟩
              have HM14 := Lib.hid (HM13.out.trans hm14)
              clear hm14
              go_wp2_with fail
              go_meet
              exact ⟨rfl, HM14.out⟩
          case rest => as_aux_lemma =>
            obtain ⟨rfl, MC⟩ := hcut
            have H14 := Lib.hid (H11.out.mods0 MC)
            have HBA14 := Lib.hid (HBA11.out.step MC (by simp))
            have HBB14 := Lib.hid (HBB11.out.step MC (by simp))
            have HXB14 := Lib.hid (HXB11.out.step MC (by simp))
            clear MC H11 HBA11 HBB11 HXB11 HRD
            have HAD := Lib.hid (H14.out.add (by have := HK.out; omega) x)
            have HAT := Lib.hid (atom_next HCALM.out H14.out.sync H14.out.few (by have := HNX.out.2; have := HA.out; omega) HXV.out.1 HXV.out.2)
            generalize addL G DA (mkL ov S5) x = R at HAD HAT
            obtain ⟨⟨rb, rd⟩, D15, L15⟩ := R
            simp only at HAD
            obtain ⟨nx, hnx⟩ : ∃ nx, nx = S5.next := ⟨_, rfl⟩
            have HNN := Lib.hid (show nx = (if g then b + 2 else b + 1) from by rw [hnx]; exact HNX.out.1)
            have HRB := Lib.hid (show rd = 0 ∧ rb = nx ∨ rd = 9 ∧ ov = false from by
              obtain ⟨c, h1, h2⟩ := HAT.out
              injection h1 with h1 h3
              subst h3
              rcases h2 with h2 | h2
              · exact .inl ⟨h2, by rw [h1, if_pos h2, hnx]⟩
              · exact .inr h2)
            clear hnx HAT
            have HAD : Hid (Calls Try.prog 15 #[.pointer (some ⟨qb2, 0, none⟩), .agg x.cells.toArray] wc _) := HAD
            go_wp2_with (refine wpList_load_rowG (by rfl) 37 (.tmp 24) rfl g24 (by rfl) _ _ _ _ HXB14.out.blk Try.underlying37 rfl Try.sizeEv ?_)
            refine HAD.out.mono ?_
            rintro e w15 ⟨v15, rfl, hl15, hm15, hy15⟩
            have H15 := Lib.hid hl15
            have HBA15 := Lib.hid (HBA14.out.next hm15 hy15)
            have HBB15 := Lib.hid (HBB14.out.next hm15 hy15)
            clear hl15 hm15 hy15 HAD H14 HBA14 HBB14 HXB14
            go_upto_if 225 with (fail)
            go_cut [36] (fun u wx => u = .int .u16 (nx : Nat) ∧ w15 = wx)
            case first => as_aux_lemma =>
              by_cases hla0 : la = 0
              · have hg : g = false := by
                  have h := HLA.out
                  cases g with
                  | false => rfl
                  | true => rw [if_pos rfl] at h; omega
                subst hg
                have f1 : decide ((0 : Int) < ((la : Nat) : Int)) = false := decide_eq_false (by omega)
                have f2 : decide (0 < la) = false := decide_eq_false (by omega)
                have f3 : ¬ (0 : Int) < ((la : Nat) : Int) := by omega
                have f4 : ¬ 0 < la := by omega
                have hnx : nx = b + 1 := HNN.out
                by_cases hb0 : lb = 0
                · have h0 : nx = 1 := by
                    have h1 := HLB.out
                    have h2 := HA.out
                    omega
                  have HN1 := Lib.hid h0
                  have e1 : decide ((0 : Int) < ((lb : Nat) : Int)) = false := decide_eq_false (by omega)
                  have e2 : decide (0 < lb) = false := decide_eq_false (by omega)
                  have e3 : ¬ (0 : Int) < ((lb : Nat) : Int) := by omega
                  have e4 : ¬ 0 < lb := by omega
                  clear hb0 hla0 hnx h0
                  go_wp2_with fail
                  go_meet
                  exact ⟨by rw [HN1.out]; rfl, rfl⟩
                · skip
                  have e1 : decide ((0 : Int) < ((lb : Nat) : Int)) = true := decide_eq_true (by omega)
                  have e2 : decide (0 < lb) = true := decide_eq_true (by omega)
                  have e3 : (0 : Int) < ((lb : Nat) : Int) := by omega
                  have e4 : 0 < lb := by omega
                  have e5 : (((lb : Nat) : Int) - 1).toNat = lb - 1 := by omega
                  have e6 : (1 : Int) ≤ ((lb : Nat) : Int) := by omega
                  have e7 : 1 ≤ lb := by omega
                  have e9 : lb ≤ 9223372036854775807 := by have h1 := HLB.out; have h2 := HA.out; have h3 := HLA.out; (try split at h3) <;> omega
                  obtain ⟨bb, off, rfl, cb⟩ := RdE.lastId HBB15.out.rd HALN.out e4 (HIDB.out e4)
                  have HCB := Lib.hid cb
                  have hb30 : b ≤ 30 := HA.out.2.2.2
                  have m1 : ((b : Nat) : Int) % 65534 = ((b : Nat) : Int) := by omega
                  have m2 : ((b : Nat) : Int).tmod 65534 = ((b : Nat) : Int) := by rw [Int.tmod_eq_emod_of_nonneg (by omega)]; exact m1
                  have m3 : IntKind.u16.wrap (((b : Nat) : Int) + 1) = ((nx : Nat) : Int) := by rw [IntKind.wrap_u16]; omega
                  clear hb0 hla0 hnx hb30
                  go_wp2_with fail
                  go_meet
                  exact ⟨rfl, rfl⟩
              · skip
                have f1 : decide ((0 : Int) < ((la : Nat) : Int)) = true := decide_eq_true (by omega)
                have f2 : decide (0 < la) = true := decide_eq_true (by omega)
                have f3 : (0 : Int) < ((la : Nat) : Int) := by omega
                have f4 : 0 < la := by omega
                have f5 : (((la : Nat) : Int) - 1).toNat = la - 1 := by omega
                have f6 : (1 : Int) ≤ ((la : Nat) : Int) := by omega
                have f7 : 1 ≤ la := by omega
                have f9 : la ≤ 9223372036854775807 := by have h1 := HLB.out; have h2 := HA.out; have h3 := HLA.out; (try split at h3) <;> omega
                obtain ⟨i, hi⟩ : ∃ i, i = (if g then b + 1 else b) := ⟨_, rfl⟩
                obtain ⟨b3, off3, rfl, c3⟩ := RdE.lastId HBA15.out.rd HLL3.out f4 ((HID3.out f4).trans hi.symm)
                have hi31 : i ≤ 31 := by have := HA.out; split at hi <;> omega
                have hni : nx = i + 1 := by rw [hi, HNN.out]; split <;> rfl
                have m1 : ((i : Nat) : Int) % 65534 = ((i : Nat) : Int) := by omega
                have m2 : ((i : Nat) : Int).tmod 65534 = ((i : Nat) : Int) := by rw [Int.tmod_eq_emod_of_nonneg (by omega)]; exact m1
                have m3 : IntKind.u16.wrap (((i : Nat) : Int) + 1) = ((nx : Nat) : Int) := by rw [IntKind.wrap_u16]; omega
                clear hla0 hi hni hi31
                go_wp2_with fail
                go_meet
                exact ⟨rfl, rfl⟩
            case rest => as_aux_lemma =>
              obtain ⟨rfl, rfl⟩ := hcut
              rcases HRB.out with ⟨rfl, rfl⟩ | ⟨rfl, rfl⟩
              · have q1 : (((rb : Nat) : Int) == ((rb : Nat) : Int)) = true := by simp
                go_wp2_with fail
                refine (HAW.out _).mono ?_
                rintro e w16 ⟨rfl, h16⟩
                have H16 := Lib.hid h16
                clear h16
                go_wp2_with fail
                go_ret
                exact ⟨rfl, H15.out.mods.trans H16.out⟩
              · go_wp2_with fail
                refine (HAW.out _).mono ?_
                rintro e w16 ⟨rfl, h16⟩
                have H16 := Lib.hid h16
                clear h16
                go_wp2_with fail
                go_ret
                exact ⟨rfl, H15.out.mods.trans H16.out⟩
end Go.Proofs.Ytkdadnlleepkfaa
