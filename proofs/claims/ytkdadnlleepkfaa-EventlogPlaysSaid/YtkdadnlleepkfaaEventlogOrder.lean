/- EventlogOrder: the walk of the law. -/
import Derived.Test.YtkdadnlleepkfaaSameE
namespace Go.Proofs.Ytkdadnlleepkfaa
open Go.RowKit
set_option linter.unusedVariables false
set_option linter.unusedSimpArgs false
theorem RdE.take {α : Type} {E : Elt α} {w : World} {ad : Option Addr} {n cap : Nat} {l : List α} (h : RdE E w (.slice ad n cap) l) {k : Nat} (hk : k ≤ l.length) : RdE E w (.slice ad k cap) (l.take k) := by
  obtain ⟨ad', cap', he, h1, h2, hc⟩ := h
  injection he with e1 e2 e3
  subst e1 e2 e3
  have hl : (l.take k).length = k := by rw [List.length_take]; omega
  refine ⟨ad, cap, by rw [hl], by omega, h2, fun i hi => ?_⟩
  rw [hl] at hi
  obtain ⟨b, off, he, hx⟩ := hc i (by omega)
  refine ⟨b, off, he, fun j hj => ?_⟩
  rw [hx j hj, List.getD_eq_getElem?_getD, List.getD_eq_getElem?_getD, List.getElem?_take, if_pos hi]
theorem RdE.drop {α : Type} {E : Elt α} {w : World} {b off n cap : Nat} {l : List α} (h : RdE E w (.slice (some ⟨b, off, none⟩) n cap) l) {k : Nat} (hk : k ≤ l.length) : RdE E w (.slice (some ⟨b, off + k * E.k, none⟩) (n - k) (cap - k)) (l.drop k) := by
  obtain ⟨ad', cap', he, h1, h2, hc⟩ := h
  injection he with e1 e2 e3
  subst e1 e2 e3
  refine ⟨some ⟨b, off + k * E.k, none⟩, cap - k, by rw [List.length_drop], by rw [List.length_drop]; omega, by unfold maxLen at *; omega, fun i hi => ?_⟩
  rw [List.length_drop] at hi
  obtain ⟨b', off', he', hx⟩ := hc (k + i) (by omega)
  injection he' with he'
  injection he' with e4 e5
  subst e4 e5
  refine ⟨b, off + k * E.k, rfl, fun j hj => ?_⟩
  have := hx j hj
  rw [show off + k * E.k + i * E.k + j = off + (k + i) * E.k + j by rw [Nat.add_mul]; omega, this, List.getD_eq_getElem?_getD, List.getD_eq_getElem?_getD, List.getElem?_drop]
/-- The events from a on to b, as they are added. -/
def addedJ (ev : Nat → Evt) (a b : Nat) : List Evt := (List.range' a (b - a)).map fun j => withId (ev j) (j + 1)
theorem recs_added (K : Nat) (ev : Nat → Evt) (a b : Nat) : (recsAB K ev a b).map (·.2) = addedJ ev a b := by
  unfold recsAB addedJ
  rw [List.map_map]
  rfl
theorem added_len (ev : Nat → Evt) (a b : Nat) : (addedJ ev a b).length = b - a := by simp [addedJ]
theorem added_snoc (ev : Nat → Evt) {a b : Nat} (h : a ≤ b) : addedJ ev a (b + 1) = addedJ ev a b ++ [withId (ev b) (b + 1)] := by
  unfold addedJ
  rw [show b + 1 - a = (b - a) + 1 by omega, List.range'_concat, List.map_append]
  simp [show a + (b - a) = b by omega]
theorem added_take (ev : Nat → Evt) {b c : Nat} (h : b ≤ c) : (addedJ ev 0 c).take b = addedJ ev 0 b := by
  unfold addedJ
  rw [← List.map_take]
  congr 1
  rw [Nat.sub_zero, Nat.sub_zero, show c = b + (c - b) by omega, ← List.range'_append_1, List.take_left' (by simp)]
theorem added_drop (ev : Nat → Evt) {a c : Nat} (h : a ≤ c) : (addedJ ev 0 c).drop a = addedJ ev a c := by
  unfold addedJ
  rw [← List.map_drop]
  congr 1
  rw [Nat.sub_zero, show c = a + (c - a) by omega, ← List.range'_append_1, List.drop_left' (by simp)]
  simp
theorem fill_a {K N i : Nat} (hK : 1 ≤ K) (hN : 2 ≤ N) : (i ≤ (N - 1) * K → (fillT K N i - 1) * K = 0) ∧ ((N - 1) * K < i → 0 < (fillT K N i - 1) * K) ∧ (fillT K N i - 1) * K ≤ i ∧ i - (fillT K N i - 1) * K ≤ (N - 1) * K ∧ (0 < i → (fillT K N i - 1) * K < i) := by
  rcases Nat.eq_zero_or_pos i with h0 | h0
  · subst h0
    unfold fillT
    simp
  obtain ⟨a, b, hb, rfl⟩ : ∃ a b, b < K ∧ i = K * a + b := ⟨i / K, i % K, Nat.mod_lt _ hK, (Nat.div_add_mod i K).symm⟩
  have hq := fillQ_eq hK (a := a) hb
  have hT : fillT K N (K * a + b) = max 1 (fillQ K (K * a + b) - (N - 2)) := by unfold fillT; rw [if_neg (by omega)]
  obtain ⟨c, rfl⟩ : ∃ c, N = c + 2 := ⟨N - 2, by omega⟩
  rw [hT, hq]
  have e1 : c + 2 - 1 = c + 1 := by omega
  have e2 : c + 2 - 2 = c := by omega
  rw [e1, e2]
  generalize hQ : a + (if b = 0 then 0 else 1) = Q
  have hmc : (c + 1) * K = c * K + K := by rw [Nat.add_mul, Nat.one_mul]
  rcases Nat.lt_or_ge c Q with hc | hc
  · -- Q ≥ c + 1
    have hm : max 1 (Q - c) - 1 = Q - c - 1 := by omega
    rw [hm]
    obtain ⟨d, rfl⟩ : ∃ d, Q = c + 1 + d := ⟨Q - (c + 1), by omega⟩
    have hd : c + 1 + d - c - 1 = d := by omega
    rw [hd]
    by_cases h1 : b = 0
    · rw [if_pos h1] at hQ
      subst h1
      have ha : a = c + 1 + d := by omega
      subst ha
      have e3 : K * (c + 1 + d) = (c + 1) * K + d * K := by rw [Nat.mul_comm, Nat.add_mul]
      refine ⟨fun h => ?_, fun h => ?_, by omega, by omega, fun _ => by omega⟩
      · have : d * K = 0 := by omega
        exact this
      · omega
    · rw [if_neg h1] at hQ
      have ha : a = c + d := by omega
      subst ha
      have e3 : K * (c + d) = c * K + d * K := by rw [Nat.mul_comm, Nat.add_mul]
      refine ⟨fun h => ?_, fun h => ?_, by omega, by omega, fun _ => by omega⟩
      · rcases Nat.eq_zero_or_pos d with h2 | h2
        · subst h2; simp
        · have : K ≤ d * K := Nat.le_mul_of_pos_left _ h2
          omega
      · rcases Nat.eq_zero_or_pos d with h2 | h2
        · subst h2; omega
        · have : K ≤ d * K := Nat.le_mul_of_pos_left _ h2
          omega
  · have hm : max 1 (Q - c) - 1 = 0 := by omega
    rw [hm, Nat.zero_mul]
    have hle : K * a + b ≤ (c + 1) * K := by
      have ha : a ≤ c := by split at hQ <;> omega
      have : a * K ≤ c * K := Nat.mul_le_mul_right _ ha
      rw [Nat.mul_comm K a]
      omega
    refine ⟨fun _ => rfl, fun h => by omega, by omega, by omega, fun _ => by omega⟩
set_option maxRecDepth 100000 in
set_option maxHeartbeats 8000000 in
theorem eventlogOrder_walk (w : World) (s : Int) (hs : I64 s) (z : Int) (hz : I64 z) (ov : Bool) (v : Value) (Ls : List Int) (hv : Rd w v (i64s Ls)) (hb : ∀ i, I64 (Ls.getD i 0)) (n : Int) (hn : I64 n) :
    Calls Try.prog 4 #[.int .i64 s, .int .i64 z, .bool ov, v, .int .i64 n] w fun e w' => e = .returned (.bool true) ∧ Mods [] w w' := by
  have HL := Lib.hid (light_ok w v Ls hv)
  have HV := Lib.hid hv
  have HB := Lib.hid hb
  have HAW := Lib.hid awake_ok
  obtain ⟨N, hN⟩ := Int.eq_ofNat_of_zero_le (show 0 ≤ 2 + s % 3 by omega)
  obtain ⟨Z, hZ⟩ := Int.eq_ofNat_of_zero_le (show 0 ≤ 64 + z % 40 by omega)
  obtain ⟨m, hm⟩ := Int.eq_ofNat_of_zero_le (show 0 ≤ n % 40 by omega)
  have HNR := Lib.hid (show 2 ≤ N ∧ N ≤ 4 by omega)
  have HZR := Lib.hid (show 64 ≤ Z ∧ Z ≤ 103 by omega)
  have HMR := Lib.hid (show m < 40 by omega)
  have HGM := Lib.hid (geometry_ok w s z hs hz)
  rw [hN, hZ] at HGM
  have HMD := Lib.hid (fun W => mod_ok n 40 W hn (by omega) (by omega))
  rw [hm] at HMD
  clear hv hb hs hz hn hN hZ hm
  by_cases hl : Ls.length ≤ 600
  rotate_left 1
  · have HLL := Lib.hid (decide_eq_false hl)
    go_enter Try.func4, Try.ntmps4
    go_wp2_with fail
    refine HL.out.mono ?_
    rw [HLL.out]
    rintro e w' ⟨rfl, rfl⟩
    go_wp2_with fail
    refine (HAW.out _).mono ?_
    rintro e w1 ⟨rfl, M1⟩
    go_wp2
    go_ret
    exact ⟨rfl, M1⟩
  have HLL := Lib.hid (decide_eq_true hl)
  have HFI := Lib.hid (filled_ok w N Z HNR.out.1 (by have := HNR.out.2; omega) HZR.out.1 (by have := HZR.out.2; omega) ov v Ls HV.out (by omega) HB.out m (by have := HMR.out; omega))
  obtain ⟨G, hG⟩ : ∃ G : Geo, G = ⟨0, N, Z⟩ := ⟨_, rfl⟩
  rw [← hG] at HFI
  have HGE := Lib.hid hG
  clear hG hl
  go_enter Try.func4, Try.ntmps4
  go_wp2_with fail
  refine HL.out.mono ?_
  rw [HLL.out]
  rintro e w' ⟨rfl, rfl⟩
  go_wp2_with fail
  refine HGM.out.mono ?_
  rintro e w' ⟨rfl, rfl⟩
  go_wp2_with fail
  refine (HMD.out _).mono ?_
  rintro e w' ⟨rfl, rfl⟩
  go_wp2_with fail
  refine HFI.out.mono ?_
  rintro e w1 ⟨p, qb, v1, vr, B, D, k, B2, rfl, hlw, hk, hc, hor, hB2, hwB⟩
  have HW := Lib.hid hlw
  have HK := Lib.hid hk
  have HC := Lib.hid hc
  have HOR := Lib.hid hor
  have HB2 := Lib.hid hB2
  have HWB := Lib.hid hwB
  obtain ⟨ad, cap, hvr⟩ := (hor.rd evOk).len
  have HSL := Lib.hid (slots_pos hlw.sync.fit)
  have HGN := Lib.hid hlw.sync.fit.n2
  clear hlw hk hc hor hB2 hwB HFI HGM HL
  have HCP := Lib.hid (fun W => capacity_ok W N Z HNR.out.1 (by have := HNR.out.2; omega) HZR.out.1 (by have := HZR.out.2; omega))
  have HKS := Lib.hid (show G.slots = (Z - 11) / 17 ∧ G.n = N by have h := HGE.out; subst h; exact ⟨rfl, rfl⟩)
  have HLEN := Lib.hid HW.out.len
  have HFUL := Lib.hid (fun W (M : Mods [] w1 W) => (HW.out.mods0 M).full)
  have HLN2 := Lib.hid (fun W (M : Mods [] w1 W) => (HW.out.mods0 M).len)
  obtain ⟨a, ha⟩ : ∃ a, a = (fillT G.slots G.n (fillM G ov m) - 1) * G.slots := ⟨_, rfl⟩
  obtain ⟨b, hb⟩ : ∃ b, b = fillM G ov m := ⟨_, rfl⟩
  obtain ⟨R, hR⟩ : ∃ R, R = (G.n - 1) * G.slots := ⟨_, rfl⟩
  have hA := fill_a (K := G.slots) (N := G.n) (i := b) (by have := HSL.out; omega) HGN.out
  rw [hb, ← ha, ← hR, ← hb] at hA
  have HRC := Lib.hid (show (fillL G ov (evJ Ls) m).s.recs = recsAB G.slots (evJ Ls) a b by rw [ha, hb]; rfl)
  have HFF := Lib.hid (show (fillL G ov (evJ Ls) m).full = (!ov && decide (R < m)) by rw [hR]; rfl)
  have HBM := Lib.hid (show b = if ov then m else min m R by rw [hb, hR]; rfl)
  have HRR := Lib.hid (show ((G.n - 1) * G.slots : Nat) = R from hR.symm)
  have HAA := Lib.hid hA
  rw [HRC.out, recs_added] at HOR hvr
  rw [HRC.out] at HLN2
  rw [HFF.out] at HFUL
  have HAL := Lib.hid (recsAB_len (K := G.slots) (ev := evJ Ls) a b)
  rw [HAL.out] at HLN2
  rw [added_len] at hvr
  rw [hvr] at HOR
  rw [hvr]
  have HCP2 := Lib.hid (show ∀ W, Calls Try.prog 20 #[.int .i64 (N : Nat), .int .i64 (Z : Nat)] W fun e w' => e = .returned (.tuple #[.int .i64 (R : Nat), .int .i64 (G.slots : Nat), .int .i64 0]) ∧ W = w' from fun W => by
    have h := HCP.out W
    rw [← HKS.out.1] at h
    have h2 : (N - 1) * G.slots = R := by rw [hR, HKS.out.2]
    rw [h2] at h
    exact h)
  have HRW := Lib.hid (fun W (M : Mods [] w W) => roll_ok W v Ls (HV.out.mods0 M) (by have := of_decide_eq_true HLL.out; omega) HB.out)
  have HRLT := Lib.hid (fun hx y hy => HV.out.block_lt (fun e => hx (List.eq_nil_of_length_eq_zero (by rw [← i64s_length, e]; rfl))) y hy : Ls ≠ [] → ∀ y, v.ownBlock = some y → y < w.heap.size)
  clear hvr ha hb hR hA HCP HLEN
  go_wp2_with fail
  refine (HCP2.out _).mono ?_
  rintro e w' ⟨rfl, rfl⟩
  go_wp2_with fail
  refine (HRW.out _ HW.out.mods).mono ?_
  rintro e w2 ⟨rfl, hd2, hm2, hz2⟩
  have HD2 := Lib.hid hd2
  have HM2 := Lib.hid hm2
  have HBD := Lib.hid (Nat.le_refl w1.heap.size)
  have HZ2 := Lib.hid hz2
  clear hd2 hm2 hz2 HRW
  generalize hbd : w1.heap.size = bd at HD2 HZ2 HBD ⊢
  have HBE := Lib.hid hbd
  clear hbd
  go_wp2_with fail
  have hm40 : (m : Int) ≤ 40 := by have := HMR.out; omega
  go_loopw [22, 23] (fun u i' wr => ∃ i : Nat, i' = .int .i64 (i : Nat) ∧ i ≤ m ∧ OwnE evE wr w2.heap.size u (addedJ (evJ Ls) 0 i) ∧ IsDice wr bd v Ls (evP Ls i) ∧ Mods [bd] w2 wr) (fun _ i' _ => m - (intOf i').toNat)
  case atStart => exact ⟨0, rfl, Nat.zero_le _, OwnE.nil _ _ _, HD2.out, Mods.refl⟩
  case round =>
    obtain ⟨i, rfl, hi, hO, hd, hM⟩ := hrel
    have HO := Lib.hid hO
    have HDI := Lib.hid hd
    have HM := Lib.hid hM
    clear hO hd hM
    have i0 : (0 : Int) ≤ (i : Int) := by omega
    by_cases hlt : i < m
    · have i1 : (i : Int) < (m : Int) := by omega
      have HEC := Lib.hid (show Calls Try.prog 22 #[.pointer (some ⟨bd, 0, none⟩)] wr fun e w' => e = .returned (.agg (evJ Ls i).cells.toArray) ∧ IsDice w' bd v Ls (evP Ls (i + 1)) ∧ Mods [bd] wr w' from event_ok wr bd v Ls (evP Ls i) HDI.out)
      have HSN := Lib.hid (added_snoc (evJ Ls) (Nat.zero_le i))
      generalize evJ Ls i = y at HEC HSN
      go_wp2_with fail
      refine HEC.out.mono ?_
      rintro e w4 ⟨rfl, hd4, hm4⟩
      have HD4 := Lib.hid hd4
      have HM4 := Lib.hid (HM.out.trans hm4)
      have HO4 := Lib.hid (HO.out.mods hm4 (fun x hx h => by have h1 := (HO.out.lt x hx).1; have := HZ2.out; simp at h; omega))
      clear hd4 hm4 HEC
      go_upto_region 15 with (refine wpList_store_row (cs := y.cells.toArray) rfl 37 (.tmp 24) (.tmp 74) rfl (heap_alloc_new w4 _) (by rfl) (by rfl) (by rfl) Try.sizeEv (Evt.one y) ?_; intro w5 R5 M5; have HF5 := Lib.hid (freshA M5); have HR5 := Lib.hid R5; clear R5 M5)
      have HM5 := Lib.hid (HM4.out.comp0 HF5.out)
      have HO5 := Lib.hid (HO4.out.mods0 HF5.out)
      have HD5 := Lib.hid (HD4.out.mods0 HF5.out)
      have HG5 := Lib.hid (show w2.heap.size ≤ w4.heap.size from HM4.out.size)
      have HV5 := Lib.hid (show ∀ x, u22.ownBlock = some x → x < w4.heap.size from fun x hx => (HO4.out.lt x hx).2)
      have HB4 := Lib.hid (show bd < w4.heap.size from HD4.out.lt)
      generalize w4.heap.size = g24 at HR5 HG5 HV5 HB4 ⊢
      have cid := (cell_blk HR5.out 0).trans (show _ = some (Value.int .u16 ((y.id.val : Nat) : Int)) from rfl)
      have fid := froz_blk HR5.out 0
      have hw16 : IntKind.u16.wrap (((i : Nat) : Int) + 1) = ((i : Nat) : Int) + 1 := by rw [IntKind.wrap_u16]; omega
      obtain ⟨x, hx⟩ : ∃ x, x = withId y (i + 1) := ⟨_, rfl⟩
      have hxc : y.cells.toArray.setIfInBounds 0 (.int .u16 (((i : Nat) : Int) + 1)) = x.cells.toArray := by
        rw [hx]
        have h1 : (withId y (i + 1)).id.val = i + 1 := withId_id (by omega)
        simp only [Evt.cells, h1]
        rfl
      have HX := Lib.hid hxc
      rw [← hx] at HSN
      clear hxc hx
      go_upto_region 16 with (fail)
      have MS := (Mods.refl (S := [g24]) (w := w5)).setCell (p := ⟨g24, 0, none⟩) (.inl (by simp)) (.int .u16 (((i : Nat) : Int) + 1))
      have HB6 := Lib.hid (show (w5.setCell ⟨g24, 0, none⟩ (.int .u16 (((i : Nat) : Int) + 1))).heap[g24]? = some (.cells #[.int .u16 ((x.id.val : Nat) : Int), .int .u32 ((x.time.val : Nat) : Int), .int .u16 ((x.gen.val : Nat) : Int), .int .u8 ((x.st.val : Nat) : Int), .int .u8 ((x.sen.val : Nat) : Int), .int .u8 ((x.typ.val : Nat) : Int), .bool x.de, .int .u8 ((x.d0.val : Nat) : Int), .int .u8 ((x.d1.val : Nat) : Int), .int .u8 ((x.d2.val : Nat) : Int)] 37 (0, 0)) from by
        have h := heap_setCell (i := 0) (v := .int .u16 (((i : Nat) : Int) + 1)) HR5.out
        rw [HX.out] at h
        exact h)
      have HM6 := Lib.hid (HM5.out.comp MS (fun y hy => .inr (by simp at hy; subst hy; exact HG5.out)))
      have HO6 := Lib.hid (HO5.out.mods MS (fun k hk hm => by simp at hm; have := HV5.out k hk; omega))
      have HD6 := Lib.hid (HD5.out.mods MS (by have := HB4.out; simp; omega) (fun hl k hk hm => by
        simp at hm
        have h1 := HRLT.out hl k hk
        have h2 := HW.out.mods.size
        have h3 := HBE.out
        have h4 := HB4.out
        omega))
      clear MS cid fid hw16 HR5 HM5 HO5 HD5 HV5 HX
      generalize w5.setCell ⟨g24, 0, none⟩ (.int .u16 (((i : Nat) : Int) + 1)) = w6 at HB6 HM6 HO6 HD6 ⊢
      have HAL := Lib.hid (show OwnE evE (w6.alloc (.cells #[.int .u16 ((x.id.val : Nat) : Int), .int .u32 ((x.time.val : Nat) : Int), .int .u16 ((x.gen.val : Nat) : Int), .int .u8 ((x.st.val : Nat) : Int), .int .u8 ((x.sen.val : Nat) : Int), .int .u8 ((x.typ.val : Nat) : Int), .bool x.de, .int .u8 ((x.d0.val : Nat) : Int), .int .u8 ((x.d1.val : Nat) : Int), .int .u8 ((x.d2.val : Nat) : Int)] 37)) w2.heap.size u22 (addedJ (evJ Ls) 0 i) ∧ RdE evE (w6.alloc (.cells #[.int .u16 ((x.id.val : Nat) : Int), .int .u32 ((x.time.val : Nat) : Int), .int .u16 ((x.gen.val : Nat) : Int), .int .u8 ((x.st.val : Nat) : Int), .int .u8 ((x.sen.val : Nat) : Int), .int .u8 ((x.typ.val : Nat) : Int), .bool x.de, .int .u8 ((x.d0.val : Nat) : Int), .int .u8 ((x.d1.val : Nat) : Int), .int .u8 ((x.d2.val : Nat) : Int)] 37)) (.slice (some ⟨w6.heap.size, 0, none⟩) 1 1) [x] ∧ Mods [bd] w2 (w6.alloc (.cells #[.int .u16 ((x.id.val : Nat) : Int), .int .u32 ((x.time.val : Nat) : Int), .int .u16 ((x.gen.val : Nat) : Int), .int .u8 ((x.st.val : Nat) : Int), .int .u8 ((x.sen.val : Nat) : Int), .int .u8 ((x.typ.val : Nat) : Int), .bool x.de, .int .u8 ((x.d0.val : Nat) : Int), .int .u8 ((x.d1.val : Nat) : Int), .int .u8 ((x.d2.val : Nat) : Int)] 37)) ∧ IsDice (w6.alloc (.cells #[.int .u16 ((x.id.val : Nat) : Int), .int .u32 ((x.time.val : Nat) : Int), .int .u16 ((x.gen.val : Nat) : Int), .int .u8 ((x.st.val : Nat) : Int), .int .u8 ((x.sen.val : Nat) : Int), .int .u8 ((x.typ.val : Nat) : Int), .bool x.de, .int .u8 ((x.d0.val : Nat) : Int), .int .u8 ((x.d1.val : Nat) : Int), .int .u8 ((x.d2.val : Nat) : Int)] 37)) bd v Ls (evP Ls (i + 1)) from
        ⟨HO6.out.mods0 (Mods.refl.alloc _), RdE.one (a := x) (heap_alloc_new w6 _) rfl, HM6.out.alloc _, HD6.out.mods0 (Mods.refl.alloc _)⟩)
      go_wp2_with (first
        | (refine wpList_load_rowG (by rfl) 37 (.tmp 24) rfl g24 (by rfl) _ _ _ _ HB6.out Try.underlying37 rfl Try.sizeEv ?_)
        | (at_builtin; refine wpList_appE evOk (by rfl) (.tmp 79) (.tmp 81) rfl (by rfl) HAL.out.1 (by rfl) HAL.out.2.1 (by rw [added_len]; simp; omega) (HAL.out.2.2.1.size) ?_; intro VB WB OB MB; have HST := Lib.hid (show OwnE evE WB w2.heap.size VB (addedJ (evJ Ls) 0 (i + 1)) ∧ Mods [bd] w2 WB ∧ IsDice WB bd v Ls (evP Ls (i + 1)) from ⟨by rw [HSN.out]; exact OB, HAL.out.2.2.1.comp MB (fun y hy => .inr (HAL.out.1.back hy)), HAL.out.2.2.2.mods MB (fun hm => by have h1 := HAL.out.1.back hm; have h2 := HZ2.out; omega) (fun hl k hk hm => by have h1 := HAL.out.1.back hm; have h2 := HRLT.out hl k hk; have h3 := HW.out.mods.size; have h4 := HBE.out; have h5 := HZ2.out; omega)⟩); clear OB MB))
      go_roundw
      case rel => exact ⟨i + 1, by go_num, by omega, HST.out.1, HST.out.2.2, HST.out.2.1⟩
      case measure => simp [intOf]; omega
    · have i1 : ¬ (i : Int) < (m : Int) := by omega
      obtain rfl : i = m := by omega
      have HME := Lib.hid (show Mods [] w1 wr from HM2.out.comp HM.out (fun y hy => .inr (by have := HBE.out; simp at hy; omega)))
      have HRA := Lib.hid (HO.out.rd evOk)
      obtain ⟨ad2, cap2, hu2, hcp1, hcp2, -⟩ := HRA.out
      rw [added_len, Nat.sub_zero] at hu2 hcp1
      rw [hu2] at HRA
      rw [hu2]
      have HCC := Lib.hid (And.intro hcp1 hcp2)
      have HADR := Lib.hid (show (ad2 = none ∧ i = 0) ∨ ∃ g, ad2 = some ⟨g, 0, none⟩ from by
        have h0 := HO.out.2
        rw [hu2, added_len] at h0
        rcases h0 with ⟨h, h1⟩ | ⟨g, c, cur, h, _⟩
        · injection h with h2 h3
          exact .inl ⟨h2, by omega⟩
        · injection h with h2 h3
          exact .inr ⟨g, h2⟩)
      have HOR2 := Lib.hid ((HOR.out.rd evOk).mods0 evOk HME.out)
      clear hu2 hcp2 HDI HM
      cases ov with
      | false =>
        have hbm : b = min i R := HBM.out
        have ha0 : a = 0 := HAA.out.1 (by omega)
        subst ha0
        rcases Nat.lt_trichotomy i R with hc | hc | hc
        · have c1 : (i : Int) < (R : Int) := by omega
          have c2 : decide ((R : Int) < (i : Int)) = false := decide_eq_false (by omega)
          have c3 : decide (R < i) = false := decide_eq_false (by omega)
          have HSM := Lib.hid (sameL_ok wr (.slice ad (b - 0) cap) (.slice ad2 i cap2) (addedJ (evJ Ls) 0 b) (addedJ (evJ Ls) 0 i) HOR2.out (by
            have h := HRA.out.take (k := i) (by rw [added_len]; omega)
            rwa [added_take _ (by omega)] at h))
          have HDT := Lib.hid (show decide (addedJ (evJ Ls) 0 b = addedJ (evJ Ls) 0 i) = true from decide_eq_true (by rw [show b = i by omega]))
          have hcc : i ≤ cap2 := by omega
          clear hbm
          go_wp2_with fail
          refine HSM.out.mono ?_
          rw [HDT.out]
          rintro e w7 ⟨rfl, hm7⟩
          have HM7 := Lib.hid (HME.out.trans hm7)
          clear hm7 HSM HDT
          have HFU := Lib.hid (HFUL.out w7 HM7.out)
          have HLN3 := Lib.hid (HLN2.out w7 HM7.out)
          have hful : (!false && decide (R < i)) = false := by simp; omega
          rw [hful] at HFU
          clear hful
          go_wp2_with fail
          refine HFU.out.mono ?_
          rintro e w' ⟨rfl, rfl⟩
          go_wp2_with fail
          all_goals first | (exfalso; omega) | skip
          refine HLN3.out.mono ?_
          rintro e w' ⟨rfl, rfl⟩
          go_wp2_with fail
          refine (HAW.out _).mono ?_
          rintro e w8 ⟨rfl, h8⟩
          have H8 := Lib.hid h8
          clear h8
          go_wp2_with fail
          go_ret
          exact ⟨rfl, (HW.out.mods.trans HM7.out).trans H8.out⟩
        · subst hc
          have HSM := Lib.hid (sameL_ok wr (.slice ad (b - 0) cap) (.slice ad2 i cap2) (addedJ (evJ Ls) 0 b) (addedJ (evJ Ls) 0 i) HOR2.out (by
            have h := HRA.out.take (k := i) (by rw [added_len]; omega)
            rwa [added_take _ (by omega)] at h))
          have HDT := Lib.hid (show decide (addedJ (evJ Ls) 0 b = addedJ (evJ Ls) 0 i) = true from decide_eq_true (by rw [show b = i by omega]))
          have hcc : i ≤ cap2 := by omega
          clear hbm
          go_wp2_with fail
          refine HSM.out.mono ?_
          rw [HDT.out]
          rintro e w7 ⟨rfl, hm7⟩
          have HM7 := Lib.hid (HME.out.trans hm7)
          clear hm7 HSM HDT
          have HFU := Lib.hid (HFUL.out w7 HM7.out)
          have HLN3 := Lib.hid (HLN2.out w7 HM7.out)
          have hful : (!false && decide (i < i)) = false := by simp
          rw [hful] at HFU
          clear hful
          go_wp2_with fail
          refine HFU.out.mono ?_
          rintro e w' ⟨rfl, rfl⟩
          go_wp2_with fail
          all_goals first | (exfalso; omega) | skip
          refine HLN3.out.mono ?_
          rintro e w' ⟨rfl, rfl⟩
          go_wp2_with fail
          refine (HAW.out _).mono ?_
          rintro e w8 ⟨rfl, h8⟩
          have H8 := Lib.hid h8
          clear h8
          go_wp2_with fail
          go_ret
          exact ⟨rfl, (HW.out.mods.trans HM7.out).trans H8.out⟩
        · have c1 : ¬ (i : Int) < (R : Int) := by omega
          have c2 : decide ((R : Int) < (i : Int)) = true := decide_eq_true (by omega)
          have c3 : decide (R < i) = true := decide_eq_true (by omega)
          have HSM := Lib.hid (sameL_ok wr (.slice ad (b - 0) cap) (.slice ad2 R cap2) (addedJ (evJ Ls) 0 b) (addedJ (evJ Ls) 0 R) HOR2.out (by
            have h := HRA.out.take (k := R) (by rw [added_len]; omega)
            rwa [added_take _ (by omega)] at h))
          have HDT := Lib.hid (show decide (addedJ (evJ Ls) 0 b = addedJ (evJ Ls) 0 R) = true from decide_eq_true (by rw [show b = R by omega]))
          have hcc : R ≤ cap2 := by omega
          clear hbm
          go_wp2_with fail
          refine HSM.out.mono ?_
          rw [HDT.out]
          rintro e w7 ⟨rfl, hm7⟩
          have HM7 := Lib.hid (HME.out.trans hm7)
          clear hm7 HSM HDT
          have HFU := Lib.hid (HFUL.out w7 HM7.out)
          have HLN3 := Lib.hid (HLN2.out w7 HM7.out)
          have hful : (!false && decide (R < i)) = true := by simp; omega
          rw [hful] at HFU
          clear hful
          go_wp2_with fail
          refine HFU.out.mono ?_
          rintro e w' ⟨rfl, rfl⟩
          go_wp2_with fail
          all_goals first | (exfalso; omega) | skip
          refine HLN3.out.mono ?_
          rintro e w' ⟨rfl, rfl⟩
          go_wp2_with fail
          refine (HAW.out _).mono ?_
          rintro e w8 ⟨rfl, h8⟩
          have H8 := Lib.hid h8
          clear h8
          go_wp2_with fail
          go_ret
          exact ⟨rfl, (HW.out.mods.trans HM7.out).trans H8.out⟩
      | true =>
        have hbm : b = i := HBM.out
        subst hbm
        obtain ⟨ha1, ha2, ha3, ha4, ha5⟩ := HAA.out
        have hk : ((b : Nat) : Int) - ((b - a : Nat) : Int) = ((a : Nat) : Int) := by omega
        have HK2 := Lib.hid hk
        have HFU0 := HFUL
        have HFUL2 := Lib.hid (show ∀ W, Mods [] w1 W → Calls Try.prog 24 #[.pointer (some ⟨qb, 0, none⟩)] W fun e w' => e = .returned (.bool false) ∧ W = w' from fun W M => HFUL.out W M)
        have q1 : (0 : Int) ≤ ((a : Nat) : Int) := by omega
        have q2 : ((b - a : Nat) : Int) ≤ ((R : Nat) : Int) := by omega
        have q3 : b - a ≤ R := ha4
        clear hk HFU0 HFUL
        by_cases hbR : b ≤ R
        · have ha0 := ha1 hbR
          subst ha0
          have d1 : decide (b ≤ R) = true := decide_eq_true hbR
          have d2 : ((b : Nat) : Int) ≤ ((R : Nat) : Int) := by omega
          have HSM := Lib.hid (sameL_ok wr (.slice ad (b - 0) cap) (.slice ad2 b cap2) (addedJ (evJ Ls) 0 b) (addedJ (evJ Ls) 0 b) HOR2.out HRA.out)
          have HDT := Lib.hid (show decide (addedJ (evJ Ls) 0 b = addedJ (evJ Ls) 0 b) = true from decide_eq_true rfl)
          clear ha1 ha2 ha3 ha4 ha5 hbR
          rcases HADR.out with ⟨h1, -⟩ | ⟨g, h1⟩
          · subst h1
            go_upto_region 21 with (fail)
            try simp only [HK2.out]
            go_wp2_with fail
            all_goals first | (exfalso; omega) | skip
            refine HSM.out.mono ?_
            rw [HDT.out]
            rintro e w7 ⟨rfl, hm7⟩
            have HM7 := Lib.hid (HME.out.trans hm7)
            clear hm7 HSM HDT
            have HFU := Lib.hid (HFUL2.out w7 HM7.out)
            go_wp2_with fail
            refine HFU.out.mono ?_
            rintro e w' ⟨rfl, rfl⟩
            go_wp2_with fail
            refine (HAW.out _).mono ?_
            rintro e w8 ⟨rfl, h8⟩
            have H8 := Lib.hid h8
            clear h8
            go_wp2_with fail
            go_ret
            exact ⟨rfl, (HW.out.mods.trans HM7.out).trans H8.out⟩
          · subst h1
            go_upto_region 21 with (fail)
            try simp only [HK2.out]
            go_wp2_with fail
            all_goals first | (exfalso; omega) | skip
            refine HSM.out.mono ?_
            rw [HDT.out]
            rintro e w7 ⟨rfl, hm7⟩
            have HM7 := Lib.hid (HME.out.trans hm7)
            clear hm7 HSM HDT
            have HFU := Lib.hid (HFUL2.out w7 HM7.out)
            go_wp2_with fail
            refine HFU.out.mono ?_
            rintro e w' ⟨rfl, rfl⟩
            go_wp2_with fail
            refine (HAW.out _).mono ?_
            rintro e w8 ⟨rfl, h8⟩
            have H8 := Lib.hid h8
            clear h8
            go_wp2_with fail
            go_ret
            exact ⟨rfl, (HW.out.mods.trans HM7.out).trans H8.out⟩
        · have ha0 := ha2 (by omega)
          have d1 : decide (b ≤ R) = false := decide_eq_false hbR
          have d2 : ¬ ((b : Nat) : Int) ≤ ((R : Nat) : Int) := by omega
          have d3 : ¬ ((a : Nat) : Int) = 0 := by omega
          have d4 : (((a : Nat) : Int) == 0) = false := by rw [beq_eq_false_iff_ne]; exact d3
          have d5 : ((a : Nat) : Int) ≤ ((b : Nat) : Int) := by omega
          have d6 : decide ((b : Int) ≤ (R : Int)) = false := decide_eq_false d2
          rcases HADR.out with ⟨h1, h2⟩ | ⟨g, h1⟩
          · exfalso; omega
          · subst h1
            have HSM := Lib.hid (sameL_ok wr (.slice ad (b - a) cap) (.slice (some ⟨g, a * 10, none⟩) (b - a) (cap2 - a)) (addedJ (evJ Ls) a b) (addedJ (evJ Ls) a b) HOR2.out (by
              have h := HRA.out.drop (k := a) (by rw [added_len]; omega)
              rw [added_drop _ ha3, Nat.zero_add] at h
              exact h))
            have HDT := Lib.hid (show decide (addedJ (evJ Ls) a b = addedJ (evJ Ls) a b) = true from decide_eq_true rfl)
            have hcc : b ≤ cap2 := hcp1
            have q5 : a < b := ha5 (by omega)
            clear ha1 ha2 ha4 ha5 hbR ha0 d3 d5 d1
            go_upto_region 21 with (fail)
            try simp only [HK2.out]
            go_wp2_with fail
            all_goals first | (exfalso; omega) | skip
            refine HSM.out.mono ?_
            rw [HDT.out]
            rintro e w7 ⟨rfl, hm7⟩
            have HM7 := Lib.hid (HME.out.trans hm7)
            clear hm7 HSM HDT
            have HFU := Lib.hid (HFUL2.out w7 HM7.out)
            go_wp2_with fail
            refine HFU.out.mono ?_
            rintro e w' ⟨rfl, rfl⟩
            go_wp2_with fail
            refine (HAW.out _).mono ?_
            rintro e w8 ⟨rfl, h8⟩
            have H8 := Lib.hid h8
            clear h8
            go_wp2_with fail
            go_ret
            exact ⟨rfl, (HW.out.mods.trans HM7.out).trans H8.out⟩
end Go.Proofs.Ytkdadnlleepkfaa
