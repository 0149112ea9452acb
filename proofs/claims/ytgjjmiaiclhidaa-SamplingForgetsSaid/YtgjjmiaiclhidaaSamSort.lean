/- slices.SortedFunc of bytes by their numbers: contract (the sort by the shelf's contract, laid in plain words by the kit's own program). -/
import Derived.Shelf.SlSortCmp.Small
import Derived.Shelf.Small.Bits
import Derived.Shelf.SlSortFunc.HeapSort
import Derived.Shelf.Abstract
import Derived.Test.YtgjjmiaiclhidaaSamIt
import Derived.Test.YtgjjmiaiclhidaaBaseA
import Derived.Test.YtgjjmiaiclhidaaBaseG
namespace Go.Proofs.Ytgjjmiaiclhidaa
open Go.RowKit Go.Shelf Go.Sort

def layS6_ren : Go.Shelf.Ren := ⟨fun | 6 => 127 | 15 => 145 | 14 => 144 | 28 => 157 | 29 => 158 | 20 => 149 | 21 => 150 | 22 => 151 | 23 => 152 | 24 => 153 | 25 => 154 | 26 => 155 | 27 => 156 | 46 => 159 | 47 => 160 | 48 => 161 | 49 => 162 | 50 => 163 | 57 => 164 | n => n, fun | 22 => 33 | 24 => 5 | 25 => 144 | 3 => 3 | 39 => 148 | 0 => 0 | 53 => 181 | 55 => 115 | 4 => 4 | 46 => 174 | 45 => 173 | 50 => 178 | 5 => 5 | 9 => 9 | 66 => 182 | 70 => 186 | 76 => 188 | 77 => 189 | n => n, fun | n => n⟩
theorem layS6 : _root_.Go.Proofs.SlLaysF.n6 Try.prog layS6_ren := {
  mixed := by kernel_rfl
  f6 := ⟨Try.f127.name, by decide, Try.func127.trans (congrArg some (by kernel_rfl))⟩
  f14 := ⟨Try.f144.name, by decide, Try.func144.trans (congrArg some (by kernel_rfl))⟩
  f15 := Try.func145.trans (congrArg some (by kernel_rfl))
  f20 := ⟨Try.f149.name, by decide, Try.func149.trans (congrArg some (by kernel_rfl))⟩
  f21 := ⟨Try.f150.name, by decide, Try.func150.trans (congrArg some (by kernel_rfl))⟩
  f22 := ⟨Try.f151.name, by decide, Try.func151.trans (congrArg some (by kernel_rfl))⟩
  f23 := ⟨Try.f152.name, by decide, Try.func152.trans (congrArg some (by kernel_rfl))⟩
  f24 := ⟨Try.f153.name, by decide, Try.func153.trans (congrArg some (by kernel_rfl))⟩
  f25 := ⟨Try.f154.name, by decide, Try.func154.trans (congrArg some (by kernel_rfl))⟩
  f26 := ⟨Try.f155.name, by decide, Try.func155.trans (congrArg some (by kernel_rfl))⟩
  f27 := ⟨Try.f156.name, by decide, Try.func156.trans (congrArg some (by kernel_rfl))⟩
  f28 := Try.func157.trans (congrArg some (by kernel_rfl))
  f29 := Try.func158.trans (congrArg some (by kernel_rfl))
  f46 := ⟨Try.f159.name, by decide, Try.func159.trans (congrArg some (by kernel_rfl))⟩
  f47 := Try.func160.trans (congrArg some (by kernel_rfl))
  f48 := Try.func161.trans (congrArg some (by kernel_rfl))
  f49 := ⟨Try.f162.name, by decide, Try.func162.trans (congrArg some (by kernel_rfl))⟩
  f50 := ⟨Try.f163.name, by decide, Try.func163.trans (congrArg some (by kernel_rfl))⟩
  f57 := ⟨Try.f164.name, by decide, Try.func164.trans (congrArg some (by kernel_rfl))⟩
  t0 := Try.underlying0
  a0 := Try.isAgg0
  z0 := Try.sizeOf0
  v0 := Try.zeroValue0
  t3 := Try.underlying3
  a3 := Try.isAgg3
  z3 := Try.sizeOf3
  v3 := Try.zeroValue3
  t4 := Try.underlying4
  a4 := Try.isAgg4
  z4 := Try.sizeOf4
  v4 := Try.zeroValue4
  t5 := Try.underlying5
  a5 := Try.isAgg5
  z5 := Try.sizeOf5
  v5 := Try.zeroValue5
  t9 := Try.underlying9
  a9 := Try.isAgg9
  z9 := Try.sizeOf9
  v9 := Try.zeroValue9
  t22 := Try.underlying33
  a22 := Try.isAgg33
  z22 := Try.sizeOf33
  v22 := Try.zeroValue33
  a24 := Try.isAgg5
  z24 := Try.sizeOf5
  t25 := Try.underlying144
  a25 := Try.isAgg144
  z25 := Try.sizeOf144
  v25 := Try.zeroValue144
  t39 := Try.underlying148
  a39 := Try.isAgg148
  z39 := Try.sizeOf148
  v39 := Try.zeroValue148
  t45 := Try.underlying173
  a45 := Try.isAgg173
  z45 := Try.sizeOf173
  v45 := Try.zeroValue173
  t46 := Try.underlying174
  a46 := Try.isAgg174
  z46 := Try.sizeOf174
  v46 := Try.zeroValue174
  t50 := Try.underlying178
  a50 := Try.isAgg178
  z50 := Try.sizeOf178
  v50 := Try.zeroValue178
  t53 := Try.underlying181
  a53 := Try.isAgg181
  z53 := Try.sizeOf181
  v53 := Try.zeroValue181
  t55 := Try.underlying115
  a55 := Try.isAgg115
  z55 := Try.sizeOf115
  v55 := Try.zeroValue115
  t66 := Try.underlying182
  a66 := Try.isAgg182
  z66 := Try.sizeOf182
  v66 := Try.zeroValue182
  t70 := Try.underlying186
  a70 := Try.isAgg186
  z70 := Try.sizeOf186
  v70 := Try.zeroValue186
  t76 := Try.underlying188
  a76 := Try.isAgg188
  z76 := Try.sizeOf188
  v76 := Try.zeroValue188
  t77 := Try.underlying189
  a77 := Try.isAgg189
  z77 := Try.sizeOf189
  v77 := Try.zeroValue189 }
def layL125_ren : Go.Shelf.Ren := ⟨fun | 125 => 145 | 128 => 157 | 129 => 158 | n => n, fun | 46 => 148 | 3 => 3 | 51 => 181 | 53 => 115 | 4 => 4 | 5 => 5 | 9 => 9 | n => n, fun | n => n⟩
theorem layL125 : _root_.Go.Proofs.Lays.n125 Try.prog layL125_ren := {
  mixed := by kernel_rfl
  f125 := Try.func145.trans (congrArg some (by kernel_rfl))
  f128 := Try.func157.trans (congrArg some (by kernel_rfl))
  f129 := Try.func158.trans (congrArg some (by kernel_rfl))
  t3 := Try.underlying3
  a3 := Try.isAgg3
  z3 := Try.sizeOf3
  v3 := Try.zeroValue3
  t4 := Try.underlying4
  a4 := Try.isAgg4
  z4 := Try.sizeOf4
  v4 := Try.zeroValue4
  t5 := Try.underlying5
  a5 := Try.isAgg5
  z5 := Try.sizeOf5
  v5 := Try.zeroValue5
  t9 := Try.underlying9
  a9 := Try.isAgg9
  z9 := Try.sizeOf9
  v9 := Try.zeroValue9
  t46 := Try.underlying148
  a46 := Try.isAgg148
  z46 := Try.sizeOf148
  v46 := Try.zeroValue148
  t51 := Try.underlying181
  a51 := Try.isAgg181
  z51 := Try.sizeOf181
  v51 := Try.zeroValue181
  t53 := Try.underlying115
  a53 := Try.isAgg115
  z53 := Try.sizeOf115
  v53 := Try.zeroValue115 }

/-- -1, 0 or 1. -/
def cmpI (a b : Int) : Int := if a < b then -1 else if b < a then 1 else 0
set_option maxHeartbeats 1000000 in
theorem cmpInt_ok (a b : Int) (w : World) : Calls Try.prog 112 #[.int .i64 a, .int .i64 b] w fun e w' => e = .returned (.int .i64 (cmpI a b)) ∧ w = w' := by
  have HN : ∀ (x : Int) (w : World), Calls Try.prog 129 #[.int .i64 x] w fun e w' => e = .returned (.bool false) ∧ w = w' := fun x w => by
    have hx : (x != x) = false := by simp
    go_enter Try.func129, Try.ntmps129
    go_wp2
    go_ret
    exact ⟨rfl, rfl⟩
  have HH := Lib.hid HN
  clear HN
  have HC := Lib.hid (show cmpI a b = if a < b then -1 else if b < a then 1 else 0 from rfl)
  go_enter Try.func112, Try.ntmps112
  go_wp2_with (go_at_call 129; refine (HH.out _ _).mono ?_; rintro e w' ⟨rfl, rfl⟩)
  all_goals
    go_ret
    exact ⟨ret_int (by rw [HC.out]; repeat (first | rw [if_pos (by omega)] | rw [if_neg (by omega)])), rfl⟩
set_option maxRecDepth 100000 in
set_option maxHeartbeats 1000000 in
/-- The comparison of two raw readings: the sensor's block is read. -/
theorem readCl_ok (sgn : Bool) (gS : Nat) (x y : Nat) (hx : x < 256) (hy : y < 256) (w : World) (hs : w.cell? ⟨gS, 8, none⟩ = some (.bool sgn)) :
    Calls Try.prog 111 #[.int .u8 (x : Int), .int .u8 (y : Int), .pointer (some ⟨gS, 0, none⟩)] w fun e w' => e = .returned (.int .i64 (cmpI (numI sgn x) (numI sgn y))) ∧ ∃ q, w' = w.drewN q := by
  have NX := Lib.hid (number_ok sgn x hx)
  have NY := Lib.hid (number_ok sgn y hy)
  have HC := Lib.hid (cmpInt_ok (numI sgn x) (numI sgn y))
  generalize numI sgn x = a at NX HC ⊢
  generalize numI sgn y = b at NY HC ⊢
  generalize cmpI a b = r at HC ⊢
  have HS := Lib.hid (show ∀ W : World, (∃ q, W = w.drewN q) → W.cell? ⟨gS, 8, none⟩ = some (.bool sgn) from by rintro W ⟨q, rfl⟩; exact hs)
  clear hs
  go_enter Try.func111, Try.ntmps111
  go_wp2_with fail
  refine heldStart (S := fun W => ∃ q, W = w.drewN q) 12 rfl (by kernel_rfl) ⟨1, rfl⟩ (fun hHeld => ?_)
  refine takeD (i := 0) (d := 6) (v := ?_) rfl rfl (by kernel_rfl) (by kernel_rfl) (by kernel_rfl) (fun _ _ _ h => h) (Or.inl ⟨by rfl, ?_⟩) hHeld ?_
  rotate_left 1
  · (intro w hSw; (try dsimp only at hSw); go_simp; (try with_reducible rfl))
  simp only [List.setIfInBounds_toArray, List.set_cons_zero, List.set_cons_succ]
  refine takeD (i := 1) (d := 7) (v := ?_) rfl rfl (by kernel_rfl) (by kernel_rfl) (by kernel_rfl) (fun _ _ _ h => h) (Or.inl ⟨by rfl, ?_⟩) hHeld ?_
  rotate_left 1
  · (intro w hSw; (try dsimp only at hSw); go_simp; (try with_reducible rfl))
  simp only [List.setIfInBounds_toArray, List.set_cons_zero, List.set_cons_succ]
  refine takeD (i := 2) (d := 8) (v := (.bool sgn)) rfl rfl (by kernel_rfl) (by kernel_rfl) (by kernel_rfl) (fun _ _ _ h => h) (Or.inl ⟨by rfl, fun w hSw => ?_⟩) hHeld ?_
  · have cst := HS.out _ hSw
    go_simp
  simp only [List.setIfInBounds_toArray, List.set_cons_zero, List.set_cons_succ]
  refine takeD (i := 3) (d := 9) (v := ?_) rfl rfl (by kernel_rfl) (by kernel_rfl) (by kernel_rfl) (fun _ _ _ h => h) (Or.inl ⟨by rfl, ?_⟩) hHeld ?_
  rotate_left 1
  · (intro w hSw; (try dsimp only at hSw); go_simp; (try with_reducible rfl))
  simp only [List.setIfInBounds_toArray, List.set_cons_zero, List.set_cons_succ]
  refine takeD (i := 5) (d := 11) (v := ?_) rfl rfl (by kernel_rfl) (by kernel_rfl) (by kernel_rfl) (fun _ _ _ h => h) (Or.inl ⟨by rfl, ?_⟩) hHeld ?_
  rotate_left 1
  · (intro w hSw; (try dsimp only at hSw); go_simp; (try with_reducible rfl))
  simp only [List.setIfInBounds_toArray, List.set_cons_zero, List.set_cons_succ]
  refine takeD (i := 6) (d := 12) (v := ?_) rfl rfl (by kernel_rfl) (by kernel_rfl) (by kernel_rfl) (fun _ _ _ h => h) (Or.inl ⟨by rfl, ?_⟩) hHeld ?_
  rotate_left 1
  · (intro w hSw; (try dsimp only at hSw); go_simp; (try with_reducible rfl))
  simp only [List.setIfInBounds_toArray, List.set_cons_zero, List.set_cons_succ]
  refine takeD (i := 7) (d := 13) (v := (.bool sgn)) rfl rfl (by kernel_rfl) (by kernel_rfl) (by kernel_rfl) (fun _ _ _ h => h) (Or.inl ⟨by rfl, fun w hSw => ?_⟩) hHeld ?_
  · have cst := HS.out _ hSw
    go_simp
  simp only [List.setIfInBounds_toArray, List.set_cons_zero, List.set_cons_succ]
  refine takeD (i := 8) (d := 14) (v := ?_) rfl rfl (by kernel_rfl) (by kernel_rfl) (by kernel_rfl) (fun _ _ _ h => h) (Or.inl ⟨by rfl, ?_⟩) hHeld ?_
  rotate_left 1
  · (intro w hSw; (try dsimp only at hSw); go_simp; (try with_reducible rfl))
  simp only [List.setIfInBounds_toArray, List.set_cons_zero, List.set_cons_succ]
  refine wpAnyH_ready (rs := [4]) (by kernel_rfl) (by simp) ?_
  refine AllReadyH.cons rfl (fun K hK => ?_) AllReadyH.nil
  go_simp
  go_wp2_with (go_at_call 47; refine (NX.out _).mono ?_; rintro e w' ⟨rfl, rfl⟩)
  refine hK.out _ _ ?_ (fun hHeld => ?_)
  · exact hHeld
  clear hK K
  refine wpAnyH_ready (rs := [9]) (by kernel_rfl) (by simp) ?_
  refine AllReadyH.cons rfl (fun K hK => ?_) AllReadyH.nil
  go_simp
  go_wp2_with (go_at_call 47; refine (NY.out _).mono ?_; rintro e w' ⟨rfl, rfl⟩)
  refine hK.out _ _ ?_ (fun hHeld => ?_)
  · exact hHeld
  clear hK K
  refine wpAnyH_ready (rs := [10]) (by kernel_rfl) (by simp) ?_
  refine AllReadyH.cons rfl (fun K hK => ?_) AllReadyH.nil
  go_simp
  go_wp2_with (go_at_call 112; refine (HC.out _).mono ?_; rintro e w' ⟨rfl, rfl⟩)
  refine hK.out _ _ ?_ (fun hHeld => ?_)
  · exact hHeld
  clear hK K
  refine takeD (i := 11) (d := 5) (v := ?_) rfl rfl (by kernel_rfl) (by kernel_rfl) (by kernel_rfl) (fun _ _ _ h => h) (Or.inl ⟨by rfl, ?_⟩) hHeld ?_
  rotate_left 1
  · (intro w hSw; (try dsimp only at hSw); go_simp; (try with_reducible rfl))
  simp only [List.setIfInBounds_toArray, List.set_cons_zero, List.set_cons_succ]
  refine wpAnyH_done (by kernel_rfl) ?_ _
  go_wp2_with fail
  go_ret
  exact ⟨rfl, hHeld⟩
def encB (x : Fin 256) : Value := .int .u8 ((x.val : Nat) : Int)
def cfB (sgn : Bool) (x y : Fin 256) : Int := cmpI (numI sgn x.val) (numI sgn y.val)
theorem ltB (sgn : Bool) (x y : Fin 256) : ltOf (cfB sgn) x y = decide (numI sgn x.val < numI sgn y.val) := by
  unfold ltOf cfB cmpI
  by_cases h : numI sgn x.val < numI sgn y.val
  · rw [if_pos h]; simp [h]
  · rw [if_neg h]
    by_cases h2 : numI sgn y.val < numI sgn x.val
    · rw [if_pos h2]; simp [h]
    · rw [if_neg h2]; simp [h]
theorem swoB (sgn : Bool) : SWO (ltOf (cfB sgn)) := by
  refine ⟨fun x => ?_, fun x y z h1 h2 => ?_, fun x y z h1 h2 => ?_⟩
  · rw [ltB]; simp
  · rw [ltB] at *; simp only [decide_eq_true_eq] at *; omega
  · rw [ltB] at *; simp only [decide_eq_false_iff_not] at *; omega
theorem Mods.putRow {α : Type} [Inhabited α] (enc : α → Value) (w : World) (blk off : Nat) (d : Array α) : Mods [blk] w (Sort.putRow enc w blk off d) := by
  unfold Sort.putRow Sort.mapBlock
  refine ⟨rfl, rfl, rfl, by simp, fun k _ hn => ?_⟩
  simp only [List.mem_singleton] at hn
  show (w.heap.modify blk _)[k]? = w.heap[k]?
  rw [Array.getElem?_modify, if_neg (fun h => hn h.symm)]
def toF (x : Int) : Fin 256 := ⟨x.toNat % 256, Nat.mod_lt _ (by omega)⟩
theorem encB_toF {x : Int} (h : 0 ≤ x ∧ x ≤ 255) : encB (toF x) = .int .u8 x := by
  unfold encB toF
  have : ((x.toNat % 256 : Nat) : Int) = x := by omega
  simp only [this]
theorem bytes_mem {A : List Int} (hb : Bytes A) : ∀ x ∈ A, 0 ≤ x ∧ x ≤ 255 := fun x hx => by
  obtain ⟨i, hi, rfl⟩ := List.mem_iff_getElem.1 hx
  have := hb i
  rwa [List.getD_eq_getElem?_getD, List.getElem?_eq_getElem hi] at this
theorem map_toF {A : List Int} (hb : Bytes A) : ((A.map toF).toArray.toList.map fun x : Fin 256 => ((x.val : Nat) : Int)) = A := by
  show ((A.map toF).map fun x : Fin 256 => ((x.val : Nat) : Int)) = A
  rw [List.map_map]
  refine (List.map_congr_left (g := id) fun x hx => ?_).trans (List.map_id _)
  have := bytes_mem hb x hx
  show ((x.toNat % 256 : Nat) : Int) = x
  omega
def SortedRes (w : World) (sgn : Bool) (A : List Int) (e : Ending) (w' : World) : Prop :=
  ∃ v l, e = .returned v ∧ Rd w' v (u8s l) ∧ l.Perm A ∧ (l.Pairwise fun x y => numZ sgn x ≤ numZ sgn y) ∧ Mods [] w w'
theorem arr_getD {d : Array (Fin 256)} {j : Nat} (h : j < d.size) : d[j]! = d[j] := getElem!_pos d j h
set_option maxRecDepth 100000 in
set_option maxHeartbeats 2000000 in
theorem sortedFunc_ok (sgn : Bool) (gS Bs b off cap : Nat) (A : List Int) (hA : A.length ≤ 12) (hA1 : 1 ≤ A.length) (hb : Bytes A) (w : World) (h1 : Bs < w.heap.size) (h2 : b < w.heap.size)
    (hs : w.cell? ⟨gS, 8, none⟩ = some (.bool sgn)) (hBs : w.cell? ⟨Bs, 0, none⟩ = some (.slice (some ⟨b, off, none⟩) A.length cap)) (hC : ∀ i, i < A.length → w.cell? ⟨b, off + i, none⟩ = some (.int .u8 (A.getD i 0))) :
    Calls Try.prog 109 #[.func (.func 128) #[] #[.pointer (some ⟨Bs, 0, none⟩)], .func (.func 111) #[] #[.pointer (some ⟨gS, 0, none⟩)]] w
      fun e w' => SortedRes w sgn A e w' := by
  have HCO := Lib.hid (collect_ok Bs b off cap A (by omega) w h1 h2 hBs hC)
  have HS := Lib.hid hs
  have HBy := Lib.hid hb
  have hgS : gS < w.heap.size := World.block_lt_of_cell? w _ hs
  clear hC hBs hs
  go_enter Try.func109, Try.ntmps109
  go_wp2_with fail
  refine HCO.out.mono ?_
  rintro e w1 ⟨v, rfl, O1, M1⟩
  obtain ⟨g, cp, cur, hv, -⟩ := owns_form O1 (by rw [u8s_length]; omega)
  rw [u8s_length] at hv
  subst hv
  have hg := (World.ownsRow.lt O1 g rfl).1
  have hrd := Rd.own O1
  have HM1 := Lib.hid M1
  have hs1 := M1.cell HS.out (by simp)
  obtain ⟨d, hd⟩ : ∃ d : Array (Fin 256), d = (A.map toF).toArray := ⟨_, rfl⟩
  have hds : d.size = A.length := by rw [hd]; simp
  have hdj : ∀ j, j < A.length → d[j]! = toF (A.getD j 0) := fun j hj => by
    rw [arr_getD (by omega)]
    simp [hd, List.getD_eq_getElem?_getD, hj]
  have hH : Holds encB w1 g 0 d := fun j hj => by
    rw [hds] at hj
    obtain ⟨_, _, he, _, _, hc⟩ := hrd.u8
    injection he with he1 _ _
    obtain ⟨b', o', he2, hx⟩ := hc j hj
    rw [← he1] at he2
    injection he2 with he2
    injection he2 with e1 e2
    subst e1 e2
    refine ⟨by rw [hx, hdj j hj, encB_toF (hb j)], ?_⟩
    obtain ⟨_, _, cur', hv', hg', _⟩ := owns_form O1 (by rw [u8s_length]; omega)
    injection hv' with hv1 _ _
    injection hv1 with hv1
    injection hv1 with hv1 _
    subst hv1
    exact froz_blk hg' _
  have hcap : A.length ≤ cp ∧ cp ≤ maxLen := by
    obtain ⟨_, _, he, hl, hl2, _⟩ := hrd.u8
    injection he with _ _ he3
    subst he3
    exact ⟨hl, hl2⟩
  have eg : ∀ args w, (callFunc 111 args).run Try.prog w = .ok (.enter 111 args) w := enters_of Try.func111 (by kernel_rfl) rfl
  have hcmp : CmpReads Try.prog 111 #[.pointer (some ⟨gS, 0, none⟩)] encB (cfB sgn) g 0 d.size w1 := fun m os dk hdk x y =>
    readCl_ok sgn gS x.val y.val x.isLt y.isLt _ ((cell?_sortWorld_other encB w1 g 0 m dk os ⟨gS, 8, none⟩ (by show gS ≠ g; omega) (by show gS < w1.heap.size; have := M1.size; omega)).trans hs1)
  have hlen : ∀ (n : Nat) (W : World), n ≤ 12 → Calls Try.prog (layS6_ren.f 15) #[.int .u64 n] W fun e w' => (∃ l : Int, e = .returned (.int .i64 l)) ∧ w' = W := fun n W h =>
    (Any.bits_Len layL125 n W (by omega) (by omega)).mono fun _ _ ⟨he, hw⟩ => ⟨⟨_, he⟩, hw⟩
  have hcon := Any.slices_SortFunc_small_sorted layS6 encB (fun _ => rfl) (cfB sgn) (swoB sgn) 111 #[.pointer (some ⟨gS, 0, none⟩)] g 0 cp d w1 eg hcmp hH (by omega) hlen
  change Calls Try.prog 127 _ _ _ at hcon
  rw [hds] at hcon
  have HCON := Lib.hid hcon
  have HHO := Lib.hid hH
  have HDJ := Lib.hid hdj
  have HD := Lib.hid hd
  clear hcon hlen hcmp eg hH hdj hd hrd O1 M1 hs1
  go_wp2_with fail
  refine HCON.out.mono ?_
  rintro e w2 ⟨rfl, d', n, hp, hso, rfl⟩
  go_wp2_with fail
  go_ret
  have hsz : d'.size = A.length := hp.1.trans hds
  have hl : (d'.toList.map fun x : Fin 256 => ((x.val : Nat) : Int)).length = A.length := by simp [hsz]
  refine ⟨.slice (some ⟨g, 0, none⟩) A.length cp, d'.toList.map fun x : Fin 256 => ((x.val : Nat) : Int), rfl, ?_, ?_, ?_, ?_⟩
  · refine ⟨some ⟨g, 0, none⟩, cp, by rw [u8s_length, hl], by rw [u8s_length, hl]; exact hcap.1, hcap.2, fun i hi => ⟨g, 0, rfl, ?_⟩⟩
    · rw [u8s_length, hl] at hi
      have := cell?_putRow encB w1 g 0 d d' HHO.out hp.1 i (by omega)
      rw [u8s_getD _ _ (by rw [hl]; exact hi)]
      refine this.trans ?_
      rw [arr_getD (by omega)]
      simp [encB, List.getD_eq_getElem?_getD, show i < d'.size by omega]
  · have h3 := hp.2.2
    rw [show A.length = d'.size from hsz.symm] at h3
    rw [Array.extract_size, show d'.size = d.size from hp.1, Array.extract_size] at h3
    have h4 := h3.map fun x : Fin 256 => ((x.val : Nat) : Int)
    refine h4.trans ?_
    rw [HD.out]
    exact List.Perm.of_eq (map_toF HBy.out)
  · rw [List.pairwise_map, List.pairwise_iff_getElem]
    intro i j hi hj hij
    simp only [Array.length_toList] at hi hj
    have := hso i j (Nat.zero_le _) hij (by omega)
    rw [ltB, arr_getD hi, arr_getD hj, decide_eq_false_iff_not] at this
    simp only [Array.getElem_toList, numZ, Int.toNat_natCast]
    omega
  · exact (HM1.out.comp ((Mods.putRow encB w1 g 0 d').drewN n) (fun k hk => by simp at hk; subst hk; exact .inr hg))
end Go.Proofs.Ytgjjmiaiclhidaa
