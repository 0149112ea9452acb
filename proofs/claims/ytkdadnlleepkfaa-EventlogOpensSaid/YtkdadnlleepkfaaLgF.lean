/- eventlog.Open: the contract. -/
import Derived.Test.YtkdadnlleepkfaaLogW
import Derived.Test.YtkdadnlleepkfaaFlashRead
import Derived.Test.YtkdadnlleepkfaaFlashA
namespace Go.Proofs.Ytkdadnlleepkfaa
open Go.RowKit
set_option linter.unusedVariables false
set_option linter.unusedSimpArgs false

def mkL (over : Bool) (S : LogS) : LogP := ⟨over, false, false, false, 0, S⟩
def OpenPost (w : World) (p : DevAt) (D : Dev) (G : Geo) (over : Bool) (e : Ending) (w' : World) : Prop :=
  ∃ q : LogAt, e = .returned (.tuple #[.pointer (some ⟨q.b, 0, none⟩), .int .i64 0]) ∧ IsLog w' q (w.heap.size + 1) (.pointer (some ⟨p.b, 0, none⟩)) G.first G.n (mkL over (openS (byt D) G)) ∧ w.heap.size ≤ q.b ∧ Mods [] w w'
theorem Try.infoBs : (Try.prog.info? 61).map (fun i => (i.zero, i.size, i.bytes)) = some (some (.slice none 0 0), 1, 24) := by kernel_rfl
theorem Try.sizeBs : (Try.prog.info? 61).map (·.size) = some 1 := by kernel_rfl
theorem Try.sizeI : (Try.prog.info? 3).map (·.size) = some 1 := by kernel_rfl
theorem Try.infoHd : (Try.prog.info? 92).map (fun i => (i.zero, i.size, i.bytes)) = some (some (.agg #[.int .i64 0, .int .i64 0, .int .u16 0]), 3, 24) := by kernel_rfl
/-- The bytes of sector j. -/
def secA (D : Dev) (G : Geo) (j : Nat) : List Int := subA D.data (G.at j) G.size
theorem secA_len {D : Dev} {G : Geo} (F : Fits G D) {j : Nat} (hj : j < G.n) : (secA D G j).length = G.size := subA_len (F.sect hj)
theorem secA_bytes {D : Dev} {G : Geo} (F : Fits G D) {j : Nat} : Bytes (secA D G j) := subA_bytes F.ok.byt
theorem secA_f {D : Dev} {G : Geo} {j : Nat} : ∀ i, i < G.size → ((secA D G j).getD i 0).toNat = byt D (G.at j + i) := fun i hi => by
  unfold secA byt
  rw [subA_get hi]
/-- What the two lists hold behind k sectors. -/
structure Tab (D : Dev) (G : Geo) (lo k : Nat) (Cb Ch : Array Value) (w : World) : Prop where
  sb : Cb.size = G.n
  sh : Ch.size = G.n * 3
  bad : ∀ i, i < G.n → (k ≤ i ∨ hd (byt D) G i = none) → Ch[i * 3]? = some (.int .i64 0)
  good : ∀ i x, i < k → hd (byt D) G i = some x → ∃ v, Cb[i]? = some v ∧ Rd w v (u8s (secA D G i)) ∧ (∀ y, v.ownBlock = some y → lo ≤ y) ∧ Ch[i * 3]? = some (.int .i64 (x.q : Nat)) ∧ Ch[i * 3 + 1]? = some (.int .i64 (x.t : Nat)) ∧ Ch[i * 3 + 2]? = some (.int .u16 (x.id : Nat))
theorem Tab.mods {D : Dev} {G : Geo} {lo k : Nat} {Cb Ch : Array Value} {w W : World} {S : List Nat} (h : Tab D G lo k Cb Ch w) (M : Mods S w W) (hS : ∀ y ∈ S, y < lo) : Tab D G lo k Cb Ch W :=
  ⟨h.sb, h.sh, h.bad, fun i x hi hx => by
    obtain ⟨v, h1, h2, h3, h4⟩ := h.good i x hi hx
    exact ⟨v, h1, h2.mods M (fun _ y hy hm => by have := h3 y hy; have := hS y hm; omega), h3, h4⟩⟩
theorem Tab.skip {D : Dev} {G : Geo} {lo k : Nat} {Cb Ch : Array Value} {w : World} (h : Tab D G lo k Cb Ch w) (hk : hd (byt D) G k = none) : Tab D G lo (k + 1) Cb Ch w :=
  ⟨h.sb, h.sh, fun i hi hc => by
    rcases Nat.lt_or_ge i k with h1 | h1
    · rcases hc with hc | hc
      · omega
      · exact h.bad i hi (.inr hc)
    · exact h.bad i hi (.inl h1), fun i x hi hx => by
    by_cases he : i = k
    · subst he; rw [hk] at hx; cases hx
    · exact h.good i x (by omega) hx⟩
theorem Tab.putT {D : Dev} {G : Geo} {lo k : Nat} {Cb Ch : Array Value} {w : World} (h : Tab D G lo k Cb Ch w) (hkn : k < G.n) {x : Hd} (hk : hd (byt D) G k = some x) {v : Value} (hv : Rd w v (u8s (secA D G k))) (ho : ∀ y, v.ownBlock = some y → lo ≤ y) :
    Tab D G lo (k + 1) (Cb.setIfInBounds k v) (setAll Ch (k * 3) (hdCells x).toList) w := by
  have hsh := h.sh
  have hsb := h.sb
  have hl : (hdCells x).toList.length = 3 := rfl
  have far : ∀ i c, i < G.n → i ≠ k → c < 3 → (setAll Ch (k * 3) (hdCells x).toList)[i * 3 + c]? = Ch[i * 3 + c]? := fun i c hi hne hc => by
    rw [get_setAll _ _ _ _ (by omega), if_neg (by rw [hl]; omega)]
  have near : ∀ c, c < 3 → (setAll Ch (k * 3) (hdCells x).toList)[k * 3 + c]? = (hdCells x).toList[c]? := fun c hc => by
    rw [get_setAll _ _ _ _ (by omega), if_pos (by rw [hl]; omega), show k * 3 + c - k * 3 = c by omega]
  refine ⟨by simpa using hsb, by rw [size_setAll]; exact hsh, fun i hi hc => ?_, fun i y hi hy => ?_⟩
  · have hne : i ≠ k := by
      rintro rfl
      rcases hc with hc | hc
      · omega
      · rw [hk] at hc; cases hc
    have := far i 0 hi hne (by omega)
    rw [Nat.add_zero] at this
    rw [this]
    exact h.bad i hi (hc.imp (by omega) id)
  · by_cases he : i = k
    · subst he
      rw [hk] at hy
      injection hy with hy
      subst hy
      refine ⟨v, by rw [Array.getElem?_setIfInBounds_self_of_lt (by omega)], hv, ho, (near 0 (by omega)), (near 1 (by omega)), (near 2 (by omega))⟩
    · obtain ⟨u, h1, h2, h3, h4, h5, h6⟩ := h.good i y (by omega) hy
      exact ⟨u, by rw [Array.getElem?_setIfInBounds_ne (by omega)]; exact h1, h2, h3, (far i 0 (by omega) he (by omega)).trans h4, (far i 1 (by omega) he (by omega)).trans h5, (far i 2 (by omega) he (by omega)).trans h6⟩
section
variable {T : TypeId} {P : Program} {Q : Exit → Act → World → Prop}
theorem exec_storeAt {ops : Array Oper} {o : Oper} {a : Act} {w : World} {K : Act → World → Prop} {E : Prop} (hgd : o.guard = none) (hd : o.dst = none) {ty : TypeId} {x y : Operand} (ho : o.op = .store ty x y)
    {g off : Nat} {c0 cs : Array Value} (hg : w.heap[g]? = some (.cells c0 T (0, 0))) (hx : a.eval x = .pointer (some ⟨g, off, none⟩)) (hy : a.eval y = .agg cs) (hs : off + cs.size ≤ c0.size)
    (hi : (P.info? ty).map (·.size) = some cs.size) (h1 : cs.all (·.oneCell') = true) (h : ∀ W, W.heap[g]? = some (.cells (setAll c0 off cs.toList) T (0, 0)) → Mods [g] w W → K a W) : if Region.wanted o (yielded ops a.tmps) = true then Oper.wp P o a w K Q else E := by
  rw [if_pos (by simp [Region.wanted, hgd])]
  have e : a.put o.dst undef = a := by rw [hd]; rfl
  have hR : (w.setCells g off cs.toList).heap[g]? = some (.cells (setAll c0 off cs.toList) T (0, 0)) := heap_setCells _ _ _ _ hg
  refine wp_store_mid ty x y ho g off cs hx hy ?_ hi h1 (by rw [e]; exact h _ hR (Mods.setCells _ _ _))
  · intro j hj
    refine ⟨?_, froz_blk hg _⟩
    rw [cell_blk hg, Array.getElem?_eq_getElem (by omega)]
    rfl
theorem exec_storeOne {ops : Array Oper} {o : Oper} {a : Act} {w : World} {K : Act → World → Prop} {E : Prop} (hgd : o.guard = none) (hd : o.dst = none) {ty : TypeId} {x y : Operand} (ho : o.op = .store ty x y)
    {g i : Nat} {c0 : Array Value} (hg : w.heap[g]? = some (.cells c0 T (0, 0))) (hx : a.eval x = .pointer (some ⟨g, i, none⟩)) {u : Value} (hy : a.eval y = u) (hs : i < c0.size)
    (hi : (P.info? ty).map (·.size) = some 1) (hu : u.oneCell' = true) (h : ∀ W, W.heap[g]? = some (.cells (c0.setIfInBounds i u) T (0, 0)) → Mods [g] w W → K a W) : if Region.wanted o (yielded ops a.tmps) = true then Oper.wp P o a w K Q else E := by
  rw [if_pos (by simp [Region.wanted, hgd])]
  have hc : (w.cell? ⟨g, i, none⟩).isSome = true := by rw [cell_blk hg, Array.getElem?_eq_getElem hs]; rfl
  have e : a.put o.dst undef = a := by rw [hd]; rfl
  unfold Oper.wp execOp
  simp only [ho, hx, hy, Instr.storeAt, Instr.sureAddr, Sem.run_bind, Sem.run_pure, Result.andThen_ok, run_storeVar_one w g i ty u hc (froz_blk hg _) hi hu]
  have := h _ (heap_setCell (i := i) (v := u) hg) (Mods.refl.setCell (.inl (by simp)) u)
  rw [← e] at this
  exact this
end
theorem evsK_len (b : Nat → Nat) (G : Geo) (j : Nat) : ∀ k, (evsK b G j k).length ≤ k
  | 0 => by simp [evsK]
  | k + 1 => by
    have := evsK_len b G j k
    simp only [evsK, List.length_append]
    cases evAt b (G.slot j k) <;> simp <;> omega
theorem usedK_le (b : Nat → Nat) (G : Geo) (j : Nat) : ∀ k, usedK b G j k ≤ k
  | 0 => Nat.le_refl _
  | k + 1 => by
    have := usedK_le b G j k
    simp only [usedK]
    split <;> omega
theorem recsK_len (b : Nat → Nat) (G : Geo) (t : Nat) : ∀ k, (recsK b G t k).length ≤ k * G.slots
  | 0 => by simp [recsK]
  | k + 1 => by
    have h1 := recsK_len b G t k
    have h2 : (secR b G (t + k)).length ≤ G.slots := by
      unfold secR
      split
      · split
        · rw [List.length_map]; exact evsK_len _ _ _ _
        · simp
      · simp
    simp only [recsK, List.length_append, Nat.add_mul]
    omega
theorem accS_small {b : Nat → Nat} {G : Geo} (hz : G.size ≤ 1024) {m : Nat} (hm : m ≤ 16) : (accS b G m).recs.length ≤ 100000 ∧ (accS b G m).used ≤ 1000 := by
  have hs : G.slots ≤ 60 := by unfold Geo.slots; omega
  unfold accS
  constructor
  · have h := recsK_len b G (newS b G).2 m
    have : m * G.slots ≤ 16 * 60 := Nat.mul_le_mul hm hs
    simp only
    omega
  · simp only
    have := usedK_le b G (((newS b G).1 - 1) % G.n) G.slots
    split <;> omega
def OpenR (w : World) (p : DevAt) (D : Dev) (G : Geo) (over : Bool) (gb gh lo k : Nat) (wx : World) : Prop :=
  ∃ Cb Ch, wx.heap[gb]? = some (.cells Cb 61 (0, 0)) ∧ wx.heap[gh]? = some (.cells Ch 92 (0, 0)) ∧ Tab D G lo k Cb Ch wx ∧
    IsLog wx ⟨w.heap.size, .slice none 0 0⟩ (w.heap.size + 1) (.pointer (some ⟨p.b, 0, none⟩)) G.first G.n (mkL over ⟨(newK (byt D) G k).1, (newK (byt D) G k).2, 0, 1, []⟩) ∧ Mods [] w wx ∧ lo ≤ wx.heap.size
theorem made_at {z : Array Value} {n i : Nat} {v : Value} (hi : i < n) (h : z[i % z.size]? = some v) : (madeCells z n)[i]? = some v := by
  have hlt : i % z.size < z.size := by
    rcases Nat.lt_or_ge (i % z.size) z.size with h1 | h1
    · exact h1
    · rw [Array.getElem?_eq_none h1] at h; cases h
  unfold madeCells
  rw [Array.getElem?_map, Array.getElem?_range, if_pos hi]
  simp only [Option.map_some, Option.some.injEq]
  rw [getElem!_pos z _ hlt]
  rw [Array.getElem?_eq_getElem hlt] at h
  exact Option.some.inj h
theorem Tab.zero (D : Dev) (G : Geo) (lo : Nat) (w : World) : Tab D G lo 0 (madeCells #[.slice none 0 0] G.n) (madeCells #[.int .i64 0, .int .i64 0, .int .u16 0] (G.n * 3)) w :=
  ⟨size_madeCells _ _, size_madeCells _ _, fun i hi _ => made_at (by omega) (by
    have : i * 3 % (#[Value.int .i64 0, .int .i64 0, .int .u16 0] : Array Value).size = 0 := by show i * 3 % 3 = 0; omega
    rw [this]; rfl), fun i x hi => by omega⟩
set_option maxRecDepth 100000 in
set_option maxHeartbeats 8000000 in
theorem open_ok (w : World) (p : DevAt) (D : Dev) (h : IsDev w p D) (G : Geo) (F : Fits G D) (hdn : D.down = false) (hn : D.wear.length ≤ 16) (hz : D.size ≤ 1024) (over : Bool) :
    Calls Try.prog 13 #[.pointer (some ⟨p.b, 0, none⟩), .int .i64 (G.first : Nat), .int .i64 (G.n : Nat), .bool over] w fun e w' => OpenPost w p D G over e w' := by
  have HD := Lib.hid h
  have HF := Lib.hid F
  have hsec := F.sec
  have hn2 := F.n2
  have hs64 := F.s64
  have HSZ := Lib.hid F.size
  have r1 : ¬ ((G.n : Nat) : Int) < 2 := by omega
  have r2 : ¬ ((G.first : Nat) : Int) < 0 := by omega
  have r3 : ¬ ((G.n : Nat) : Int) > ((D.wear.length : Nat) : Int) := by omega
  have r4 : ¬ ((G.first : Nat) : Int) > ((D.wear.length : Nat) : Int) - ((G.n : Nat) : Int) := by omega
  have HS := Lib.hid (fun w' (M : Mods [] w w') => sectors_ok w' p D (h.mods0 M))
  have HZ := Lib.hid (fun w' (M : Mods [] w w') => size_ok w' p D (h.mods0 M))
  have HR := Lib.hid (fun w' (M : Mods [] w w') at_ n => read_ok w' p D (h.mods0 M) F.ok at_ n)
  obtain ⟨i1, hi1, hy0, hy1, hy2⟩ := info_parts Try.infoBs
  obtain ⟨i2, hi2, hx0, hx1, hx2⟩ := info_parts Try.infoHd
  have hn16 : G.n ≤ 16 := by omega
  have hmk1 : ∀ w : World, (Instr.makeSlice 87 (.int .i64 (G.n : Int)) (.int .i64 (G.n : Int))).run Try.prog w = .ok (.slice (some ⟨w.heap.size, 0, none⟩) G.n G.n) (w.alloc (.cells (madeCells #[.slice none 0 0] G.n) 61)) := fun w => by
    have h := run_make (P := Try.prog) w 87 61 i1 (.slice none 0 0) Try.underlying87 hi1 hy0 .i64 .i64 G.n G.n (by omega) (Int.le_refl _) (by rw [hy2]; omega) (by omega)
    rw [hy1] at h
    simpa [Value.cells] using h
  have hmk2 : ∀ w : World, (Instr.makeSlice 88 (.int .i64 (G.n : Int)) (.int .i64 (G.n : Int))).run Try.prog w = .ok (.slice (some ⟨w.heap.size, 0, none⟩) G.n G.n) (w.alloc (.cells (madeCells #[.int .i64 0, .int .i64 0, .int .u16 0] (G.n * 3)) 92)) := fun w => by
    have h := run_make (P := Try.prog) w 88 92 i2 (.agg #[.int .i64 0, .int .i64 0, .int .u16 0]) Try.underlying88 hi2 hx0 .i64 .i64 G.n G.n (by omega) (Int.le_refl _) (by rw [hx2]; omega) (by omega)
    rw [hx1] at h
    simpa [Value.cells] using h
  clear hi1 hi2 hx0 hx1 hx2 hy0 hy1 hy2
  clear h F
  go_enter Try.func13, Try.ntmps13
  go_upto_region 4 with (go_at_call 46; refine (HS.out _ Mods.refl).mono ?_; rintro e w' ⟨rfl, rfl⟩)
  go_upto_region 6 with (fail)
  have HO0 := Lib.hid (show OpenR w p D G over (w.heap.size + 1) (w.heap.size + 1 + 1) (w.heap.size + 1 + 1 + 1) 0 (((w.alloc (.cells #[.pointer (some ⟨p.b, 0, none⟩), .int .i64 (G.first : Nat), .int .i64 (G.n : Nat), .bool over, .int .i64 0, .int .i64 0, .int .i64 0, .int .u16 1, .slice none 0 0, .bool false, .int .u16 0, .bool false, .bool false] 86)).alloc (.cells (madeCells #[.slice none 0 0] G.n) 61)).alloc (.cells (madeCells #[.int .i64 0, .int .i64 0, .int .u16 0] (G.n * 3)) 92)) from by
    refine ⟨_, _, ?_, ?_, Tab.zero D G _ _, ⟨?_, OwnE.nil _ _ _, Nat.lt_succ_self _⟩, ((Mods.refl.alloc _).alloc _).alloc _, ?_⟩
    · have h := heap_alloc_new (w.alloc (.cells #[.pointer (some ⟨p.b, 0, none⟩), .int .i64 (G.first : Nat), .int .i64 (G.n : Nat), .bool over, .int .i64 0, .int .i64 0, .int .i64 0, .int .u16 1, .slice none 0 0, .bool false, .int .u16 0, .bool false, .bool false] 86)) (.cells (madeCells #[.slice none 0 0] G.n) 61)
      rw [World.size_alloc] at h
      exact heap_alloc h
    · have h := heap_alloc_new ((w.alloc (.cells #[.pointer (some ⟨p.b, 0, none⟩), .int .i64 (G.first : Nat), .int .i64 (G.n : Nat), .bool over, .int .i64 0, .int .i64 0, .int .i64 0, .int .u16 1, .slice none 0 0, .bool false, .int .u16 0, .bool false, .bool false] 86)).alloc (.cells (madeCells #[.slice none 0 0] G.n) 61)) (.cells (madeCells #[.int .i64 0, .int .i64 0, .int .u16 0] (G.n * 3)) 92)
      rw [World.size_alloc, World.size_alloc] at h
      exact h
    · exact heap_alloc (heap_alloc (heap_alloc_new w (.cells #[.pointer (some ⟨p.b, 0, none⟩), .int .i64 (G.first : Nat), .int .i64 (G.n : Nat), .bool over, .int .i64 0, .int .i64 0, .int .i64 0, .int .u16 1, .slice none 0 0, .bool false, .int .u16 0, .bool false, .bool false] 86)))
    · rw [World.size_alloc, World.size_alloc, World.size_alloc]; exact Nat.le_refl _)
  generalize ((w.alloc (.cells #[.pointer (some ⟨p.b, 0, none⟩), .int .i64 (G.first : Nat), .int .i64 (G.n : Nat), .bool over, .int .i64 0, .int .i64 0, .int .i64 0, .int .u16 1, .slice none 0 0, .bool false, .int .u16 0, .bool false, .bool false] 86)).alloc (.cells (madeCells #[.slice none 0 0] G.n) 61)).alloc (.cells (madeCells #[.int .i64 0, .int .i64 0, .int .u16 0] (G.n * 3)) 92) = w3 at HO0 ⊢
  generalize hgb : w.heap.size + 1 + 1 = gh at HO0 ⊢
  generalize hgh : w.heap.size + 1 = gb at HO0 hgb ⊢
  generalize hgq : w.heap.size = gq at hgh ⊢
  generalize hlo : gh + 1 = lo at HO0
  have HGQ := Lib.hid (show w.heap.size = gq ∧ gb = gq + 1 ∧ gh = gq + 2 ∧ lo = gq + 3 from by omega)
  clear hgb hgh hgq hlo
  go_wp2_with fail
  have HLU : Hid True := Lib.hid trivial
  go_loopw [51] (fun i wx => ∃ k : Nat, k ≤ G.n ∧ i = .int .i64 k ∧ OpenR w p D G over gb gh lo k wx) (fun i _ => G.n - (intOf i).toNat)
  case atStart => exact ⟨0, Nat.zero_le _, rfl, HO0.out⟩
  clear HO0
  case round =>
    obtain ⟨k, hk, rfl, Cb, Ch, hcb, hch, hT, hL, hM, hlw⟩ := hrel
    have HCB := Lib.hid hcb
    have HCH := Lib.hid hch
    have HT := Lib.hid hT
    have HL := Lib.hid hL
    have HM := Lib.hid hM
    clear hcb hch hT hL hM
    have i0 : (0 : Int) ≤ (k : Int) := by omega
    by_cases hlt : k < G.n
    · have i1 : (k : Int) < (G.n : Int) := by omega
      have hm0 : IntKind.i64.wrap ((((G.first : Nat) : Int) + ((k : Nat) : Int)) * ((D.size : Nat) : Int)) = ((G.at k : Nat) : Int) := by
        have h1 : G.at k + G.size ≤ D.data.length := HF.out.sect hlt
        have h2 := HF.out.ok.len
        have h3 : G.at k = (G.first + k) * D.size := by unfold Geo.at; rw [HSZ.out]
        rw [← Int.natCast_add, ← Int.natCast_mul, ← h3]
        exact IntWalk.i64_in _ (by omega)
      have HRD := Lib.hid (show D.read ((G.at k : Nat) : Int) ((D.size : Nat) : Int) = (secA D G k, 0) by
        have hf : fits D ((G.at k : Nat) : Int) ((D.size : Nat) : Int) = true := decide_eq_true ⟨by omega, by omega, by have := HF.out.sect hlt; rw [HSZ.out] at this; omega⟩
        unfold Dev.read
        rw [if_neg (by rw [hdn]; decide), if_pos hf]
        simp [secA, subA, HSZ.out])
      go_wp2_with fail
      refine (HZ.out _ HM.out).mono ?_
      rintro e w' ⟨rfl, rfl⟩
      go_wp2_with fail
      refine (HZ.out _ HM.out).mono ?_
      rintro e w' ⟨rfl, rfl⟩
      go_wp2_with fail
      refine (HR.out _ HM.out _ _).mono ?_
      rintro e w' ⟨v, rfl, hov, MR⟩
      rw [HRD.out] at hov ⊢
      have HMW := Lib.hid (HM.out.trans MR)
      have HLW := Lib.hid (HL.out.mods0 MR)
      have hblk : w'.heap[gq]? = _ := HGQ.out.1 ▸ HLW.out.blk
      have hlen : (secA D G k).length = G.size := secA_len HF.out hlt
      have HVR := Lib.hid (Rd.own hov)
      have HVO := Lib.hid (show ∀ y, v.ownBlock = some y → wr.heap.size ≤ y ∧ y < w'.heap.size from fun y hy => World.ownsRow.lt hov y hy)
      have HCW := Lib.hid (MR.heap HCB.out (by simp))
      have HHW := Lib.hid (MR.heap HCH.out (by simp))
      have HTW := Lib.hid (HT.out.mods (S := []) MR (by simp))
      have HSW := MR.size
      have HH := Lib.hid (header_ok w' gq _ _ hblk G.n ⟨hn2, hn16⟩ rfl v (secA D G k) (Rd.own hov) (secA_bytes HF.out) (by rw [hlen, HSZ.out]; exact hs64) k hlt)
      have HX := Lib.hid (okB_hd (f := fun i => ((secA D G k).getD i 0).toNat) (b := byt D) (j := k) (fun i hi => secA_f i hi) (by rw [HSZ.out]; exact hs64))
      generalize (fun i => ((secA D G k).getD i 0).toNat) = f at HH HX
      generalize rawHd f 0 = x at HH HX
      generalize okB f G.n k x = ok at HH HX
      clear hov hblk
      go_wp2_with fail
      refine HH.out.mono ?_
      rintro e w2 ⟨rfl, MH⟩
      have HMH := Lib.hid MH
      clear MH HH
      go_upto_region 13 with (refine wpList_store_row (cs := hdCells x) rfl 92 (.tmp 16) (.tmp 75) rfl (heap_alloc_new _ _) (by rfl) (by rfl) (by rfl) Try.sizeHd (hdCells_one x) ?_; intro w4 R4 M4; have HF4 := Lib.hid (freshA M4); have HR4 := Lib.hid R4; clear R4 M4)
      have HM24 := Lib.hid (HMH.out.trans HF4.out)
      have HG16 := Lib.hid (show lo ≤ w2.heap.size by have := HMH.out.size; omega)
      have HI16 := Lib.hid (lt_of_block HR4.out)
      generalize w2.heap.size = g16 at HR4 HG16 HI16 ⊢
      have HM4 := Lib.hid (HMW.out.trans HM24.out)
      have HL4 := Lib.hid (HLW.out.mods0 HM24.out)
      have HV4 := Lib.hid (HVR.out.mods0 HM24.out)
      have HC4 := Lib.hid (HM24.out.heap HCW.out (by simp))
      have HH4 := Lib.hid (HM24.out.heap HHW.out (by simp))
      have HT4 := Lib.hid (HTW.out.mods (S := []) HM24.out (by simp))
      have HZ4 := Lib.hid (show lo ≤ w4.heap.size by have := HI16.out; have := HG16.out; omega)
      have HVL := Lib.hid (show ∀ y, v.ownBlock = some y → lo ≤ y from fun y hy => by have := (HVO.out y hy).1; omega)
      clear HMW HLW HVR HCW HHW HTW HM24 HMH HF4 HCB HCH HT HM HL HSW
      cases ok with
      | false =>
        have hnone : hd (byt D) G k = none := HX.out
        have HN := Lib.hid (show newK (byt D) G (k + 1) = newK (byt D) G k by simp only [newK, hnone])
        go_wp2_with fail
        go_roundw
        case rel => exact ⟨k + 1, by omega, by go_num, Cb, Ch, HC4.out, HH4.out, HT4.out.skip hnone, by rw [HN.out]; exact HL4.out, HM4.out, HZ4.out⟩
        case measure => simp [intOf]; omega
      | true =>
        have hsome : hd (byt D) G k = some x := HX.out
        have HSM := Lib.hid hsome
        clear hsome HX
        have hsb := HT4.out.sb
        have hsh := HT4.out.sh
        go_upto_region 14 with (fail)
        have HNB := Lib.hid (show g16 ∉ [gb, gh] by have h1 := HG16.out; have h2 := HGQ.out; simp; omega)
        have HBH := Lib.hid (show gb ≠ gh ∧ gb < lo ∧ gh < lo ∧ gq < lo ∧ gq ≠ gb ∧ gq ≠ gh by have h2 := HGQ.out; omega)
        go_cut [] (fun wx => wx.heap[gb]? = some (.cells (Cb.setIfInBounds k v) 61 (0, 0)) ∧ wx.heap[gh]? = some (.cells (setAll Ch (k * 3) (hdCells x).toList) 92 (0, 0)) ∧ Mods [gb, gh] w4 wx)
        case first =>
          refine heldStart (S := fun W => Mods [gb, gh] w4 W) 10 rfl (by kernel_rfl) Mods.refl.drew (fun hHeld => ?_)
          refine takeD (i := 0) (d := 78) (v := ?_) rfl rfl (by kernel_rfl) (by kernel_rfl) (by kernel_rfl) (fun _ _ _ h => h) (Or.inl ⟨by rfl, ?_⟩) hHeld ?_
          rotate_left 1
          · (intro w hSw; (try dsimp only at hSw); go_simp; (try with_reducible rfl))
          simp only [List.setIfInBounds_toArray, List.set_cons_zero, List.set_cons_succ]
          refine takeD (i := 1) (d := 79) (v := ?_) rfl rfl (by kernel_rfl) (by kernel_rfl) (by kernel_rfl) (fun _ _ _ h => h) (Or.inl ⟨by rfl, ?_⟩) hHeld ?_
          rotate_left 1
          · (intro w hSw; (try dsimp only at hSw); go_simp; (try with_reducible rfl))
          simp only [List.setIfInBounds_toArray, List.set_cons_zero, List.set_cons_succ]
          refine takeD (i := 2) (d := 80) (v := ?_) rfl rfl (by kernel_rfl) (by kernel_rfl) (by kernel_rfl) (fun _ _ _ h => h) (Or.inl ⟨by rfl, ?_⟩) hHeld ?_
          rotate_left 1
          · (intro w hSw; (try dsimp only at hSw); go_simp; (try with_reducible rfl))
          simp only [List.setIfInBounds_toArray, List.set_cons_zero, List.set_cons_succ]
          refine takeD (i := 3) (d := 81) (v := ?_) rfl rfl (by kernel_rfl) (by kernel_rfl) (by kernel_rfl) (fun _ _ _ h => h) (Or.inl ⟨by rfl, ?_⟩) hHeld ?_
          rotate_left 1
          · (intro w hSw; (try dsimp only at hSw); go_simp; (try with_reducible rfl))
          simp only [List.setIfInBounds_toArray, List.set_cons_zero, List.set_cons_succ]
          refine takeD (i := 4) (d := 82) (v := ?_) rfl rfl (by kernel_rfl) (by kernel_rfl) (by kernel_rfl) (fun _ _ _ h => h) (Or.inl ⟨by rfl, ?_⟩) hHeld ?_
          rotate_left 1
          · (intro w hSw; (try dsimp only at hSw); go_simp; (try with_reducible rfl))
          simp only [List.setIfInBounds_toArray, List.set_cons_zero, List.set_cons_succ]
          refine takeD (i := 5) (d := 83) (v := .agg (hdCells x)) rfl rfl (by kernel_rfl) (by kernel_rfl) (by kernel_rfl) (fun _ _ _ h => h) (yieldsIf_load_row rfl 92 (.tmp 16) rfl g16 rfl 92 (hdCells x) (0, 0) _ (fun w h => h.heap HR4.out HNB.out) Try.underlying92 rfl Try.sizeHd) hHeld ?_
          simp only [List.setIfInBounds_toArray, List.set_cons_zero, List.set_cons_succ]
          refine takeD (i := 6) (d := 84) (v := ?_) rfl rfl (by kernel_rfl) (by kernel_rfl) (by kernel_rfl) (fun _ _ _ h => h) (Or.inl ⟨by rfl, ?_⟩) hHeld ?_
          rotate_left 1
          · (intro w hSw; (try dsimp only at hSw); go_simp; (try with_reducible rfl))
          simp only [List.setIfInBounds_toArray, List.set_cons_zero, List.set_cons_succ]
          refine wpAnyH_ready (rs := [7]) (by kernel_rfl) (by simp) ?_
          refine AllReadyH.cons rfl (fun K4 hK => ?_) AllReadyH.nil
          refine exec_storeOne rfl rfl rfl HC4.out rfl rfl (by rw [hsb]; first | exact hlt | (simp only [Nat.zero_add, Nat.mul_one]; exact hlt)) Try.sizeBs (by obtain ⟨ad, cp, he⟩ := HV4.out.len; rw [he]; rfl) (fun W5 R5 M5 => ?_)
          have HR5 := Lib.hid R5
          have HM5 := Lib.hid (show Mods [gb, gh] w4 W5 from (Mods.refl (S := [gb, gh]) (w := w4)).drew.comp M5 (fun y hy => .inl (List.mem_cons.2 (.inl (List.mem_singleton.1 hy)))))
          have HH5 := Lib.hid (M5.heap HH4.out (by have := HBH.out; simp; omega))
          refine hK.out _ _ HM5.out (fun hHeld => ?_)
          clear hK K4 R5 M5
          refine takeD (i := 8) (d := 85) (v := ?_) rfl rfl (by kernel_rfl) (by kernel_rfl) (by kernel_rfl) (fun _ _ _ h => h) (Or.inl ⟨by rfl, ?_⟩) hHeld ?_
          rotate_left 1
          · (intro w hSw; (try dsimp only at hSw); go_simp; (try with_reducible rfl))
          simp only [List.setIfInBounds_toArray, List.set_cons_zero, List.set_cons_succ]
          refine wpAnyH_ready (rs := [9]) (by kernel_rfl) (by simp) ?_
          refine AllReadyH.cons rfl (fun K4 hK => ?_) AllReadyH.nil
          refine exec_storeAt (cs := hdCells x) rfl rfl rfl HH5.out rfl rfl (by rw [hsh]; show _ + 3 ≤ _; first | omega | (simp only [Nat.zero_add]; omega)) Try.sizeHd (hdCells_one x) (fun W6 R6 M6 => ?_)
          have HR6 := Lib.hid R6
          have HM6 := Lib.hid (show Mods [gb, gh] w4 W6 from HM5.out.trans (M6.mono (fun y hy => .inl (List.mem_cons.2 (.inr hy)))))
          have HB6 := Lib.hid (M6.heap HR5.out (by have := HBH.out; simp; omega))
          refine hK.out _ _ HM6.out (fun hHeld => ?_)
          clear hK K4 R6 M6
          refine wpAnyH_done (by kernel_rfl) ?_ _
          go_wp2_with fail
          go_meet
          refine ⟨?_, ?_, HM6.out⟩
          · first | exact HB6.out | (have h := HB6.out; simp only [Nat.zero_add] at h; exact h)
          · first | exact HR6.out | (have h := HR6.out; simp only [Nat.zero_add] at h; exact h)
        case rest =>
          obtain ⟨hb, hh, MM⟩ := hcut
          generalize wc = w5 at hb hh MM ⊢
          have HSS := Lib.hid (show ∀ y ∈ [gb, gh], y < lo from fun y hy => by have := HBH.out; simp at hy; omega)
          have HT5 := Lib.hid ((HT4.out.mods MM HSS.out).putT hlt HSM.out (HV4.out.mods MM (fun _ y hy hm => by have := HSS.out y hm; have := HVL.out y hy; omega)) HVL.out)
          have HL5 := Lib.hid (HL4.out.mods MM (fun y hy hm => by
            have h1 := HGQ.out
            simp [LogAt.foot, Value.ownBlock] at hy hm
            omega))
          have HM5 := Lib.hid (HM4.out.comp MM (fun y hy => .inr (by have h1 := HGQ.out; simp at hy; omega)))
          have HR5 := Lib.hid (MM.heap HR4.out HNB.out)
          have HZ5 := Lib.hid (show lo ≤ w5.heap.size by have := MM.size; have := HZ4.out; omega)
          have HB5 := Lib.hid hb
          have HH5 := Lib.hid hh
          generalize Cb.setIfInBounds k v = Cb1 at HT5 HB5
          generalize setAll Ch (k * 3) (hdCells x).toList = Ch1 at HT5 HH5
          clear hb hh MM HT4 HL4 HM4 HR4 HZ4 HC4 HH4 hsb hsh
          have c0 := (cell_blk HR5.out 0).trans (show _ = some (Value.int .i64 (x.q : Nat)) from rfl)
          have c1 := (cell_blk HR5.out 1).trans (show _ = some (Value.int .i64 (x.t : Nat)) from rfl)
          have hbl : w5.heap[gq]? = _ := HGQ.out.1 ▸ HL5.out.blk
          have HBL := Lib.hid hbl
          have c4 := (cell_blk hbl 4).trans (show _ = some (Value.int .i64 ((newK (byt D) G k).1 : Nat)) from rfl)
          clear hbl
          go_upto_region 15 with (fail)
          by_cases hgt : (newK (byt D) G k).1 < x.q
          · have HN := Lib.hid (show newK (byt D) G (k + 1) = (x.q, x.t) by simp only [newK, HSM.out, if_pos hgt])
            have g1 : (((newK (byt D) G k).1 : Nat) : Int) < ((x.q : Nat) : Int) := by omega
            go_quiet (fail)
            go_upto_region 16 with (fail)
            clear c0 c1 c4
            have HDR := Lib.hid ((Mods.refl (S := []) (w := w5)).drewN nq)
            generalize w5.drewN nq = w6 at HDR ⊢
            have HG6 := Lib.hid (show g16 ∉ [gq] by have h1 := HG16.out; have h2 := HGQ.out; simp; omega)
            have HR6 := Lib.hid (HDR.out.heap HR5.out (by simp))
            have HL6 := Lib.hid (HDR.out.heap HBL.out (by simp))
            have HM6 := Lib.hid (HM5.out.trans HDR.out)
            have HT6 := Lib.hid (HT5.out.mods HDR.out (by simp))
            have HB6 := Lib.hid (HDR.out.heap HB5.out (by simp))
            have HH6 := Lib.hid (HDR.out.heap HH5.out (by simp))
            have HZ6 := Lib.hid (show lo ≤ w6.heap.size by have := HDR.out.size; have := HZ5.out; omega)
            clear HDR HR5 HBL HM5 HT5 HB5 HH5 HZ5 HL5
            refine heldStart (S := fun W => Mods [gq] w6 W) 12 rfl (by kernel_rfl) Mods.refl.drew (fun hHeld => ?_)
            refine takeD (i := 0) (d := 93) (v := ?_) rfl rfl (by kernel_rfl) (by kernel_rfl) (by kernel_rfl) (fun _ _ _ h => h) (Or.inl ⟨by rfl, ?_⟩) hHeld ?_
            rotate_left 1
            · (intro w hSw; (try dsimp only at hSw); go_simp; (try with_reducible rfl))
            simp only [List.setIfInBounds_toArray, List.set_cons_zero, List.set_cons_succ]
            refine takeD (i := 1) (d := 94) (v := ?_) rfl rfl (by kernel_rfl) (by kernel_rfl) (by kernel_rfl) (fun _ _ _ h => h) (Or.inl ⟨by rfl, ?_⟩) hHeld ?_
            rotate_left 1
            · (intro w hSw; (try dsimp only at hSw); go_simp; (try with_reducible rfl))
            simp only [List.setIfInBounds_toArray, List.set_cons_zero, List.set_cons_succ]
            refine takeD (i := 2) (d := 95) (v := ?_) rfl rfl (by kernel_rfl) (by kernel_rfl) (by kernel_rfl) (fun _ _ _ h => h) (Or.inl ⟨by rfl, ?_⟩) hHeld ?_
            rotate_left 1
            · (intro w hSw; (try dsimp only at hSw); go_simp; (try with_reducible rfl))
            simp only [List.setIfInBounds_toArray, List.set_cons_zero, List.set_cons_succ]
            refine takeD (i := 3) (d := 96) (v := (.int .i64 (x.q:Nat))) rfl rfl (by kernel_rfl) (by kernel_rfl) (by kernel_rfl) (fun _ _ _ h => h) (Or.inl ⟨by rfl, fun w hSw => ?_⟩) hHeld ?_
            · have cst := (cell_blk (hSw.heap HR6.out HG6.out) 0).trans (show _ = some (.int .i64 (x.q:Nat)) from rfl)
              go_simp
            simp only [List.setIfInBounds_toArray, List.set_cons_zero, List.set_cons_succ]
            refine takeD (i := 4) (d := 97) (v := ?_) rfl rfl (by kernel_rfl) (by kernel_rfl) (by kernel_rfl) (fun _ _ _ h => h) (Or.inl ⟨by rfl, ?_⟩) hHeld ?_
            rotate_left 1
            · (intro w hSw; (try dsimp only at hSw); go_simp; (try with_reducible rfl))
            simp only [List.setIfInBounds_toArray, List.set_cons_zero, List.set_cons_succ]
            refine takeD (i := 5) (d := 98) (v := (.int .i64 (x.t:Nat))) rfl rfl (by kernel_rfl) (by kernel_rfl) (by kernel_rfl) (fun _ _ _ h => h) (Or.inl ⟨by rfl, fun w hSw => ?_⟩) hHeld ?_
            · have cst := (cell_blk (hSw.heap HR6.out HG6.out) 1).trans (show _ = some (.int .i64 (x.t:Nat)) from rfl)
              go_simp
            simp only [List.setIfInBounds_toArray, List.set_cons_zero, List.set_cons_succ]
            refine takeD (i := 6) (d := 99) (v := ?_) rfl rfl (by kernel_rfl) (by kernel_rfl) (by kernel_rfl) (fun _ _ _ h => h) (Or.inl ⟨by rfl, ?_⟩) hHeld ?_
            rotate_left 1
            · (intro w hSw; (try dsimp only at hSw); go_simp; (try with_reducible rfl))
            simp only [List.setIfInBounds_toArray, List.set_cons_zero, List.set_cons_succ]
            refine takeD (i := 7) (d := 100) (v := ?_) rfl rfl (by kernel_rfl) (by kernel_rfl) (by kernel_rfl) (fun _ _ _ h => h) (Or.inl ⟨by rfl, ?_⟩) hHeld ?_
            rotate_left 1
            · (intro w hSw; (try dsimp only at hSw); go_simp; (try with_reducible rfl))
            simp only [List.setIfInBounds_toArray, List.set_cons_zero, List.set_cons_succ]
            refine wpAnyH_ready (rs := [8]) (by kernel_rfl) (by simp) ?_
            refine AllReadyH.cons rfl (fun K4 hK => ?_) AllReadyH.nil
            refine exec_storeOne rfl rfl rfl HL6.out rfl rfl (by show _ < 13; omega) Try.sizeI (by rfl) (fun W7 R7 M7 => ?_)
            have HM7 := Lib.hid (show Mods [gq] w6 W7 from Mods.refl.drew.trans M7)
            have HR7 := Lib.hid R7
            refine hK.out _ _ HM7.out (fun hHeld => ?_)
            clear hK K4 R7 M7
            refine takeD (i := 9) (d := 101) (v := ?_) rfl rfl (by kernel_rfl) (by kernel_rfl) (by kernel_rfl) (fun _ _ _ h => h) (Or.inl ⟨by rfl, ?_⟩) hHeld ?_
            rotate_left 1
            · (intro w hSw; (try dsimp only at hSw); go_simp; (try with_reducible rfl))
            simp only [List.setIfInBounds_toArray, List.set_cons_zero, List.set_cons_succ]
            refine takeD (i := 10) (d := 102) (v := ?_) rfl rfl (by kernel_rfl) (by kernel_rfl) (by kernel_rfl) (fun _ _ _ h => h) (Or.inl ⟨by rfl, ?_⟩) hHeld ?_
            rotate_left 1
            · (intro w hSw; (try dsimp only at hSw); go_simp; (try with_reducible rfl))
            simp only [List.setIfInBounds_toArray, List.set_cons_zero, List.set_cons_succ]
            refine wpAnyH_ready (rs := [11]) (by kernel_rfl) (by simp) ?_
            refine AllReadyH.cons rfl (fun K4 hK => ?_) AllReadyH.nil
            refine exec_storeOne rfl rfl rfl HR7.out rfl rfl (by show _ < 13; omega) Try.sizeI (by rfl) (fun W8 R8 M8 => ?_)
            have HM8 := Lib.hid (show Mods [gq] w6 W8 from HM7.out.trans M8)
            have HR8 := Lib.hid R8
            refine hK.out _ _ HM8.out (fun hHeld => ?_)
            clear hK K4 R8 M8
            refine wpAnyH_done (by kernel_rfl) ?_ _
            go_wp2_with fail
            go_roundw
            case rel =>
              have HQQ := HGQ.out
              refine ⟨k + 1, by omega, by go_num, Cb1, Ch1, HM8.out.heap HB6.out (by simp; omega), HM8.out.heap HH6.out (by simp; omega), HT6.out.mods HM8.out (fun y hy => by simp at hy; omega), ⟨?_, OwnE.nil _ _ _, Nat.lt_succ_self _⟩, HM6.out.comp HM8.out (fun y hy => .inr (by simp at hy; omega)), by have := HM8.out.size; have := HZ6.out; omega⟩
              rw [HN.out, HQQ.1]
              exact HR8.out
            case measure => simp [intOf]; omega
          · have HN := Lib.hid (show newK (byt D) G (k + 1) = newK (byt D) G k by simp only [newK, HSM.out, if_neg hgt])
            have g1 : ¬ (((newK (byt D) G k).1 : Nat) : Int) < ((x.q : Nat) : Int) := by omega
            go_quiet (fail)
            go_wp2_with fail
            go_roundw
            case rel => exact ⟨k + 1, by omega, by go_num, Cb1, Ch1, HB5.out, HH5.out, HT5.out.mods (S := []) (Mods.refl.drewN _) (by simp), by rw [HN.out]; exact HL5.out.mods0 (Mods.refl.drewN _), HM5.out.drewN _, HZ5.out⟩
            case measure => simp [intOf]; omega
    · have i1 : ¬ (k : Int) < (G.n : Int) := by omega
      obtain rfl : k = G.n := by omega
      generalize wr = wl at HCB HCH HT HL HM hlw ⊢
      have hbl : wl.heap[gq]? = _ := HGQ.out.1 ▸ HL.out.blk
      have HBL := Lib.hid hbl
      have c5 := (cell_blk hbl 5).trans (show _ = some (Value.int .i64 ((newS (byt D) G).2 : Nat)) from rfl)
      clear hbl
      go_wp2_with fail
      clear c5
      by_cases hN0 : (newS (byt D) G).1 = 0
      · have h00 := (newS_none hN0).1
        have HOP := Lib.hid (show openS (byt D) G = ⟨(newK (byt D) G G.n).1, (newK (byt D) G G.n).2, 0, 1, []⟩ by
          have h1 : (newK (byt D) G G.n) = (0, 0) := h00
          unfold openS
          rw [if_pos hN0, h1])
        have t0 : (((newS (byt D) G).2 : Nat) : Int) = 0 := by rw [h00]; rfl
        have c4 := (cell_blk HBL.out 4).trans (show _ = some (Value.int .i64 0) from by
          have h1 : (newK (byt D) G G.n) = (0, 0) := h00
          rw [h1]; rfl)
        have HT0 := Lib.hid t0
        rw [t0]
        clear t0 h00 hN0
        go_loopw [18] (fun i wx => i = .int .i64 0 ∧ wx = wl) (fun i _ => 0)
        case atStart => exact ⟨rfl, rfl⟩
        case round =>
          obtain ⟨rfl, rfl⟩ := hrel
          go_wp2_with fail
          go_ret2
          refine ⟨⟨w.heap.size, .slice none 0 0⟩, by rw [HGQ.out.1]; rfl, ?_, Nat.le_refl _, ?_⟩
          · rw [HOP.out]; exact HL.out
          · exact HM.out
      · have HNP := Lib.hid (show 0 < (newS (byt D) G).1 by omega)
        obtain ⟨xN, hxN, heN⟩ := newS_some HNP.out
        have HOKN := Lib.hid (hd_ok hxN)
        have HEN := Lib.hid heN
        clear hxN heN hN0
        obtain ⟨N, hN⟩ : ∃ N, N = (newS (byt D) G).1 := ⟨_, rfl⟩
        obtain ⟨T, hT⟩ : ∃ T, T = (newS (byt D) G).2 := ⟨_, rfl⟩
        have HNT := Lib.hid (show N = (newS (byt D) G).1 ∧ T = (newS (byt D) G).2 from ⟨hN, hT⟩)
        have HTB := Lib.hid (show 1 ≤ T ∧ T ≤ N ∧ N - T ≤ G.n - 2 ∧ N ≤ 2147483648 by
          have h1 := HOKN.out
          have h2 := HEN.out
          rw [hN, hT, h2]
          exact ⟨h1.2.2.2.1, h1.2.2.2.2.1, h1.2.2.2.2.2.1, h1.2.1⟩)
        clear hN hT
        go_loopw [18] (fun i wx => ∃ m qq v', qq = T + m ∧ qq ≤ N + 1 ∧ i = .int .i64 (qq : Nat) ∧ IsLog wx ⟨w.heap.size, v'⟩ (w.heap.size + 1) (.pointer (some ⟨p.b, 0, none⟩)) G.first G.n (mkL over (accS (byt D) G m)) ∧ (∀ y, v'.ownBlock = some y → wl.heap.size ≤ y) ∧ Mods [gq] wl wx) (fun i _ => N + 1 - (intOf i).toNat)
        case atStart =>
          refine ⟨0, T, .slice none 0 0, rfl, by have := HTB.out; omega, by rw [HNT.out.2], ?_, fun y hy => by simp [Value.ownBlock] at hy, Mods.refl⟩
          rw [accS_zero HNP.out]
          exact HL.out
        clear HL HBL
        case round =>
          obtain ⟨m, qq, v', hqm, hqN, rfl, hLm, hvm, hMm⟩ := hrel
          have HQM := Lib.hid hqm
          have HLm := Lib.hid hLm
          have HVm := Lib.hid hvm
          have HMm := Lib.hid hMm
          have hTN := HTB.out
          have hq0 : 1 ≤ qq := by omega
          clear hqm hLm hvm hMm
          have hbl : wr.heap[gq]? = _ := HGQ.out.1 ▸ HLm.out.blk
          have HBL := Lib.hid hbl
          have c4 := (cell_blk hbl 4).trans (show _ = some (Value.int .i64 (N : Nat)) from by rw [HNT.out.1]; rfl)
          clear hbl
          by_cases hle : qq ≤ N
          · have q1 : ((qq : Nat) : Int) ≤ ((N : Nat) : Int) := by omega
            have q2 : (0 : Int) < ((qq : Nat) : Int) := by omega
            obtain ⟨j, hj⟩ : ∃ j, j = (qq - 1) % G.n := ⟨_, rfl⟩
            have hT : ((qq : Int) - 1).tmod (G.n : Int) = ((j : Nat) : Int) := by rw [Int.tmod_eq_emod_of_nonneg (by omega), hj, Int.natCast_emod]; congr 1; omega
            have hjn : j < G.n := by rw [hj]; exact Nat.mod_lt _ (by omega)
            have HJ := Lib.hid hj
            have hHm := HMm.out.heap HCH.out (by have := HGQ.out; simp; omega)
            have HHm := Lib.hid hHm
            have HCm := Lib.hid (HMm.out.heap HCB.out (by have := HGQ.out; simp; omega))
            clear hj
            go_upto_region 22 with (fail)
            by_cases hfd : ∃ x, hd (byt D) G j = some x ∧ x.q = qq
            · obtain ⟨x, hx, hxq⟩ := hfd
              obtain ⟨vb, hv1, hv2, hv3, hv4, hv5, hv6⟩ := HT.out.good j x hjn hx
              have cH := (cell_blk hHm (j * 3)).trans (hv4.trans (show _ = some (Value.int .i64 (qq : Nat)) by rw [hxq]))
              have HC0 := Lib.hid cH
              have HVB := Lib.hid hv2
              have HVO := Lib.hid hv3
              have hm16 : m ≤ 16 := by have := HQM.out; omega
              have hlen : (secA D G j).length = G.size := secA_len HF.out hjn
              have hvw : ∀ y, vb.ownBlock = some y → y < wl.heap.size := fun y hy => hv2.block_lt (by
                intro h
                have h2 : (u8s (secA D G j)).length = 0 := by rw [h]; rfl
                rw [u8s_length, hlen, HSZ.out] at h2
                omega) y hy
              have hvq : ∀ y, vb.ownBlock = some y → y ∉ gq :: v'.ownBlock.toList := fun y hy hm => by
                have h1 := hvw y hy
                have h2 := hv3 y hy
                have h3 := HGQ.out
                rcases List.mem_cons.1 hm with h4 | h4
                · omega
                · have := HVm.out y (by simpa using h4); omega
              have HKN := Lib.hid (hd_ok hx)
              have HLg : IsLog wr.drew ⟨gq, v'⟩ (gq + 1) (.pointer (some ⟨p.b, 0, none⟩)) G.first G.n (mkL over (accS (byt D) G m)) := HGQ.out.1 ▸ (HLm.out.mods0 Mods.refl.drew)
              have HLD := Lib.hid (load_ok wr.drew ⟨gq, v'⟩ (gq + 1) _ G.first G.n (mkL over (accS (byt D) G m)) HLg (by have h1 := HGQ.out; have h2 := HMm.out.size; show gq + 1 ≤ wr.heap.size; omega)
                ⟨by show (newS (byt D) G).1 ≤ _; rw [← HNT.out.1]; omega, (accS_small (by rw [HSZ.out]; exact hz) hm16).1, (accS_small (by rw [HSZ.out]; exact hz) hm16).2⟩ vb (secA D G j)
                ((hv2.mods HMm.out (fun _ y hy hm => hvq y hy (by rw [List.mem_singleton.1 hm]; exact List.mem_cons_self))).mods0 Mods.refl.drew) (secA_bytes HF.out) (by rw [hlen, HSZ.out]; exact hs64) (by rw [hlen, HSZ.out]; exact hz) hvq x (hd_ok hx).2.1 (hd_ok hx).2.2.2.2.2.2)
              have hAS : loadS (accS (byt D) G m) x (fun i => ((secA D G j).getD i 0).toNat) (((secA D G j).length - 11) / 17) = accS (byt D) G (m + 1) := by
                rw [hlen]
                refine accS_load (by rw [HSZ.out]; exact hs64) HNP.out (by rw [← HNT.out.1, ← HNT.out.2]; have := HQM.out; omega) (by rw [← HNT.out.2, ← HQM.out, ← HJ.out]; exact hx) (by rw [← HNT.out.2, ← HQM.out]; exact hxq) (fun i hi => ?_)
                rw [← HNT.out.2, ← HQM.out, ← HJ.out]
                exact secA_f i hi
              have HAS := Lib.hid hAS
              have HCV := Lib.hid hv1
              have HRG := Lib.hid (show ∀ W : World, W.heap[gh]? = some (Obj.cells Ch 92 (0, 0)) → W.rangeAt gh (j * 3) [.int .i64 ((x.q : Nat) : Int), .int .i64 ((x.t : Nat) : Int), .int .u16 ((x.id : Nat) : Int)] from fun W hW i u hu => by
                match i, hu with
                | 0, hu => injection hu with hu; subst hu; exact (cell_blk hW _).trans hv4
                | 1, hu => injection hu with hu; subst hu; exact (cell_blk hW _).trans hv5
                | 2, hu => injection hu with hu; subst hu; exact (cell_blk hW _).trans hv6)
              have HFB := Lib.hid (show gb ∉ gq :: v'.ownBlock.toList ∧ gh ∉ gq :: v'.ownBlock.toList by
                have h3 := HGQ.out
                constructor <;> intro hm <;> rcases List.mem_cons.1 hm with h4 | h4
                · omega
                · have := HVm.out _ (by simpa using h4); omega
                · omega
                · have := HVm.out _ (by simpa using h4); omega)
              clear hv1 hv2 hv3 hv4 hv5 hv6 hHm hvw hvq HLg hAS hlen
              go_upto_region 23 with (fail)
              clear cH
              refine heldStart (S := fun W => Mods (gq :: v'.ownBlock.toList) wr W) 10 rfl (by kernel_rfl) Mods.refl.drew (fun hHeld => ?_)
              refine takeD (i := 0) (d := 131) (v := ?_) rfl rfl (by kernel_rfl) (by kernel_rfl) (by kernel_rfl) (fun _ _ _ h => h) (Or.inl ⟨by rfl, ?_⟩) hHeld ?_
              rotate_left 1
              · (intro w hSw; (try dsimp only at hSw); go_simp; (try with_reducible rfl))
              simp only [List.setIfInBounds_toArray, List.set_cons_zero, List.set_cons_succ]
              refine takeD (i := 1) (d := 132) (v := ?_) rfl rfl (by kernel_rfl) (by kernel_rfl) (by kernel_rfl) (fun _ _ _ h => h) (Or.inl ⟨by rfl, ?_⟩) hHeld ?_
              rotate_left 1
              · (intro w hSw; (try dsimp only at hSw); go_simp; (try with_reducible rfl))
              simp only [List.setIfInBounds_toArray, List.set_cons_zero, List.set_cons_succ]
              refine takeD (i := 2) (d := 133) (v := ?_) rfl rfl (by kernel_rfl) (by kernel_rfl) (by kernel_rfl) (fun _ _ _ h => h) (Or.inl ⟨by rfl, ?_⟩) hHeld ?_
              rotate_left 1
              · (intro w hSw; (try dsimp only at hSw); go_simp; (try with_reducible rfl))
              simp only [List.setIfInBounds_toArray, List.set_cons_zero, List.set_cons_succ]
              refine takeD (i := 3) (d := 134) (v := ?_) rfl rfl (by kernel_rfl) (by kernel_rfl) (by kernel_rfl) (fun _ _ _ h => h) (Or.inl ⟨by rfl, ?_⟩) hHeld ?_
              rotate_left 1
              · (intro w hSw; (try dsimp only at hSw); go_simp; (try with_reducible rfl))
              simp only [List.setIfInBounds_toArray, List.set_cons_zero, List.set_cons_succ]
              refine takeD (i := 4) (d := 135) (v := vb) rfl rfl (by kernel_rfl) (by kernel_rfl) (by kernel_rfl) (fun _ _ _ h => h) (Or.inl ⟨by rfl, fun w hSw => ?_⟩) hHeld ?_
              · have cst := (cell_blk (hSw.heap HCm.out HFB.out.1) j).trans HCV.out
                go_simp
              simp only [List.setIfInBounds_toArray, List.set_cons_zero, List.set_cons_succ]
              refine takeD (i := 5) (d := 136) (v := ?_) rfl rfl (by kernel_rfl) (by kernel_rfl) (by kernel_rfl) (fun _ _ _ h => h) (Or.inl ⟨by rfl, ?_⟩) hHeld ?_
              rotate_left 1
              · (intro w hSw; (try dsimp only at hSw); go_simp; (try with_reducible rfl))
              simp only [List.setIfInBounds_toArray, List.set_cons_zero, List.set_cons_succ]
              refine takeD (i := 6) (d := 137) (v := ?_) rfl rfl (by kernel_rfl) (by kernel_rfl) (by kernel_rfl) (fun _ _ _ h => h) (Or.inl ⟨by rfl, ?_⟩) hHeld ?_
              rotate_left 1
              · (intro w hSw; (try dsimp only at hSw); go_simp; (try with_reducible rfl))
              simp only [List.setIfInBounds_toArray, List.set_cons_zero, List.set_cons_succ]
              refine takeD (i := 7) (d := 138) (v := ?_) rfl rfl (by kernel_rfl) (by kernel_rfl) (by kernel_rfl) (fun _ _ _ h => h) (Or.inl ⟨by rfl, ?_⟩) hHeld ?_
              rotate_left 1
              · (intro w hSw; (try dsimp only at hSw); go_simp; (try with_reducible rfl))
              simp only [List.setIfInBounds_toArray, List.set_cons_zero, List.set_cons_succ]
              refine takeD (i := 8) (d := 139) (v := .agg (hdCells x)) rfl rfl (by kernel_rfl) (by kernel_rfl) (by kernel_rfl) (fun _ _ _ h => h) (yieldsIf_load_mid (by rfl) 92 (.tmp 138) rfl gh (j * 3) rfl [.int .i64 ((x.q : Nat) : Int), .int .i64 ((x.t : Nat) : Int), .int .u16 ((x.id : Nat) : Int)] _ (fun W hW => HRG.out W (hW.heap HHm.out HFB.out.2)) Try.underlying92 rfl Try.sizeHd) hHeld ?_
              simp only [List.setIfInBounds_toArray, List.set_cons_zero, List.set_cons_succ]
              refine wpAnyH_ready (rs := [9]) (by kernel_rfl) (by simp) ?_
              refine AllReadyH.cons rfl (fun K4 hK => ?_) AllReadyH.nil
              go_simp
              refine HLD.out.mono ?_
              rintro e w' ⟨rfl, v2, hl2, hM2, hv2⟩
              rw [show { mkL over (accS (byt D) G m) with s := loadS (mkL over (accS (byt D) G m)).s x (fun i => ((secA D G j).getD i 0).toNat) (((secA D G j).length - 11) / 17) } = mkL over (accS (byt D) G (m + 1)) from by rw [← HAS.out]; rfl] at hl2
              have HL2 := Lib.hid hl2
              have HM2 := Lib.hid (show Mods (gq :: v'.ownBlock.toList) wr w' from Mods.refl.drew.trans hM2)
              have HV2 := Lib.hid (show ∀ y, v2.ownBlock = some y → wl.heap.size ≤ y from fun y hy => by
                have h5 := HMm.out.size
                rcases hv2 y hy with h | h
                · exact HVm.out y h
                · exact Nat.le_trans h5 h)
              clear hl2 hM2 hv2 HLD HAS
              go_simp
              refine hK.out _ _ HM2.out (fun hHeld => ?_)
              clear hK K4
              refine wpAnyH_done (by kernel_rfl) ?_ _
              go_wp2_with fail
              go_roundw
              case rel =>
                refine ⟨m + 1, qq + 1, v2, by have := HQM.out; omega, by omega, by go_num, by rw [HGQ.out.1]; exact HL2.out, HV2.out, HMm.out.comp HM2.out (fun y hy => ?_)⟩
                rcases List.mem_cons.1 hy with h | h
                · exact .inl (by rw [h]; exact List.mem_cons_self)
                · exact .inr (HVm.out y (by simpa using h))
              case measure => simp [intOf]; omega
            · obtain ⟨s0, hs0, hsne⟩ : ∃ s0 : Nat, Ch[j * 3]? = some (.int .i64 (s0 : Nat)) ∧ s0 ≠ qq := by
                cases hx : hd (byt D) G j with
                | none => exact ⟨0, HT.out.bad j hjn (.inr hx), by omega⟩
                | some x =>
                  obtain ⟨_, _, _, _, h4, _⟩ := HT.out.good j x hjn hx
                  exact ⟨x.q, h4, fun e => hfd ⟨x, hx, e⟩⟩
              have cH := (cell_blk hHm (j * 3)).trans hs0
              have hne' : ¬ ((s0 : Nat) : Int) = ((qq : Nat) : Int) := by omega
              have HSK := Lib.hid (show accS (byt D) G (m + 1) = accS (byt D) G m from accS_skip HNP.out (by rw [← HNT.out.1, ← HNT.out.2]; have := HQM.out; omega) (by
                rw [← HNT.out.2, ← HQM.out, ← HJ.out]
                intro x hx hxq
                exact hfd ⟨x, hx, hxq⟩))
              clear hfd hs0 hHm
              go_wp2_with fail
              go_roundw
              case rel => exact ⟨m + 1, qq + 1, v', by have := HQM.out; omega, by omega, by go_num, by rw [HSK.out]; exact HLm.out, HVm.out, HMm.out⟩
              case measure => simp [intOf]; omega
          · have q1 : ¬ ((qq : Nat) : Int) ≤ ((N : Nat) : Int) := by omega
            have HEND := Lib.hid (show accS (byt D) G m = openS (byt D) G by
              rw [← accS_end HNP.out, ← HNT.out.1, ← HNT.out.2]
              have := HQM.out
              congr 1
              omega)
            have HMQ := Lib.hid (HM.out.comp HMm.out (fun y hy => .inr (by have := HGQ.out; simp at hy; omega)))
            rw [HEND.out] at HLm
            clear HEND
            go_wp2_with fail
            go_ret2
            refine ⟨⟨w.heap.size, v'⟩, by rw [HGQ.out.1]; rfl, ?_, Nat.le_refl _, ?_⟩
            · exact HLm.out
            · exact HMQ.out
end Go.Proofs.Ytkdadnlleepkfaa
