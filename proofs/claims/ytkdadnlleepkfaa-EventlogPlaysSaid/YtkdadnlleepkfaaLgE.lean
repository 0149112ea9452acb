/- The event log in memory; load: contract. -/
import Derived.Test.YtkdadnlleepkfaaLgD
import Derived.Test.YtkdadnlleepkfaaElemAt
namespace Go.Proofs.Ytkdadnlleepkfaa
open Go.RowKit
set_option linter.unusedVariables false
set_option linter.unusedSimpArgs false

def recE : Elt (Nat × Evt) := ⟨101, 84, 11, fun r => .int .i64 (r.1 : Nat) :: r.2.cells, default⟩
theorem Try.infoRec : (Try.prog.info? 101).map (fun i => (i.zero, i.size, i.bytes)) = some (some (.agg #[.int .i64 0, .int .u16 0, .int .u32 0, .int .u16 0, .int .u8 0, .int .u8 0, .int .u8 0, .bool false, .int .u8 0, .int .u8 0, .int .u8 0]), 11, 32) := by kernel_rfl
theorem recOk : recE.Ok Try.prog := by
  refine ⟨fun _ => rfl, fun a v hv => ?_, by decide, Try.underlying84, ?_⟩
  · simp [recE, Evt.cells] at hv
    rcases hv with rfl | rfl | rfl | rfl | rfl | rfl | rfl | rfl | rfl | rfl | rfl <;> rfl
  · obtain ⟨i0, hi, hz0, hz1, hz2⟩ := info_parts Try.infoRec
    exact ⟨i0, _, hi, hz0, hz1, by rw [hz2]; decide, rfl⟩
def logCells (pd : Value) (first n : Nat) (L : LogP) (v : Value) : Array Value :=
  #[pd, .int .i64 (first : Nat), .int .i64 (n : Nat), .bool L.over, .int .i64 (L.s.newest : Nat), .int .i64 (L.s.tail : Nat), .int .i64 (L.s.used : Nat), .int .u16 (L.s.next : Nat), v, .bool L.full, .int .u16 (L.num : Nat), .bool L.held, .bool L.ended]
/-- Where a log lies: its block, its records. -/
structure LogAt where
  b : Nat
  v : Value
structure IsLog (w : World) (q : LogAt) (B : Nat) (pd : Value) (first n : Nat) (L : LogP) : Prop where
  blk : w.heap[q.b]? = some (.cells (logCells pd first n L q.v) 86 (0, 0))
  own : OwnE recE w B q.v L.s.recs
  lt : q.b < B
section
variable {w w' : World} {q : LogAt} {B first n : Nat} {pd : Value} {L : LogP}
def LogAt.foot (q : LogAt) : List Nat := q.b :: q.v.ownBlock.toList
theorem IsLog.mods {S : List Nat} (h : IsLog w q B pd first n L) (M : Mods S w w') (hS : ∀ k ∈ q.foot, k ∉ S) : IsLog w' q B pd first n L :=
  ⟨M.heap h.blk (hS _ (by simp [LogAt.foot])), h.own.mods M (fun k hk => hS k (by simp [LogAt.foot, hk])), h.lt⟩
theorem IsLog.mods0 (h : IsLog w q B pd first n L) (M : Mods [] w w') : IsLog w' q B pd first n L := h.mods M (fun _ _ => by simp)
theorem IsLog.c (h : IsLog w q B pd first n L) (i : Nat) : w.cell? ⟨q.b, i, none⟩ = (logCells pd first n L q.v)[i]? := cell_blk h.blk i
theorem IsLog.f (h : IsLog w q B pd first n L) (i : Nat) : w.frozen? ⟨q.b, i, none⟩ = false := froz_blk h.blk i
theorem IsLog.footlt (h : IsLog w q B pd first n L) : ∀ k ∈ q.foot, k < w.heap.size := fun k hk => by
  simp only [LogAt.foot, List.mem_cons, Option.mem_toList] at hk
  rcases hk with rfl | hk
  · exact lt_of_block h.blk
  · exact (h.own.lt k hk).2
/-- A field set. -/
theorem IsLog.set (h : IsLog w q B pd first n L) (i : Nat) (u : Value) (L' : LogP) (hc : (logCells pd first n L q.v).setIfInBounds i u = logCells pd first n L' q.v) (hr : L'.s.recs = L.s.recs) :
    IsLog (w.setCell ⟨q.b, i, none⟩ u) q B pd first n L' ∧ Mods [q.b] w (w.setCell ⟨q.b, i, none⟩ u) := by
  have M := (Mods.refl (S := [q.b]) (w := w)).setCell (p := ⟨q.b, i, none⟩) (.inl (by simp)) u
  refine ⟨⟨hc ▸ heap_setCell (i := i) (v := u) h.blk, ?_, h.lt⟩, M⟩
  rw [hr]
  exact h.own.mods M (fun k hk hm => by have := (h.own.lt k hk).1; have := h.lt; simp at hm; omega)
end
/-- The events of a sector's first k slots, off the sector's own bytes. -/
def evL (f : Nat → Nat) : Nat → List Evt
  | 0 => []
  | k + 1 => evL f k ++ (evAt f (11 + 17 * k)).toList
def usedL (f : Nat → Nat) (u0 : Nat) : Nat → Nat
  | 0 => u0
  | k + 1 => if freeAt f (11 + 17 * k) then usedL f u0 k else k + 1
def nextL (f : Nat → Nat) (id : Nat) : Nat → Nat
  | 0 => id
  | k + 1 => match evAt f (11 + 17 * k) with | some e => behindN e.id.val | none => nextL f id k
def loadS (S : LogS) (H : Hd) (f : Nat → Nat) (k : Nat) : LogS :=
  ⟨S.newest, S.tail, if H.q = S.newest then usedL f S.used k else S.used, if H.q = S.newest then nextL f H.id k else S.next, S.recs ++ (evL f k).map fun e => (H.q, e)⟩
theorem usedL_le (f : Nat → Nat) (u0 : Nat) : ∀ k, usedL f u0 k ≤ max u0 k
  | 0 => by unfold usedL; omega
  | k + 1 => by
    have := usedL_le f u0 k
    simp only [usedL]
    split <;> omega
theorem evL_len (f : Nat → Nat) : ∀ k, (evL f k).length ≤ k
  | 0 => by simp [evL]
  | k + 1 => by
    have := evL_len f k
    simp only [evL, List.length_append]
    cases evAt f (11 + 17 * k) <;> simp <;> omega
/-- A piece of bytes. -/
def subA (A : List Int) (a m : Nat) : List Int := (A.drop a).take m
section
variable {A : List Int} {a m : Nat}
theorem subA_len (h : a + m ≤ A.length) : (subA A a m).length = m := by simp [subA]; omega
theorem subA_get {i : Nat} (h : i < m) : (subA A a m).getD i 0 = A.getD (a + i) 0 := by
  simp [subA, List.getD_eq_getElem?_getD, List.getElem?_take, h, List.getElem?_drop]
theorem subA_bytes (h : Bytes A) : Bytes (subA A a m) := fun i => by
  by_cases hi : i < m
  · rw [subA_get hi]; exact h _
  · rw [List.getD_eq_getElem?_getD, List.getElem?_eq_none (by simp [subA]; omega)]; simp
theorem rd_sub {W : World} {bb off cap : Nat} (hx : ∀ i, i < A.length → W.cell? ⟨bb, off + i, none⟩ = some (.int .u8 (A.getD i 0))) (h : a + m ≤ A.length) (hc : m ≤ cap) (hM : cap ≤ 9223372036854775807) :
    Rd W (.slice (some ⟨bb, off + a, none⟩) m cap) (u8s (subA A a m)) := by
  refine ⟨_, cap, by rw [u8s_length, subA_len h], by rw [u8s_length, subA_len h]; exact hc, hM, fun i hi => ?_⟩
  rw [u8s_length, subA_len h] at hi
  exact ⟨bb, off + a, rfl, by rw [Nat.add_assoc, hx _ (by omega), u8s_getD _ _ (by rw [subA_len h]; exact hi), subA_get hi]⟩
theorem blank_sub (hb : Bytes A) (h : a + 17 ≤ A.length) : blankL (subA A a 17) = freeAt (fun i => (A.getD i 0).toNat) a := by
  rw [Bool.eq_iff_iff]
  unfold blankL freeAt
  rw [List.all_eq_true, List.all_eq_true]
  constructor
  · intro hx i hi
    have hi := List.mem_range.1 hi
    have h0 : (subA A a 17).getD i 0 ∈ subA A a 17 := by
      rw [List.getD_eq_getElem?_getD, List.getElem?_eq_getElem (by rw [subA_len h]; exact hi)]; simp
    have := hx _ h0
    rw [subA_get hi] at this
    have := of_decide_eq_true this
    exact decide_eq_true (show (A.getD (a + i) 0).toNat = 255 by omega)
  · intro hx y hy
    obtain ⟨i, hi, rfl⟩ := List.mem_iff_getElem.1 hy
    have hi' : i < 17 := by rw [subA_len h] at hi; exact hi
    have h255 : (A.getD (a + i) 0).toNat = 255 := of_decide_eq_true (hx i (List.mem_range.2 hi'))
    have hg := subA_get (A := A) (a := a) hi'
    rw [List.getD_eq_getElem?_getD, List.getElem?_eq_getElem hi] at hg
    have := hb (a + i)
    exact decide_eq_true (by simp only [Option.getD_some] at hg; omega)
end
theorem decEv_ext {c d : Nat → Nat} (h : ∀ i, i < 16 → c i = d i) : decEv c = decEv d := by
  unfold decEv rawEv
  simp only [h 0 (by omega), h 1 (by omega), h 2 (by omega), h 3 (by omega), h 4 (by omega), h 5 (by omega), h 6 (by omega), h 7 (by omega), h 8 (by omega), h 9 (by omega), h 10 (by omega), h 11 (by omega), h 12 (by omega), h 13 (by omega), h 14 (by omega), h 15 (by omega)]
theorem evAt_dec {f : Nat → Nat} {a : Nat} {A : List Int} (hf : f = fun i => (A.getD i 0).toNat) {x : Evt} {er : Int} (hd : decEv (fun i => ((subA A a 16).getD i 0).toNat) = if er = 0 then some x else none) :
    evAt f a = if f (a + 16) = 0 ∧ er = 0 ∧ x.id.val ≠ 0 then some x else none := by
  have h1 : decEv (fun i => f (a + i)) = if er = 0 then some x else none := by
    rw [← hd, hf]
    exact decEv_ext fun i hi => by rw [subA_get hi]
  unfold evAt
  rw [h1]
  by_cases h2 : f (a + 16) = 0 <;> by_cases h3 : er = 0 <;> by_cases h4 : x.id.val = 0 <;> simp [h2, h3, h4]
def LoadPost (w : World) (q : LogAt) (B : Nat) (pd : Value) (first n : Nat) (L : LogP) (H : Hd) (f : Nat → Nat) (k : Nat) (w' : World) : Prop :=
  ∃ v', IsLog w' ⟨q.b, v'⟩ B pd first n { L with s := loadS L.s H f k } ∧ Mods q.foot w w' ∧ ∀ x, v'.ownBlock = some x → q.v.ownBlock = some x ∨ w.heap.size ≤ x
set_option maxRecDepth 100000 in
set_option maxHeartbeats 8000000 in
theorem load_ok (w : World) (q : LogAt) (B : Nat) (pd : Value) (first n : Nat) (L : LogP) (hL : IsLog w q B pd first n L) (hB : B ≤ w.heap.size) (hnum : L.s.newest ≤ 2147483648 ∧ L.s.recs.length ≤ 100000 ∧ L.s.used ≤ 1000)
    (v : Value) (A : List Int) (hv : Rd w v (u8s A)) (hb : Bytes A) (hl1 : 64 ≤ A.length) (hl2 : A.length ≤ 1024) (hne : ∀ k, v.ownBlock = some k → k ∉ q.foot) (H : Hd) (hq : H.q ≤ 2147483648) (hid : 1 ≤ H.id ∧ H.id ≤ 65534) :
    Calls Try.prog 50 #[.pointer (some ⟨q.b, 0, none⟩), v, .agg (hdCells H)] w fun e w' =>
      e = .returned (.tuple #[]) ∧ LoadPost w q B pd first n L H (fun i => (A.getD i 0).toNat) ((A.length - 11) / 17) w' := by
  obtain ⟨ad, cap, rfl, h1, h2, hc⟩ := hv.u8
  have h2 : cap ≤ 9223372036854775807 := h2
  obtain ⟨bb, off, rfl, x0⟩ := hc 0 (by omega)
  have hx : ∀ i, i < A.length → w.cell? ⟨bb, off + i, none⟩ = some (.int .u8 (A.getD i 0)) := fun i hi => by
    obtain ⟨b', o', he, hx⟩ := hc i hi
    cases he
    exact hx
  have hbb := hne bb rfl
  have hbw : bb < w.heap.size := by
    have := hx 0 (by omega)
    exact World.block_lt_of_cell? w _ this
  have HX := Lib.hid hx
  have HBy := Lib.hid hb
  have HFR := Lib.hid (fun a (h : a + 17 ≤ A.length) => blank_sub hb h)
  generalize hF : (fun i => (A.getD i 0).toNat) = f at HFR ⊢
  have HFA := Lib.hid (fun i => show A.getD i 0 = ((f i : Nat) : Int) by rw [← hF]; have := hb i; simp only; omega)
  have HF := Lib.hid hF.symm
  have HL := Lib.hid hL
  have M0 := Lib.hid ((Mods.refl (S := []) (w := w)).alloc (.cells (hdCells H) 92))
  have B0 := Lib.hid (heap_alloc_new w (.cells (hdCells H) 92))
  obtain ⟨hn1, hn2, hn3⟩ := hnum
  obtain ⟨hi1, hi2⟩ := hid
  have HNE := Lib.hid hbb
  obtain ⟨K, hK⟩ : ∃ K, K = (A.length - 11) / 17 := ⟨_, rfl⟩
  have hK1 : 11 + 17 * K ≤ A.length := by omega
  have HSL := Lib.hid (fun w => slots_ok w A.length hl1 hl2)
  rw [← hK] at HSL ⊢
  obtain ⟨lst, hlst⟩ : ∃ b, b = decide (H.q = L.s.newest) := ⟨_, rfl⟩
  have HLST := Lib.hid hlst
  have hlb : (((H.q : Nat) : Int) == ((L.s.newest : Nat) : Int)) = lst := by rw [hlst, Bool.eq_iff_iff, beq_iff_eq, decide_eq_true_eq]; omega
  clear hx hc hv hb hL hK x0 hbb hne hlst hF
  go_enter Try.func50, Try.ntmps50
  go_upto_region 1 with (fail)
  generalize w.alloc (.cells (hdCells H) 92) = w0 at B0 M0 ⊢
  generalize hg5 : w.heap.size = g5 at B0 ⊢
  have HL0 := Lib.hid (HL.out.mods0 M0.out)
  have HG5 := Lib.hid (show g5 ∉ q.foot from fun h => by have := HL.out.footlt _ h; omega)
  have HX0 := Lib.hid (fun i (hi : i < A.length) => M0.out.cell (HX.out i hi) (by simp))
  have hbw0 : bb < w0.heap.size := by have := M0.out.size; omega
  have hz0 := M0.out.size
  have hB0 : B ≤ w0.heap.size := by omega
  have hg5w := lt_of_block B0.out
  have HG5E := Lib.hid hg5
  clear hg5 hbw
  have c0 := (cell_blk B0.out 0).trans (show _ = some (Value.int .i64 (H.q : Nat)) from rfl)
  have c4 := (HL0.out.c 4).trans (show _ = some (Value.int .i64 (L.s.newest : Nat)) from rfl)
  go_wp2_with fail
  go_quiet (fail)
  clear c0 c4
  have HLD := Lib.hid (HL0.out.mods0 (Mods.refl.drewN nq))
  have HMD := Lib.hid ((Mods.refl (S := []) (w := w0)).drewN nq)
  have HBD := Lib.hid (HMD.out.heap B0.out (by simp))
  generalize w0.drewN nq = w1 at HLD HMD HBD ⊢
  go_upto_if 18 with (fail)
  go_cut [] (fun wx => LoadPost w0 q B pd first n L H f 0 wx)
  case first =>
    have c2 := (cell_blk HBD.out 2).trans (show _ = some (Value.int .u16 (H.id : Nat)) from rfl)
    have c7 := (HLD.out.c 7).trans (show _ = some (Value.int .u16 (L.s.next : Nat)) from rfl)
    have ff := HLD.out.f
    cases lst with
    | false =>
      go_wp2_with fail
      go_meet
      have hne : ¬ H.q = L.s.newest := of_decide_eq_false HLST.out.symm
      exact ⟨q.v, by have h := HLD.out; simpa [loadS, hne, evL] using h, HMD.out.nil, fun x hx => .inl hx⟩
    | true =>
      have heq : H.q = L.s.newest := of_decide_eq_true HLST.out.symm
      have HS := Lib.hid (HLD.out.set 7 (.int .u16 (H.id : Nat)) { L with s := { L.s with next := H.id } } rfl rfl)
      go_wp2_with fail
      go_meet
      exact ⟨q.v, by have h := HS.out.1; simpa [loadS, heq, evL, nextL, usedL] using h, HMD.out.nil.comp HS.out.2 (fun k hk => .inl (by simp at hk; subst hk; simp [LogAt.foot])), fun x hx => .inl hx⟩
  case rest =>
    have HST := Lib.hid hcut
    clear hcut HLD HMD HBD
    generalize wc = w2 at HST ⊢
    go_wp2_with fail
    refine (HSL.out _).mono ?_
    rintro e w' ⟨rfl, rfl⟩
    go_wp2_with fail
    have HLU : Hid True := Lib.hid trivial
    go_loopw [27] (fun i wx => ∃ k : Nat, k ≤ K ∧ i = .int .i64 k ∧ LoadPost w0 q B pd first n L H f k wx) (fun i _ => K - (intOf i).toNat)
    case atStart => exact ⟨0, Nat.zero_le _, rfl, HST.out⟩
    clear HST
    case round =>
      obtain ⟨k, hk, rfl, v', hLk, hMk, hvk⟩ := hrel
      have HLk := Lib.hid hLk
      have HMk := Lib.hid hMk
      have HVk := Lib.hid hvk
      have i0 : (0 : Int) ≤ (k : Int) := by omega
      clear hLk hMk hvk
      by_cases hlt : k < K
      · have i1 : (k : Int) < (K : Int) := by omega
        have HSO := Lib.hid (fun W => slot_ok W (some ⟨bb, off, none⟩) A.length cap k (by omega) h1 hl2 bb off rfl)
        go_wp2_with fail
        refine (HSO.out _).mono ?_
        rintro e w' ⟨rfl, rfl⟩
        go_upto_region 8 with (fail)
        have hk17 : 11 + 17 * k + 17 ≤ A.length := by omega
        have HXm := Lib.hid (fun W (h : Mods q.foot w0 W) i (hi : i < A.length) => h.cell (HX0.out i hi) HNE.out)
        have HBL := Lib.hid (fun W (h : Mods [] wr W) => blank_ok W _ _ (rd_sub (a := 11 + 17 * k) (m := 17) (cap := cap - (11 + 17 * k)) (HXm.out W (HMk.out.comp0 h)) hk17 (by omega) (by omega)))
        go_cut [38] (fun u wx => u = .bool (lst && !freeAt f (11 + 17 * k)) ∧ Mods [] wr wx)
        case first =>
          cases lst with
          | false =>
            go_wp2_with fail
            go_meet
            exact ⟨by rfl, Mods.refl⟩
          | true =>
            go_wp2_with fail
            refine (HBL.out _ Mods.refl).mono ?_
            rintro e w' ⟨rfl, M⟩
            rw [HFR.out _ hk17]
            go_wp2_with fail
            go_meet
            exact ⟨by rfl, M⟩
        case rest =>
          obtain ⟨rfl, MC⟩ := hcut
          have HLC := Lib.hid (HLk.out.mods0 MC)
          have HMC := Lib.hid (HMk.out.comp0 MC)
          clear HLk HMk MC
          go_upto_if 38 with (fail)
          go_cut [] (fun wx => IsLog wx ⟨q.b, v'⟩ B pd first n { L with s := { loadS L.s H f k with used := (loadS L.s H f (k + 1)).used } } ∧ Mods q.foot w0 wx)
          case first =>
            have c6 := (HLC.out.c 6).trans (show _ = some (Value.int .i64 ((loadS L.s H f k).used : Nat)) from rfl)
            have ff := HLC.out.f
            obtain ⟨bt, hbt⟩ : ∃ bt, bt = (lst && !freeAt f (11 + 17 * k)) := ⟨_, rfl⟩
            have HBT := Lib.hid hbt
            rw [← hbt]
            clear hbt
            cases bt with
            | false =>
              go_wp2_with fail
              go_meet
              refine ⟨?_, HMC.out⟩
              have hu : (loadS L.s H f (k + 1)).used = (loadS L.s H f k).used := by
                have h := HBT.out
                rw [HLST.out] at h
                by_cases h1 : H.q = L.s.newest <;> by_cases h2 : freeAt f (11 + 17 * k) = true <;> simp [loadS, usedL, h1, h2] at h ⊢
              rw [hu]
              exact HLC.out
            | true =>
              have hu : (loadS L.s H f (k + 1)).used = k + 1 := by
                have h := HBT.out
                rw [HLST.out] at h
                by_cases h1 : H.q = L.s.newest <;> by_cases h2 : freeAt f (11 + 17 * k) = true <;> simp [loadS, usedL, h1, h2] at h ⊢
              have HS := Lib.hid (HLC.out.set 6 (.int .i64 ((k : Nat) + 1)) { L with s := { loadS L.s H f k with used := (loadS L.s H f (k + 1)).used } } (by rw [hu]; rfl) rfl)
              clear hu
              go_wp2_with fail
              go_meet
              exact ⟨HS.out.1, HMC.out.comp HS.out.2 (fun y hy => .inl (by simp at hy; subst hy; simp [LogAt.foot]))⟩
          case rest =>
            obtain ⟨hLu, hMu⟩ := hcut
            have HLV := Lib.hid hLu
            have HMV := Lib.hid hMu
            clear hLu hMu HLC HMC
            go_upto_region 10 with (fail)
            generalize wc = w3 at HLV HMV ⊢
            have HD := Lib.hid (evDecode_ok w3 _ _ (rd_sub (a := 11 + 17 * k) (m := 16) (cap := cap - (11 + 17 * k)) (HXm.out w3 HMV.out) (by omega) (by omega) (by omega)) (subA_bytes HBy.out) (subA_len (by omega)))
            go_wp2_with fail
            refine HD.out.mono ?_
            rintro e w' ⟨x, er, rfl, hdx, MD⟩
            have hev := evAt_dec HF.out hdx
            have HEV := Lib.hid hev
            have HMD := Lib.hid MD
            clear hdx hev MD HD
            go_upto_region 11 with (refine wpList_store_row (cs := x.cells.toArray) rfl 37 (.tmp 9) (.tmp 48) rfl (heap_alloc_new _ _) (by rfl) (by rfl) (by rfl) Try.sizeEv (Evt.one x) ?_; intro w4 R4 M4; have HF4 := Lib.hid (freshA M4); have HR4 := Lib.hid (show EvBox w4 _ x from R4); clear R4 M4)
            generalize hg9 : w'.heap.size = g9 at HR4 ⊢
            have HV9 := Lib.hid (show ∀ y, v'.ownBlock = some y → y ≠ q.b ∧ y ≠ g5 ∧ y ≠ g9 from fun y hy => by
              have h1 := HLV.out.own.lt y hy
              have h2 := HLV.out.lt
              have h3 := HMD.out.size
              have h4 := HVk.out y hy
              have h5 : q.v.ownBlock = some g5 → False := fun h => HG5.out (by simp [LogAt.foot, h])
              refine ⟨fun e => ?_, fun e => ?_, by omega⟩
              · simp only at h2; omega
              · subst e
                rcases h4 with h | h
                · exact h5 h
                · omega)
            have HG9 := Lib.hid (show w0.heap.size ≤ g9 by have := HMV.out.size; have := HMD.out.size; omega)
            have MW := Lib.hid ((HMV.out.comp0 HMD.out).comp0 HF4.out)
            have HLW := Lib.hid ((HLV.out.mods0 HMD.out).mods0 HF4.out)
            clear hg9 HLV HMV HMD HF4
            obtain ⟨ok, hok⟩ : ∃ b, b = decide (f (11 + 17 * k + 16) = 0 ∧ er = 0 ∧ x.id.val ≠ 0) := ⟨_, rfl⟩
            have HOK := Lib.hid hok
            clear hok
            go_cut [62] (fun u wx => u = .bool (!ok) ∧ Mods [] w4 wx)
            case first =>
              have c16 : w4.cell? ⟨bb, off + (11 + 17 * k) + 16, none⟩ = some (.int .u8 ((f (11 + 17 * k + 16) : Nat) : Int)) := by
                rw [Nat.add_assoc, HXm.out w4 MW.out _ (by omega), HFA.out]
              have cid := HR4.out.cs.1
              by_cases a1 : f (11 + 17 * k + 16) = 0
              · replace c16 := c16.trans (show _ = some (Value.int .u8 0) by rw [a1]; rfl)
                by_cases a2 : er = 0
                · by_cases a3 : x.id.val = 0
                  · replace cid := cid.trans (show _ = some (Value.int .u16 0) by rw [a3]; rfl)
                    have HA3 := Lib.hid a3
                    have HA1 := Lib.hid a1
                    clear a1 a3
                    go_wp2_with fail
                    go_meet
                    exact ⟨by rw [HOK.out]; simp [HA1.out, a2, HA3.out], Mods.refl⟩
                  · have a3' : ¬ ((x.id.val : Nat) : Int) = 0 := by omega
                    have HA1 := Lib.hid a1
                    clear a1
                    go_wp2_with fail
                    go_meet
                    exact ⟨by rw [HOK.out]; simp [HA1.out, a2, a3], Mods.refl⟩
                · have HA1 := Lib.hid a1
                  clear a1
                  go_wp2_with fail
                  go_meet
                  exact ⟨by rw [HOK.out]; simp [HA1.out, a2], Mods.refl⟩
              · have a1' : ¬ ((f (11 + 17 * k + 16) : Nat) : Int) = 0 := by omega
                go_wp2_with fail
                go_meet
                exact ⟨by rw [HOK.out]; simp [a1], Mods.refl⟩
            case rest =>
              obtain ⟨rfl, MN⟩ := hcut
              generalize wc = w5 at MN ⊢
              have HLN := Lib.hid (HLW.out.mods0 MN)
              have HMN := Lib.hid (MW.out.comp0 MN)
              have HRN := Lib.hid (HR4.out.mods0 MN)
              clear MN HLW MW HR4
              have HEV2 := Lib.hid (show evAt f (11 + 17 * k) = if ok = true then some x else none by rw [HEV.out, HOK.out]; simp)
              clear HEV HOK
              cases ok with
              | false =>
                have HL1 := Lib.hid (show loadS L.s H f (k + 1) = { loadS L.s H f k with used := (loadS L.s H f (k + 1)).used } by have h := HEV2.out; simp at h; simp [loadS, evL, nextL, h])
                go_wp2_with fail
                go_roundw
                case rel => exact ⟨k + 1, by omega, by go_num, v', by rw [HL1.out]; exact HLN.out, HMN.out, HVk.out⟩
                case measure => simp [intOf]; omega
              | true =>
                go_upto_region 12 with (fail)
                have B5 := Lib.hid (HMN.out.heap B0.out HG5.out)
                have HLE := Lib.hid (show (loadS L.s H f k).recs.length + 1 ≤ 1000000 by
                  have := evL_len f k
                  simp only [loadS, List.length_append, List.length_map]
                  omega)
                have HQ9 := Lib.hid (show ¬ g9 = q.b by have := HG9.out; have h := HLN.out.lt; simp only at h; omega)
                have HQV := Lib.hid (show q.b ∉ v'.ownBlock.toList from fun h => (HV9.out _ (by simpa using h)).1 rfl)
                have H9V := Lib.hid (show g9 ∉ v'.ownBlock.toList from fun h => (HV9.out _ (by simpa using h)).2.2 rfl)
                have hB5 : B ≤ w5.heap.size := by have := HMN.out.size; omega
                go_cut [] (fun wx => ∃ VB, IsLog wx ⟨q.b, VB⟩ B pd first n { L with s := { loadS L.s H f k with used := (loadS L.s H f (k + 1)).used, recs := (loadS L.s H f k).recs ++ [(H.q, x)] } } ∧ Mods q.foot w0 wx ∧ (∀ y, VB.ownBlock = some y → q.v.ownBlock = some y ∨ w0.heap.size ≤ y) ∧ EvBox wx g9 x)
                case first =>
                  refine heldStart (S := fun W => Mods (q.b :: v'.ownBlock.toList) w5 W) 14 rfl (by kernel_rfl) Mods.refl.drew (fun hHeld => ?_)
                  refine takeD (i := 0) (d := 63) (v := ?_) rfl rfl (by kernel_rfl) (by kernel_rfl) (by kernel_rfl) (fun _ _ _ h => h) (Or.inl ⟨by rfl, ?_⟩) hHeld ?_
                  rotate_left 1
                  · (intro w hSw; (try dsimp only at hSw); go_simp; (try with_reducible rfl))
                  simp only [List.setIfInBounds_toArray, List.set_cons_zero, List.set_cons_succ]
                  refine takeD (i := 1) (d := 64) (v := ?_) rfl rfl (by kernel_rfl) (by kernel_rfl) (by kernel_rfl) (fun _ _ _ h => h) (Or.inl ⟨by rfl, ?_⟩) hHeld ?_
                  rotate_left 1
                  · (intro w hSw; (try dsimp only at hSw); go_simp; (try with_reducible rfl))
                  simp only [List.setIfInBounds_toArray, List.set_cons_zero, List.set_cons_succ]
                  refine takeD (i := 2) (d := 65) (v := ?_) rfl rfl (by kernel_rfl) (by kernel_rfl) (by kernel_rfl) (fun _ _ _ h => h) (Or.inl ⟨by rfl, ?_⟩) hHeld ?_
                  rotate_left 1
                  · (intro w hSw; (try dsimp only at hSw); go_simp; (try with_reducible rfl))
                  simp only [List.setIfInBounds_toArray, List.set_cons_zero, List.set_cons_succ]
                  refine takeD (i := 3) (d := 66) (v := ?_) rfl rfl (by kernel_rfl) (by kernel_rfl) (by kernel_rfl) (fun _ _ _ h => h) (Or.inl ⟨by rfl, ?_⟩) hHeld ?_
                  rotate_left 1
                  · (intro w hSw; (try dsimp only at hSw); go_simp; (try with_reducible rfl))
                  simp only [List.setIfInBounds_toArray, List.set_cons_zero, List.set_cons_succ]
                  refine takeD (i := 5) (d := 68) (v := ?_) rfl rfl (by kernel_rfl) (by kernel_rfl) (by kernel_rfl) (fun _ _ _ h => h) (Or.inl ⟨by rfl, ?_⟩) hHeld ?_
                  rotate_left 1
                  · (intro w hSw; (try dsimp only at hSw); go_simp; (try with_reducible rfl))
                  simp only [List.setIfInBounds_toArray, List.set_cons_zero, List.set_cons_succ]
                  refine takeD (i := 6) (d := 69) (v := (.int .i64 (H.q:Nat))) rfl rfl (by kernel_rfl) (by kernel_rfl) (by kernel_rfl) (fun _ _ _ h => h) (Or.inl ⟨by rfl, fun w hSw => ?_⟩) hHeld ?_
                  · have cst := (cell_blk (hSw.heap B5.out (fun h=>by simp at h; rcases h with h|h; (exact HG5.out (by simp [LogAt.foot, h])); (exact (HV9.out _ h).2.1 rfl))) 0).trans (show _ = some (.int .i64 (H.q:Nat)) from rfl)
                    go_simp
                  simp only [List.setIfInBounds_toArray, List.set_cons_zero, List.set_cons_succ]
                  refine takeD (i := 7) (d := 70) (v := .agg #[.int .u16 ((x.id.val : Nat) : Int), .int .u32 ((x.time.val : Nat) : Int), .int .u16 ((x.gen.val : Nat) : Int), .int .u8 ((x.st.val : Nat) : Int), .int .u8 ((x.sen.val : Nat) : Int), .int .u8 ((x.typ.val : Nat) : Int), .bool x.de, .int .u8 ((x.d0.val : Nat) : Int), .int .u8 ((x.d1.val : Nat) : Int), .int .u8 ((x.d2.val : Nat) : Int)]) rfl rfl (by kernel_rfl) (by kernel_rfl) (by kernel_rfl) (fun _ _ _ h => h) (yieldsIf_load_row rfl 37 (.tmp 9) rfl g9 rfl 37 x.cells.toArray (0, 0) _ (fun w h => HRN.out.mods h (fun h => by
                    simp at h
                    rcases h with h | h
                    · exact HQ9.out h
                    · exact (HV9.out _ h).2.2 rfl)) Try.underlying37 rfl Try.sizeEv) hHeld ?_
                  simp only [List.setIfInBounds_toArray, List.set_cons_zero, List.set_cons_succ]
                  refine takeD (i := 8) (d := 71) (v := .agg #[.int .i64 ((H.q : Nat) : Int), .int .u16 ((x.id.val : Nat) : Int), .int .u32 ((x.time.val : Nat) : Int), .int .u16 ((x.gen.val : Nat) : Int), .int .u8 ((x.st.val : Nat) : Int), .int .u8 ((x.sen.val : Nat) : Int), .int .u8 ((x.typ.val : Nat) : Int), .bool x.de, .int .u8 ((x.d0.val : Nat) : Int), .int .u8 ((x.d1.val : Nat) : Int), .int .u8 ((x.d2.val : Nat) : Int)]) rfl rfl (by kernel_rfl) (by kernel_rfl) (by kernel_rfl) (fun _ _ _ h => h) (Or.inl ⟨by rfl, ?_⟩) hHeld ?_
                  · intro w hSw
                    (try dsimp only at hSw)
                    go_simp
                    try rfl
                  simp only [List.setIfInBounds_toArray, List.set_cons_zero, List.set_cons_succ]
                  refine wpAnyH_ready (rs := [4, 9]) (by kernel_rfl) (by simp) ?_
                  refine AllReadyH.cons rfl (fun K4 hK => ?_) (AllReadyH.cons rfl (fun K4 hK => ?_) AllReadyH.nil)
                  · have c8 : w5.drew.cell? ⟨q.b, 8, none⟩ = some v' := (HLN.out.c 8).trans (show _ = some v' from rfl)
                    go_simp
                    refine hK.out _ _ hHeld (fun hHeld => ?_)
                    clear hK K4 c8
                    refine wpAnyH_ready (rs := [9]) (by kernel_rfl) (by simp) ?_
                    refine AllReadyH.cons rfl (fun K4 hK => ?_) AllReadyH.nil
                    go_simp
                    have HMA := Lib.hid (show Mods [] w5 (w5.alloc (.cells #[.int .i64 ((H.q : Nat) : Int), .int .u16 ((x.id.val : Nat) : Int), .int .u32 ((x.time.val : Nat) : Int), .int .u16 ((x.gen.val : Nat) : Int), .int .u8 ((x.st.val : Nat) : Int), .int .u8 ((x.sen.val : Nat) : Int), .int .u8 ((x.typ.val : Nat) : Int), .bool x.de, .int .u8 ((x.d0.val : Nat) : Int), .int .u8 ((x.d1.val : Nat) : Int), .int .u8 ((x.d2.val : Nat) : Int)] 101)).drew from (Mods.refl.alloc _).drew)
                    have HBA := Lib.hid (show ((w5.alloc (.cells #[.int .i64 ((H.q : Nat) : Int), .int .u16 ((x.id.val : Nat) : Int), .int .u32 ((x.time.val : Nat) : Int), .int .u16 ((x.gen.val : Nat) : Int), .int .u8 ((x.st.val : Nat) : Int), .int .u8 ((x.sen.val : Nat) : Int), .int .u8 ((x.typ.val : Nat) : Int), .bool x.de, .int .u8 ((x.d0.val : Nat) : Int), .int .u8 ((x.d1.val : Nat) : Int), .int .u8 ((x.d2.val : Nat) : Int)] 101)).drew).heap[w5.heap.size]? = some (Obj.cells #[.int .i64 ((H.q : Nat) : Int), .int .u16 ((x.id.val : Nat) : Int), .int .u32 ((x.time.val : Nat) : Int), .int .u16 ((x.gen.val : Nat) : Int), .int .u8 ((x.st.val : Nat) : Int), .int .u8 ((x.sen.val : Nat) : Int), .int .u8 ((x.typ.val : Nat) : Int), .bool x.de, .int .u8 ((x.d0.val : Nat) : Int), .int .u8 ((x.d1.val : Nat) : Int), .int .u8 ((x.d2.val : Nat) : Int)] 101 (0, 0)) from heap_alloc_new w5 _)
                    generalize (w5.alloc (.cells #[.int .i64 ((H.q : Nat) : Int), .int .u16 ((x.id.val : Nat) : Int), .int .u32 ((x.time.val : Nat) : Int), .int .u16 ((x.gen.val : Nat) : Int), .int .u8 ((x.st.val : Nat) : Int), .int .u8 ((x.sen.val : Nat) : Int), .int .u8 ((x.typ.val : Nat) : Int), .bool x.de, .int .u8 ((x.d0.val : Nat) : Int), .int .u8 ((x.d1.val : Nat) : Int), .int .u8 ((x.d2.val : Nat) : Int)] 101)).drew = w6 at HMA HBA ⊢
                    generalize w5.heap.size = g72 at HBA ⊢
                    have hB6 : B ≤ w6.heap.size := by have := HMA.out.size; omega
                    refine hK.out _ _ HMA.out.nil (fun hHeld => ?_)
                    clear hK K4
                    refine wpAnyH_ready (rs := [10]) (by kernel_rfl) (by simp) ?_
                    refine AllReadyH.cons rfl (fun K4 hK => ?_) AllReadyH.nil
                    refine step_appAt recOk (by rfl) 73 rfl (.tmp 67) (.tmp 72) rfl (by rfl) (HLN.out.own.mods0 HMA.out) (by rfl) (RdE.one (a := ((H.q, x) : Nat × Evt)) HBA.out rfl) (by simp) (by simpa using HLE.out) hB6 (fun VB WB OB MB HVB => ?_)
                    obtain ⟨gV, cV, hVB, _, _, _, _⟩ := OB.form (by simp)
                    obtain ⟨nV, hnV⟩ : ∃ n, n = ((loadS L.s H f k).recs ++ [(H.q, x)]).length := ⟨_, rfl⟩
                    replace hVB := hVB.trans (show _ = Value.slice (some ⟨gV, 0, none⟩) nV cV by rw [hnV])
                    subst hVB
                    clear hnV
                    have HOB := Lib.hid OB
                    have HMB := Lib.hid (HMA.out.nil.trans MB)
                    have hz6 := HMA.out.size
                    have HVC := Lib.hid (show ∀ y, (Value.slice (some ⟨gV, 0, none⟩) nV cV).ownBlock = some y → q.v.ownBlock = some y ∨ w0.heap.size ≤ y from fun y hy => by
                      have h5 := HMN.out.size
                      rcases HVB y hy with h | h
                      · exact HVk.out y h
                      · exact .inr (by omega))
                    clear OB MB HVB
                    refine hK.out _ _ (HMB.out.mono (fun y hy => .inl (List.mem_cons_of_mem _ hy))) (fun hHeld => ?_)
                    clear hK K4
                    simp only [List.setIfInBounds_toArray, List.set_cons_zero, List.set_cons_succ]
                    refine takeD (i := 11) (d := 74) (v := ?_) rfl rfl (by kernel_rfl) (by kernel_rfl) (by kernel_rfl) (fun _ _ _ h => h) (Or.inl ⟨by rfl, ?_⟩) hHeld ?_
                    rotate_left 1
                    · (intro w hSw; (try dsimp only at hSw); go_simp; (try with_reducible rfl))
                    simp only [List.setIfInBounds_toArray, List.set_cons_zero, List.set_cons_succ]
                    refine takeD (i := 12) (d := 75) (v := ?_) rfl rfl (by kernel_rfl) (by kernel_rfl) (by kernel_rfl) (fun _ _ _ h => h) (Or.inl ⟨by rfl, ?_⟩) hHeld ?_
                    rotate_left 1
                    · (intro w hSw; (try dsimp only at hSw); go_simp; (try with_reducible rfl))
                    simp only [List.setIfInBounds_toArray, List.set_cons_zero, List.set_cons_succ]
                    refine wpAnyH_ready (rs := [13]) (by kernel_rfl) (by simp) ?_
                    refine AllReadyH.cons rfl (fun K4 hK => ?_) AllReadyH.nil
                    have RB := HMB.out.heap HLN.out.blk HQV.out
                    have cB := (cell_blk RB 8).trans (show _ = some v' from rfl)
                    have fB := froz_blk RB 8
                    have HRS := Lib.hid (heap_setCell (i := 8) (v := .slice (some ⟨gV, 0, none⟩) nV cV) RB)
                    have HMS := Lib.hid ((HMB.out.mono (fun y hy => .inl (List.mem_cons_of_mem _ hy)) : Mods (q.b :: v'.ownBlock.toList) w5 WB).setCell (p := ⟨q.b, 8, none⟩) (.inl (by simp)) (.slice (some ⟨gV, 0, none⟩) nV cV))
                    have HOS := Lib.hid (HOB.out.mods ((Mods.refl (S := [q.b])).setCell (p := ⟨q.b, 8, none⟩) (.inl (by simp)) (.slice (some ⟨gV, 0, none⟩) nV cV)) (fun y hy hm => by
                      have h1 := (HOB.out.lt y hy).1
                      have h2 := HLN.out.lt
                      simp only [List.mem_singleton] at hm h2
                      omega))
                    clear RB
                    go_simp
                    refine hK.out _ _ HMS.out (fun hHeld => ?_)
                    clear hK K4
                    refine wpAnyH_done (by kernel_rfl) ?_ _
                    go_wp2_with fail
                    go_meet
                    refine ⟨.slice (some ⟨gV, 0, none⟩) nV cV, ⟨HRS.out, HOS.out, HLN.out.lt⟩, ?_, HVC.out, HRN.out.mods HMS.out (by simpa using ⟨HQ9.out, fun h => (HV9.out _ h).2.2 rfl⟩)⟩
                    refine HMN.out.comp HMS.out (fun y hy => ?_)
                    rcases List.mem_cons.1 hy with rfl | hy
                    · exact .inl (by simp [LogAt.foot])
                    · rcases HVk.out y (by simpa using hy) with h | h
                      · exact .inl (by simp [LogAt.foot, h])
                      · exact .inr h
                  · go_simp
                    have HMA := Lib.hid (show Mods [] w5 (w5.alloc (.cells #[.int .i64 ((H.q : Nat) : Int), .int .u16 ((x.id.val : Nat) : Int), .int .u32 ((x.time.val : Nat) : Int), .int .u16 ((x.gen.val : Nat) : Int), .int .u8 ((x.st.val : Nat) : Int), .int .u8 ((x.sen.val : Nat) : Int), .int .u8 ((x.typ.val : Nat) : Int), .bool x.de, .int .u8 ((x.d0.val : Nat) : Int), .int .u8 ((x.d1.val : Nat) : Int), .int .u8 ((x.d2.val : Nat) : Int)] 101)).drew from (Mods.refl.alloc _).drew)
                    have HBA := Lib.hid (show ((w5.alloc (.cells #[.int .i64 ((H.q : Nat) : Int), .int .u16 ((x.id.val : Nat) : Int), .int .u32 ((x.time.val : Nat) : Int), .int .u16 ((x.gen.val : Nat) : Int), .int .u8 ((x.st.val : Nat) : Int), .int .u8 ((x.sen.val : Nat) : Int), .int .u8 ((x.typ.val : Nat) : Int), .bool x.de, .int .u8 ((x.d0.val : Nat) : Int), .int .u8 ((x.d1.val : Nat) : Int), .int .u8 ((x.d2.val : Nat) : Int)] 101)).drew).heap[w5.heap.size]? = some (Obj.cells #[.int .i64 ((H.q : Nat) : Int), .int .u16 ((x.id.val : Nat) : Int), .int .u32 ((x.time.val : Nat) : Int), .int .u16 ((x.gen.val : Nat) : Int), .int .u8 ((x.st.val : Nat) : Int), .int .u8 ((x.sen.val : Nat) : Int), .int .u8 ((x.typ.val : Nat) : Int), .bool x.de, .int .u8 ((x.d0.val : Nat) : Int), .int .u8 ((x.d1.val : Nat) : Int), .int .u8 ((x.d2.val : Nat) : Int)] 101 (0, 0)) from heap_alloc_new w5 _)
                    generalize (w5.alloc (.cells #[.int .i64 ((H.q : Nat) : Int), .int .u16 ((x.id.val : Nat) : Int), .int .u32 ((x.time.val : Nat) : Int), .int .u16 ((x.gen.val : Nat) : Int), .int .u8 ((x.st.val : Nat) : Int), .int .u8 ((x.sen.val : Nat) : Int), .int .u8 ((x.typ.val : Nat) : Int), .bool x.de, .int .u8 ((x.d0.val : Nat) : Int), .int .u8 ((x.d1.val : Nat) : Int), .int .u8 ((x.d2.val : Nat) : Int)] 101)).drew = w6 at HMA HBA ⊢
                    generalize w5.heap.size = g72 at HBA ⊢
                    have hB6 : B ≤ w6.heap.size := by have := HMA.out.size; omega
                    refine hK.out _ _ HMA.out.nil (fun hHeld => ?_)
                    clear hK K4
                    refine wpAnyH_ready (rs := [4]) (by kernel_rfl) (by simp) ?_
                    refine AllReadyH.cons rfl (fun K4 hK => ?_) AllReadyH.nil
                    have c8 : w6.cell? ⟨q.b, 8, none⟩ = some v' := ((HLN.out.mods0 HMA.out).c 8).trans (show _ = some v' from rfl)
                    go_simp
                    refine hK.out _ _ hHeld (fun hHeld => ?_)
                    clear hK K4 c8
                    refine wpAnyH_ready (rs := [10]) (by kernel_rfl) (by simp) ?_
                    refine AllReadyH.cons rfl (fun K4 hK => ?_) AllReadyH.nil
                    refine step_appAt recOk (by rfl) 73 rfl (.tmp 67) (.tmp 72) rfl (by rfl) (HLN.out.own.mods0 HMA.out) (by rfl) (RdE.one (a := ((H.q, x) : Nat × Evt)) HBA.out rfl) (by simp) (by simpa using HLE.out) hB6 (fun VB WB OB MB HVB => ?_)
                    obtain ⟨gV, cV, hVB, _, _, _, _⟩ := OB.form (by simp)
                    obtain ⟨nV, hnV⟩ : ∃ n, n = ((loadS L.s H f k).recs ++ [(H.q, x)]).length := ⟨_, rfl⟩
                    replace hVB := hVB.trans (show _ = Value.slice (some ⟨gV, 0, none⟩) nV cV by rw [hnV])
                    subst hVB
                    clear hnV
                    have HOB := Lib.hid OB
                    have HMB := Lib.hid (HMA.out.nil.trans MB)
                    have hz6 := HMA.out.size
                    have HVC := Lib.hid (show ∀ y, (Value.slice (some ⟨gV, 0, none⟩) nV cV).ownBlock = some y → q.v.ownBlock = some y ∨ w0.heap.size ≤ y from fun y hy => by
                      have h5 := HMN.out.size
                      rcases HVB y hy with h | h
                      · exact HVk.out y h
                      · exact .inr (by omega))
                    clear OB MB HVB
                    refine hK.out _ _ (HMB.out.mono (fun y hy => .inl (List.mem_cons_of_mem _ hy))) (fun hHeld => ?_)
                    clear hK K4
                    simp only [List.setIfInBounds_toArray, List.set_cons_zero, List.set_cons_succ]
                    refine takeD (i := 11) (d := 74) (v := ?_) rfl rfl (by kernel_rfl) (by kernel_rfl) (by kernel_rfl) (fun _ _ _ h => h) (Or.inl ⟨by rfl, ?_⟩) hHeld ?_
                    rotate_left 1
                    · (intro w hSw; (try dsimp only at hSw); go_simp; (try with_reducible rfl))
                    simp only [List.setIfInBounds_toArray, List.set_cons_zero, List.set_cons_succ]
                    refine takeD (i := 12) (d := 75) (v := ?_) rfl rfl (by kernel_rfl) (by kernel_rfl) (by kernel_rfl) (fun _ _ _ h => h) (Or.inl ⟨by rfl, ?_⟩) hHeld ?_
                    rotate_left 1
                    · (intro w hSw; (try dsimp only at hSw); go_simp; (try with_reducible rfl))
                    simp only [List.setIfInBounds_toArray, List.set_cons_zero, List.set_cons_succ]
                    refine wpAnyH_ready (rs := [13]) (by kernel_rfl) (by simp) ?_
                    refine AllReadyH.cons rfl (fun K4 hK => ?_) AllReadyH.nil
                    have RB := HMB.out.heap HLN.out.blk HQV.out
                    have cB := (cell_blk RB 8).trans (show _ = some v' from rfl)
                    have fB := froz_blk RB 8
                    have HRS := Lib.hid (heap_setCell (i := 8) (v := .slice (some ⟨gV, 0, none⟩) nV cV) RB)
                    have HMS := Lib.hid ((HMB.out.mono (fun y hy => .inl (List.mem_cons_of_mem _ hy)) : Mods (q.b :: v'.ownBlock.toList) w5 WB).setCell (p := ⟨q.b, 8, none⟩) (.inl (by simp)) (.slice (some ⟨gV, 0, none⟩) nV cV))
                    have HOS := Lib.hid (HOB.out.mods ((Mods.refl (S := [q.b])).setCell (p := ⟨q.b, 8, none⟩) (.inl (by simp)) (.slice (some ⟨gV, 0, none⟩) nV cV)) (fun y hy hm => by
                      have h1 := (HOB.out.lt y hy).1
                      have h2 := HLN.out.lt
                      simp only [List.mem_singleton] at hm h2
                      omega))
                    clear RB
                    go_simp
                    refine hK.out _ _ HMS.out (fun hHeld => ?_)
                    clear hK K4
                    refine wpAnyH_done (by kernel_rfl) ?_ _
                    go_wp2_with fail
                    go_meet
                    refine ⟨.slice (some ⟨gV, 0, none⟩) nV cV, ⟨HRS.out, HOS.out, HLN.out.lt⟩, ?_, HVC.out, HRN.out.mods HMS.out (by simpa using ⟨HQ9.out, fun h => (HV9.out _ h).2.2 rfl⟩)⟩
                    refine HMN.out.comp HMS.out (fun y hy => ?_)
                    rcases List.mem_cons.1 hy with rfl | hy
                    · exact .inl (by simp [LogAt.foot])
                    · rcases HVk.out y (by simpa using hy) with h | h
                      · exact .inl (by simp [LogAt.foot, h])
                      · exact .inr h
                case rest =>
                  obtain ⟨VB, hLb, hMb, hVb, hEb⟩ := hcut
                  have HLB := Lib.hid hLb
                  have HMB := Lib.hid hMb
                  have HVB := Lib.hid hVb
                  have HEB := Lib.hid hEb
                  clear hLb hMb hVb hEb HLN HMN HRN
                  generalize wc = w7 at HLB HMB HEB ⊢
                  have hv0 : evAt f (11 + 17 * k) = some x := HEV2.out
                  have HEV3 := Lib.hid hv0
                  clear hv0 HEV2
                  cases lst with
                  | false =>
                    have HL1 := Lib.hid (show loadS L.s H f (k + 1) = { loadS L.s H f k with used := (loadS L.s H f (k + 1)).used, recs := (loadS L.s H f k).recs ++ [(H.q, x)] } by
                      have h := HEV3.out
                      have hne : ¬ H.q = L.s.newest := of_decide_eq_false HLST.out.symm
                      simp [loadS, evL, nextL, h, hne])
                    go_wp2_with fail
                    go_roundw
                    case rel => exact ⟨k + 1, by omega, by go_num, VB, by rw [HL1.out]; exact HLB.out, HMB.out, HVB.out⟩
                    case measure => simp [intOf]; omega
                  | true =>
                    have hid16 : x.id.val ≤ 65534 := ((validE_iff x).1 (evAt_some HEV3.out).1).1
                    have HBH := Lib.hid (fun W => behind_ok W x.id.val hid16)
                    have cid := HEB.out.cs.1
                    have c7 := (HLB.out.c 7).trans (show _ = some (Value.int .u16 ((loadS L.s H f k).next : Nat)) from rfl)
                    have f7 := HLB.out.f 7
                    have HS := Lib.hid (HLB.out.set 7 (.int .u16 (behindN x.id.val : Nat)) { L with s := loadS L.s H f (k + 1) } (by
                      have h := HEV3.out
                      have he : H.q = L.s.newest := of_decide_eq_true HLST.out.symm
                      have h2 : loadS L.s H f (k + 1) = ⟨(loadS L.s H f k).newest, (loadS L.s H f k).tail, (loadS L.s H f (k + 1)).used, behindN x.id.val, (loadS L.s H f k).recs ++ [(H.q, x)]⟩ := by simp [loadS, evL, nextL, h, he]
                      rw [h2]; rfl) (by
                      have h := HEV3.out
                      simp [loadS, evL, h]))
                    go_wp2_with fail
                    refine (HBH.out _).mono ?_
                    rintro e w' ⟨rfl, rfl⟩
                    go_wp2_with fail
                    go_roundw
                    case rel => exact ⟨k + 1, by omega, by go_num, VB, HS.out.1, HMB.out.comp HS.out.2 (fun y hy => .inl (by simp at hy; subst hy; simp [LogAt.foot])), HVB.out⟩
                    case measure => simp [intOf]; omega
      · have i1 : ¬ (k : Int) < (K : Int) := by omega
        obtain rfl : k = K := by omega
        go_wp2_with fail
        go_end0
        refine ⟨rfl, v', HLk.out, ?_, ?_⟩
        · exact M0.out.nil.trans HMk.out
        · intro x hx
          rcases HVk.out x hx with h | h
          · exact .inl h
          · exact .inr (by have := HG5E.out; omega)
end Go.Proofs.Ytkdadnlleepkfaa
