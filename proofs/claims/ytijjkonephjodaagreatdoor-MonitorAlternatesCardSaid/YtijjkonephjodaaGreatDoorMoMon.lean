/- A monitor in memory. -/
import Derived.Test.YtijjkonephjodaaGreatDoorMoRecP
import Derived.Test.YtijjkonephjodaaGreatDoorMoCl
import Derived.Test.YtijjkonephjodaaGreatDoorJoAI
namespace Go.Proofs.YtijjkonephjodaaGreatDoor
open Go.RowKit
set_option linter.unusedVariables false
set_option linter.unusedSimpArgs false
/-- A filter: where its window lies, the window, the missing samples. -/
structure FltX where
  ad : Option Addr
  k : Nat
  cap : Nat
  W : List Int
  n : Int
def FltX.win (f : FltX) : Value := .slice f.ad f.k f.cap
def zFlt : FltX := ⟨none, 0, 0, [], 0⟩
instance : Inhabited FltX := ⟨zFlt⟩
def fltE : Elt FltX := ⟨123, 112, 2, fun f => [f.win, .int .i64 f.n], default⟩
theorem Tryz.infoFz : (Tryz.prog.info? 123).map (fun i => (i.zero, i.size, i.bytes)) = some (some (.agg #[.slice none 0 0, .int .i64 0]), 2, 32) := by kernel_rfl
theorem fltOk : fltE.Ok Tryz.prog := by
  refine ⟨fun _ => rfl, fun a v hv => ?_, by decide, Tryz.underlying112, ?_⟩
  · simp [fltE, FltX.win] at hv
    rcases hv with rfl | rfl <;> rfl
  · obtain ⟨i0, hi, hz0, hz1, hz2⟩ := info_parts Tryz.infoFz
    exact ⟨i0, _, hi, hz0, hz1, by rw [hz2]; decide, rfl⟩
noncomputable def medV (sgn : Bool) (W : List Int) : Int := open Classical in if h : ∃ m, IsMed sgn W m then Classical.choose h else 0
theorem medV_is {sgn : Bool} {W : List Int} (hb : ∀ x ∈ W, 0 ≤ x ∧ x ≤ 255) {m : Int} (h : IsMed sgn W m) : medV sgn W = m := by
  have hx : ∃ m, IsMed sgn W m := ⟨m, h⟩
  unfold medV
  rw [dif_pos hx]
  exact med_uniq hb (Classical.choose_spec hx) h
/-- The reading of a sensor: the median of a full window. -/
noncomputable def readV (S : Sen) (P : List Pt) (W : List Int) (n : Int) : Int × Bool := if rdB S P W n then (medV S.conv.sgn W, true) else (0, false)
theorem bytes_memM {W : List Int} (h : Bytes W) : ∀ x ∈ W, 0 ≤ x ∧ x ≤ 255 := fun x hx => by
  obtain ⟨i, hi, rfl⟩ := List.getElem_of_mem hx
  have := h i
  rwa [List.getD_eq_getElem?_getD, List.getElem?_eq_getElem hi] at this
/-- A reading is handed back. -/
def ReadV (w : World) (r : Int × Bool) (e : Ending) (w' : World) : Prop := e = .returned (.tuple #[.int .u8 r.1, .bool r.2]) ∧ (0 ≤ r.1 ∧ r.1 ≤ 255) ∧ Mods [] w w'
theorem ReadRes.v {w : World} {S : Sen} {P : List Pt} {W : List Int} {n : Int} (hb : Bytes W) {e : Ending} {w' : World} (h : ReadRes w (rdB S P W n) S.conv.sgn W e w') : ReadV w (readV S P W n) e w' := by
  unfold ReadRes at h
  unfold ReadV readV
  cases hr : rdB S P W n with
  | true =>
    rw [hr, if_pos rfl] at h
    obtain ⟨m, rfl, hm, hM⟩ := h
    rw [if_pos rfl]
    have h1 := medV_is (bytes_memM hb) hm
    have h2 := bytes_memM hb m hm.mem
    simp only
    rw [h1]
    exact ⟨rfl, h2, hM⟩
  | false =>
    rw [hr, if_neg (by simp)] at h
    rw [if_neg (by simp)]
    exact ⟨h.1, ⟨Int.le_refl _, by decide⟩, h.2⟩
/-- A monitor lies at mb: its sensors vs, its associations va, its filters in block fb, its states in block sb. -/
structure MonAt (w : World) (mb fb sb : Nat) (vs va : Value) (l : List SenX) (A : List Asc) (F : List FltX) (st : List Nat) : Prop where
  blk : w.heap[mb]? = some (.cells #[vs, va, .slice (some ⟨fb, 0, none⟩) l.length l.length, .slice (some ⟨sb, 0, none⟩) l.length l.length] 114 (0, 0))
  sens : RdSens w vs l
  good : ∀ i, i < l.length → goodS l i = true
  most : l.length ≤ 32
  asc : RdE ascE w va A
  chk : chkE A = 0
  amost : A.length ≤ 32
  flt : w.heap[fb]? = some (.cells (cellsE fltE F).toArray 123 (0, 0))
  flen : F.length = l.length
  isf : ∀ i, i < F.length → IsFlt w (F.getD i default).win (F.getD i default).W (F.getD i default).n
  fok : ∀ i, i < F.length → fltB (l.getD i default).S (l.getD i default).P (F.getD i default).W (F.getD i default).n = true
  sts : Row16 w sb st
  slen : st.length = l.length
  sbit : ∀ i, i < l.length → st.getD i 0 &&& bitN (l.getD i default).S = st.getD i 0
  mfs : mb ≠ fb ∧ mb ≠ sb ∧ fb ≠ sb
  oS : ∀ k, vs.ownBlock = some k → k ≠ fb ∧ k ≠ sb
  oA : ∀ k, va.ownBlock = some k → k ≠ fb ∧ k ≠ sb
  oP : ∀ i, i < l.length → ∀ k, (l.getD i default).S.conv.pts.ownBlock = some k → k ≠ fb ∧ k ≠ sb
  oF : ∀ i, i < F.length → ∀ k, (F.getD i default).win.ownBlock = some k → k ≠ fb ∧ k ≠ sb
section
variable {w w' : World} {mb fb sb : Nat} {vs va : Value} {l : List SenX} {A : List Asc} {F : List FltX} {st : List Nat}
theorem MonAt.mods0 (h : MonAt w mb fb sb vs va l A F st) (M : Mods [] w w') : MonAt w' mb fb sb vs va l A F st :=
  ⟨M.heap h.blk (by simp), h.sens.mods0 M, h.good, h.most, h.asc.mods0 ascOk M, h.chk, h.amost, M.heap h.flt (by simp), h.flen, fun i hi => (h.isf i hi).mods0 M, h.fok, h.sts.mods0 M, h.slen, h.sbit, h.mfs, h.oS, h.oA, h.oP, h.oF⟩
theorem MonAt.mods {T : List Nat} (h : MonAt w mb fb sb vs va l A F st) (M : Mods T w w') (h1 : mb ∉ T) (h2 : fb ∉ T) (h3 : sb ∉ T) (hS : ∀ k, vs.ownBlock = some k → k ∉ T) (hA : ∀ k, va.ownBlock = some k → k ∉ T)
    (hP : ∀ i, i < l.length → ∀ k, (l.getD i default).S.conv.pts.ownBlock = some k → k ∉ T) (hF : ∀ i, i < F.length → ∀ k, (F.getD i default).win.ownBlock = some k → k ∉ T) : MonAt w' mb fb sb vs va l A F st :=
  ⟨M.heap h.blk h1, ⟨h.sens.rd.mods senOk M (fun _ => hS), fun i hi => (h.sens.is i hi).mods M (fun _ => hP i hi)⟩, h.good, h.most, h.asc.mods ascOk M (fun _ => hA), h.chk, h.amost, M.heap h.flt h2, h.flen, fun i hi => (h.isf i hi).mods M (fun _ => hF i hi), h.fok, h.sts.mods M h3, h.slen, h.sbit, h.mfs, h.oS, h.oA, h.oP, h.oF⟩
theorem MonAt.c0 (h : MonAt w mb fb sb vs va l A F st) : w.cell? ⟨mb, 0, none⟩ = some vs := (cell_blk h.blk 0).trans rfl
theorem MonAt.c1 (h : MonAt w mb fb sb vs va l A F st) : w.cell? ⟨mb, 1, none⟩ = some va := (cell_blk h.blk 1).trans rfl
theorem MonAt.c2 (h : MonAt w mb fb sb vs va l A F st) : w.cell? ⟨mb, 2, none⟩ = some (.slice (some ⟨fb, 0, none⟩) l.length l.length) := (cell_blk h.blk 2).trans rfl
theorem MonAt.c3 (h : MonAt w mb fb sb vs va l A F st) : w.cell? ⟨mb, 3, none⟩ = some (.slice (some ⟨sb, 0, none⟩) l.length l.length) := (cell_blk h.blk 3).trans rfl
theorem MonAt.valid (h : MonAt w mb fb sb vs va l A F st) {i : Nat} (hi : i < l.length) : validB (l.getD i default).S (l.getD i default).P = true := by
  have := h.good i hi
  unfold goodS at this
  rw [Bool.and_eq_true] at this
  exact this.1
theorem MonAt.fr (h : MonAt w mb fb sb vs va l A F st) {i : Nat} (hi : i < l.length) : w.rangeAt fb (i * 2) (fltE.enc (F.getD i default)) := by
  intro j u hu
  have hj : j < 2 := by
    have := (List.getElem?_eq_some_iff.1 hu).1
    exact this
  rw [cell_blk h.flt, List.getElem?_toArray]
  exact (cellsE_get fltOk.len F i (by rw [h.flen]; exact hi) j hj).trans hu
theorem MonAt.sc (h : MonAt w mb fb sb vs va l A F st) {i : Nat} (hi : i < l.length) : w.cell? ⟨sb, i, none⟩ = some (.int .u16 ((st.getD i 0 : Nat) : Int)) := h.sts.c (by rw [h.slen]; exact hi)
theorem MonAt.slt (h : MonAt w mb fb sb vs va l A F st) {i : Nat} (hi : i < l.length) : st.getD i 0 < 65536 := by
  have h1 := h.sbit i hi
  have h2 := bitN_lt (h.sens.is i hi)
  have h3 : st.getD i 0 &&& bitN (l.getD i default).S ≤ bitN (l.getD i default).S := Nat.and_le_right
  omega
/-- Another state at a place. -/
theorem MonAt.putS (h : MonAt w mb fb sb vs va l A F st) {i x : Nat} (hi : i < l.length) (hx : x &&& bitN (l.getD i default).S = x) : MonAt (w.setCell ⟨sb, i, none⟩ (.int .u16 ((x : Nat) : Int))) mb fb sb vs va l A F (st.set i x) := by
  have M : Mods [sb] w (w.setCell ⟨sb, i, none⟩ (.int .u16 ((x : Nat) : Int))) := (Mods.refl (S := [sb])).setCell (.inl (by simp)) _
  have h' := h.sts.set i x
  refine ⟨M.heap h.blk (by simpa using h.mfs.2.1), ⟨h.sens.rd.mods senOk M (fun _ k hk => by simpa using (h.oS k hk).2), fun i hi => (h.sens.is i hi).mods M (fun _ k hk => by simpa using (h.oP i hi k hk).2)⟩, h.good, h.most, h.asc.mods ascOk M (fun _ k hk => by simpa using (h.oA k hk).2), h.chk, h.amost, M.heap h.flt (by simpa using h.mfs.2.2), h.flen, fun i hi => (h.isf i hi).mods M (fun _ k hk => by simpa using (h.oF i hi k hk).2), h.fok, h', by rw [List.length_set]; exact h.slen, fun j hj => ?_, h.mfs, h.oS, h.oA, h.oP, h.oF⟩
  rw [List.getD_eq_getElem?_getD, List.getElem?_set]
  by_cases hji : i = j
  · subst hji
    rw [if_pos rfl, if_pos (by rw [h.slen]; exact hi)]
    exact hx
  · rw [if_neg hji, ← List.getD_eq_getElem?_getD]
    exact h.sbit j hj
end
end Go.Proofs.YtijjkonephjodaaGreatDoor
