/- monitor.New: a contract. -/
import Derived.Test.YtijjkonephjodaaGreatDoorMoNewP
import Derived.Test.YtijjkonephjodaaGreatDoorAny4
import Derived.Test.YtijjkonephjodaaGreatDoorMoCl
import Derived.Test.YtijjkonephjodaaGreatDoorMo16
namespace Go.Proofs.YtijjkonephjodaaGreatDoor
open Go.RowKit
set_option linter.unusedVariables false
set_option linter.unusedSimpArgs false
set_option maxRecDepth 100000
def Ap (x y : Option Value) : Prop := ∀ u v k, x = some u → y = some v → u.ownBlock = some k → v.ownBlock ≠ some k
theorem Ap.no1 (y : Option Value) : Ap none y := fun _ _ _ h => by cases h
theorem Ap.no2 (y : Option Value) : Ap y none := fun _ _ _ _ h => by cases h
/-- What is made of the new monitor. -/
structure NewJ (w0 : World) (l : List SenX) (A : List Asc) (a b c e : Option Value) (W : World) : Prop where
  M : Mods [] w0 W
  ga : ∀ v, a = some v → OwnE senE W w0.heap.size v l
  gb : ∀ v, b = some v → OwnE ascE W w0.heap.size v A
  gc : ∀ v, c = some v → ∃ g, v = .slice (some ⟨g, 0, none⟩) l.length l.length ∧ w0.heap.size ≤ g ∧ W.heap[g]? = some (.cells (cellsE fltE (List.replicate l.length zFlt)).toArray 123 (0, 0))
  ge : ∀ v, e = some v → ∃ g, v = .slice (some ⟨g, 0, none⟩) l.length l.length ∧ w0.heap.size ≤ g ∧ Row16 W g (List.replicate l.length 0)
  ab : Ap a b
  ac : Ap a c
  ae : Ap a e
  bc : Ap b c
  be : Ap b e
  ce : Ap c e
section
variable {w0 W W' : World} {l : List SenX} {A : List Asc} {a b c e : Option Value} {v : Value}
theorem NewJ.start (w0 : World) : NewJ w0 l A none none none none w0.drew :=
  ⟨Mods.refl.drew, fun _ h => (by cases h), fun _ h => (by cases h), fun _ h => (by cases h), fun _ h => (by cases h), Ap.no1 _, Ap.no1 _, Ap.no1 _, Ap.no1 _, Ap.no1 _, Ap.no1 _⟩
theorem NewJ.oa (h : NewJ w0 l A a b c e W) : ∀ u k, a = some u → u.ownBlock = some k → k < W.heap.size := fun u k hu hk => ((h.ga u hu).lt k hk).2
theorem NewJ.ob (h : NewJ w0 l A a b c e W) : ∀ u k, b = some u → u.ownBlock = some k → k < W.heap.size := fun u k hu hk => ((h.gb u hu).lt k hk).2
theorem NewJ.oc (h : NewJ w0 l A a b c e W) : ∀ u k, c = some u → u.ownBlock = some k → k < W.heap.size := fun u k hu hk => by
  obtain ⟨g, rfl, _, hg⟩ := h.gc u hu
  cases hk
  exact lt_of_block hg
theorem NewJ.oe (h : NewJ w0 l A a b c e W) : ∀ u k, e = some u → u.ownBlock = some k → k < W.heap.size := fun u k hu hk => by
  obtain ⟨g, rfl, _, hg⟩ := h.ge u hu
  cases hk
  exact lt_of_block hg
theorem ap_new {x : Option Value} (hx : ∀ u k, x = some u → u.ownBlock = some k → k < W.heap.size) (hv : ∀ k, v.ownBlock = some k → W.heap.size ≤ k) : Ap x (some v) ∧ Ap (some v) x :=
  ⟨fun u v' k h1 h2 h3 h4 => by cases h2; have := hx u k h1 h3; have := hv k h4; omega, fun u v' k h1 h2 h3 h4 => by cases h1; have := hx v' k h2 h4; have := hv k h3; omega⟩
theorem NewJ.mods0 (h : NewJ w0 l A a b c e W) (M : Mods [] W W') : NewJ w0 l A a b c e W' :=
  ⟨h.M.trans M, fun v hv => (h.ga v hv).mods0 M, fun v hv => (h.gb v hv).mods0 M, fun v hv => by obtain ⟨g, h1, h2, h3⟩ := h.gc v hv; exact ⟨g, h1, h2, M.heap h3 (by simp)⟩, fun v hv => by obtain ⟨g, h1, h2, h3⟩ := h.ge v hv; exact ⟨g, h1, h2, h3.mods0 M⟩, h.ab, h.ac, h.ae, h.bc, h.be, h.ce⟩
theorem NewJ.s1 (h : NewJ w0 l A none none c e W) (O : OwnE senE W' W.heap.size v l) (M : Mods [] W W') : NewJ w0 l A (some v) none c e W' := by
  have h' := h.mods0 M
  have hv : ∀ k, v.ownBlock = some k → W.heap.size ≤ k := fun k hk => (O.lt k hk).1
  exact ⟨h'.M, fun u hu => by cases hu; exact O.down h.M.size, h'.gb, h'.gc, h'.ge, Ap.no2 _, (ap_new h.oc hv).2, (ap_new h.oe hv).2, h'.bc, h'.be, h'.ce⟩
theorem NewJ.s3 (h : NewJ w0 l A a none c e W) (O : OwnE ascE W' W.heap.size v A) (M : Mods [] W W') : NewJ w0 l A a (some v) c e W' := by
  have h' := h.mods0 M
  have hv : ∀ k, v.ownBlock = some k → W.heap.size ≤ k := fun k hk => (O.lt k hk).1
  exact ⟨h'.M, h'.ga, fun u hu => by cases hu; exact O.down h.M.size, h'.gc, h'.ge, (ap_new h.oa hv).1, h'.ac, h'.ae, (ap_new h.oc hv).2, (ap_new h.oe hv).2, h'.ce⟩
theorem NewJ.s6 (h : NewJ w0 l A a b none e W) : NewJ w0 l A a b (some (.slice (some ⟨W.heap.size, 0, none⟩) l.length l.length)) e (W.alloc (.cells (cellsE fltE (List.replicate l.length zFlt)).toArray 123)) := by
  have h' := h.mods0 (Mods.refl.alloc (.cells (cellsE fltE (List.replicate l.length zFlt)).toArray 123))
  have hv : ∀ k, (Value.slice (some ⟨W.heap.size, 0, none⟩) l.length l.length).ownBlock = some k → W.heap.size ≤ k := fun k hk => by cases hk; exact Nat.le_refl _
  exact ⟨h'.M, h'.ga, h'.gb, fun u hu => by cases hu; exact ⟨_, rfl, h.M.size, heap_alloc_new _ _⟩, h'.ge, h'.ab, (ap_new h.oa hv).1, h'.ae, (ap_new h.ob hv).1, h'.be, (ap_new h.oe hv).2⟩
theorem NewJ.s9 (h : NewJ w0 l A a b c none W) : NewJ w0 l A a b c (some (.slice (some ⟨W.heap.size, 0, none⟩) l.length l.length)) (W.alloc (.cells (w16s (List.replicate l.length 0)).toArray 38)) := by
  have h' := h.mods0 (Mods.refl.alloc (.cells (w16s (List.replicate l.length 0)).toArray 38))
  have hv : ∀ k, (Value.slice (some ⟨W.heap.size, 0, none⟩) l.length l.length).ownBlock = some k → W.heap.size ≤ k := fun k hk => by cases hk; exact Nat.le_refl _
  exact ⟨h'.M, h'.ga, h'.gb, h'.gc, fun u hu => by cases hu; exact ⟨_, rfl, h.M.size, heap_alloc_new _ _⟩, h'.ab, h'.ac, (ap_new h.oa hv).1, h'.bc, (ap_new h.ob hv).1, (ap_new h.oc hv).1⟩
end
/-- A monitor under way: the sensors l' lie in it, the first k of them with points of their own. -/
structure NewAt (w0 : World) (mb fb sb : Nat) (vs va : Value) (l : List SenX) (A : List Asc) (l' : List SenX) (k : Nat) (w : World) : Prop where
  M : Mods [] w0 w
  tw : Twin l l'
  blk : w.heap[mb]? = some (.cells #[vs, va, .slice (some ⟨fb, 0, none⟩) l.length l.length, .slice (some ⟨sb, 0, none⟩) l.length l.length] 114 (0, 0))
  own : OwnE senE w w0.heap.size vs l'
  asc : OwnE ascE w w0.heap.size va A
  flt : w.heap[fb]? = some (.cells (cellsE fltE (List.replicate l.length zFlt)).toArray 123 (0, 0))
  sts : Row16 w sb (List.replicate l.length 0)
  lo : w0.heap.size ≤ mb ∧ w0.heap.size ≤ fb ∧ w0.heap.size ≤ sb
  mfs : mb ≠ fb ∧ mb ≠ sb ∧ fb ≠ sb
  nS : ∀ q, vs.ownBlock = some q → q ≠ fb ∧ q ≠ sb ∧ q ≠ mb
  nA : ∀ q, va.ownBlock = some q → q ≠ fb ∧ q ≠ sb ∧ q ≠ mb ∧ vs.ownBlock ≠ some q
  done : ∀ j, j < k → IsSen w (l'.getD j default).S (l'.getD j default).P ∧ ∀ q, (l'.getD j default).S.conv.pts.ownBlock = some q → w0.heap.size ≤ q ∧ q ≠ fb ∧ q ≠ sb ∧ q ≠ mb ∧ vs.ownBlock ≠ some q
  rest : ∀ j, k ≤ j → l'.getD j default = l.getD j default
section
variable {w0 w W W' : World} {mb fb sb : Nat} {vs va vc ve : Value} {l l' : List SenX} {A : List Asc} {k : Nat}
theorem NewJ.at (h : NewJ w0 l A (some vs) (some va) (some vc) (some ve) W) : ∃ fb sb, vc = .slice (some ⟨fb, 0, none⟩) l.length l.length ∧ ve = .slice (some ⟨sb, 0, none⟩) l.length l.length ∧
    NewAt w0 W.heap.size fb sb vs va l A l 0 (W.alloc (.cells #[vs, va, vc, ve] 114)) := by
  obtain ⟨fb, rfl, f1, f2⟩ := h.gc vc rfl
  obtain ⟨sb, rfl, s1, s2⟩ := h.ge ve rfl
  have f3 := lt_of_block f2
  have s3 := lt_of_block s2
  refine ⟨fb, sb, rfl, rfl, ⟨h.M.alloc _, Twin.refl l, heap_alloc_new _ _, (h.ga vs rfl).mods0 (Mods.refl.alloc _), (h.gb va rfl).mods0 (Mods.refl.alloc _), heap_alloc f2, s2.mods0 (Mods.refl.alloc _), ⟨h.M.size, f1, s1⟩, ⟨by omega, by omega, fun hfs => ?_⟩, fun q hq => ?_, fun q hq => ?_, fun j hj => by omega, fun j hj => rfl⟩⟩
  · exact h.ce _ _ fb rfl rfl rfl (by rw [hfs]; rfl)
  · have := ((h.ga vs rfl).lt q hq).2
    exact ⟨fun hx => h.ac _ _ q rfl rfl hq (by rw [hx]; rfl), fun hx => h.ae _ _ q rfl rfl hq (by rw [hx]; rfl), by omega⟩
  · have := ((h.gb va rfl).lt q hq).2
    exact ⟨fun hx => h.bc _ _ q rfl rfl hq (by rw [hx]; rfl), fun hx => h.be _ _ q rfl rfl hq (by rw [hx]; rfl), by omega, fun hx => h.ab _ _ q rfl rfl hx hq⟩
theorem NewAt.mods0 (h : NewAt w0 mb fb sb vs va l A l' k w) (M : Mods [] w W) : NewAt w0 mb fb sb vs va l A l' k W :=
  ⟨h.M.trans M, h.tw, M.heap h.blk (by simp), h.own.mods0 M, h.asc.mods0 M, M.heap h.flt (by simp), h.sts.mods0 M, h.lo, h.mfs, h.nS, h.nA, fun j hj => ⟨(h.done j hj).1.mods0 M, (h.done j hj).2⟩, h.rest⟩
/-- The next sensor gets its own points. -/
theorem NewAt.put (h : NewAt w0 mb fb sb vs va l A l' k w) (hk : k < l.length) {u : Value} (O : OwnE ptE w W.heap.size u (l.getD k default).P) (hW : Mods [] W w) (hvb : ∀ q, vs.ownBlock = some q → q < W.heap.size) (hfb : fb < W.heap.size) (hsb : sb < W.heap.size) (hmb : mb < W.heap.size) (h0 : w0.heap.size ≤ W.heap.size)
    (hS : IsSen w (l.getD k default).S (l.getD k default).P) {g cap : Nat} (hvs : vs = .slice (some ⟨g, 0, none⟩) l.length cap) :
    ∃ l2, NewAt w0 mb fb sb vs va l A l2 (k + 1) (w.setCell ⟨g, k * 28 + 13, none⟩ u) := by
  have ho : u.oneCell' = true := RdPts.one O.pts.rd
  have hl := h.tw.1
  subst hvs
  have hkl : l'.getD k default = l.getD k default := h.rest k (Nat.le_refl _)
  have Mg : Mods [g] w (w.setCell ⟨g, k * 28 + 13, none⟩ u) := (Mods.refl (S := [g])).setCell (.inl (by simp)) _
  have hg0 := (h.own.lt g rfl).1
  obtain ⟨n1, n2, n3⟩ := h.nS g rfl
  have hown := OwnE.put senOk (i := k) (j := 13) (u := u) (a := ⟨withPts (l'.getD k default).S u, (l'.getD k default).P, ho⟩) (show OwnE senE w w0.heap.size (.slice (some ⟨g, 0, none⟩) l'.length cap) l' by rw [hl]; exact h.own) (by rw [hl]; exact hk) (by decide) (fun d => by
    rw [show l'.getD k d = l'.getD k default by rw [List.getD_eq_getElem?_getD, List.getD_eq_getElem?_getD, List.getElem?_eq_getElem (by rw [hl]; exact hk)]; rfl]
    rfl)
  rw [List.length_set, hl] at hown
  have gd : ∀ j, (l'.set k ⟨withPts (l'.getD k default).S u, (l'.getD k default).P, ho⟩).getD j default = if j = k then ⟨withPts (l'.getD k default).S u, (l'.getD k default).P, ho⟩ else l'.getD j default := fun j => by
    rw [List.getD_eq_getElem?_getD, List.getElem?_set]
    by_cases hjk : k = j
    · subst hjk; rw [if_pos rfl, if_pos (by rw [hl]; exact hk), if_pos rfl]; rfl
    · rw [if_neg hjk, if_neg (fun h => hjk h.symm), List.getD_eq_getElem?_getD]
  have hgu : ∀ q, u.ownBlock = some q → q ≠ g := fun q hq => by have := (O.lt q hq).1; have := hvb g rfl; omega
  refine ⟨_, ⟨h.M.comp Mg (fun q hq => .inr (by simp at hq; omega)), h.tw.set hk u ho, Mg.heap h.blk (by simpa using fun hx => n3 hx.symm), hown, h.asc.mods Mg (fun q hq => ?_), Mg.heap h.flt (by simpa using fun hx => n1 hx.symm), h.sts.mods Mg (by simpa using fun hx => n2 hx.symm), h.lo, h.mfs, h.nS, h.nA, fun j hj => ?_, fun j hj => ?_⟩⟩
  · have := (h.nA q hq).2.2.2
    simp
    rintro rfl
    exact this rfl
  · rw [gd j]
    by_cases hjk : j = k
    · rw [if_pos hjk]
      rw [hkl]
      refine ⟨?_, fun q hq => ?_⟩
      · have hP : RdPts (w.setCell ⟨g, k * 28 + 13, none⟩ u) u (l.getD k default).P := O.pts.rd.mods Mg (fun _ q hq => by simpa using hgu q hq)
        exact { hS with conv := { hS.conv with rd := hP } }
      · have h1 := (O.lt q hq).1
        exact ⟨by omega, by omega, by omega, by omega, fun hx => by cases hx; exact hgu _ hq rfl⟩
    · rw [if_neg hjk]
      obtain ⟨d1, d2⟩ := h.done j (by omega)
      exact ⟨d1.mods Mg (fun _ q hq => by have := (d2 q hq).2.2.2.2; simp; rintro rfl; exact this rfl), d2⟩
  · rw [gd j, if_neg (by omega)]
    exact h.rest j (by omega)
/-- All sensors have points of their own: the monitor is there. -/
theorem NewAt.mon (h : NewAt w0 mb fb sb vs va l A l' l.length w) (hc : chkS l = 0) (hA : chkE A = 0) (hAl : A.length ≤ 32) : MonAt w mb fb sb vs va l' A (List.replicate l'.length zFlt) (List.replicate l'.length 0) := by
  obtain ⟨h1, h2⟩ := chkS_zero hc
  have hl := h.tw.1
  have hz : ∀ i, (List.replicate l'.length zFlt).getD i default = zFlt := fun i => by
    rw [List.getD_eq_getElem?_getD, List.getElem?_replicate]
    split <;> rfl
  have hz2 : ∀ i, (List.replicate l'.length 0).getD i 0 = 0 := fun i => by
    rw [List.getD_eq_getElem?_getD, List.getElem?_replicate]
    split <;> rfl
  have hg : ∀ i, i < l'.length → goodS l' i = true := fun i hi => by rw [h.tw.good (by omega)]; exact h2 i (by omega)
  refine ⟨by rw [hl]; exact h.blk, ⟨h.own.rd senOk, fun i hi => (h.done i (by omega)).1⟩, hg, by omega, h.asc.rd ascOk, hA, hAl, by rw [hl]; exact h.flt, by rw [List.length_replicate], fun i hi => ?_, fun i hi => ?_, by rw [hl]; exact h.sts, by rw [List.length_replicate], fun i hi => by rw [hz2]; simp, h.mfs, fun q hq => ⟨(h.nS q hq).1, (h.nS q hq).2.1⟩, fun q hq => ⟨(h.nA q hq).1, (h.nA q hq).2.1⟩, fun i hi q hq => ⟨((h.done i (by omega)).2 q hq).2.1, ((h.done i (by omega)).2 q hq).2.2.1⟩, fun i hi q hq => ?_⟩
  · rw [hz]
    exact ⟨Rd.nil _, fun i => by simp [zFlt], by simp [zFlt], by unfold I64 zFlt; decide⟩
  · rw [hz, fltB_eq]
    have hv := hg i (by rw [List.length_replicate] at hi; exact hi)
    unfold goodS at hv
    rw [Bool.and_eq_true] at hv
    rw [hv.1, Bool.true_and, decide_eq_true_eq]
    have hs : 1 ≤ (l'.getD i default).S.samples := by
      have h3 := hv.1
      unfold validB at h3
      simp only [Bool.and_eq_true, decide_eq_true_eq] at h3
      have := h3.1.2
      omega
    exact ⟨by show ((0 : Nat) : Int) ≤ _; omega, by show (0 : Int) ≤ 0; omega, by show (0 : Int) ≤ 3; omega, .inl (by show (0 : Int) < 3; omega)⟩
  · rw [hz] at hq
    cases hq
end
/-- All blocks of a monitor are new ones. -/
structure MonLo (B mb fb sb : Nat) (vs va : Value) (l : List SenX) : Prop where
  b : B ≤ mb ∧ B ≤ fb ∧ B ≤ sb
  s : ∀ q, vs.ownBlock = some q → B ≤ q
  a : ∀ q, va.ownBlock = some q → B ≤ q
  p : ∀ i, i < l.length → ∀ q, (l.getD i default).S.conv.pts.ownBlock = some q → B ≤ q
/-- What New gives. -/
def NewPost (w : World) (l : List SenX) (A : List Asc) (e : Ending) (w' : World) : Prop :=
  Mods [] w w' ∧ if chkS l = 0 then (if chkE A = 0 then ∃ mb fb sb vs va l', e = .returned (.tuple #[.pointer (some ⟨mb, 0, none⟩), .int .i64 0]) ∧ Twin l l' ∧ MonAt w' mb fb sb vs va l' A (List.replicate l'.length zFlt) (List.replicate l'.length 0) ∧ MonLo w.heap.size mb fb sb vs va l'
      else e = .returned (.tuple #[.pointer none, .int .i64 (chkE A)])) else e = .returned (.tuple #[.pointer none, .int .i64 (chkS l)])
set_option maxHeartbeats 8000000 in
theorem new_ok (w : World) (v : Value) (l : List SenX) (hv : RdSens w v l) (u : Value) (A : List Asc) (hu : RdE ascE w u A) (hA : A.length ≤ 32 ∨ chkE A ≠ 0) :
    Calls Tryz.prog 14 #[v, u] w fun e w' => NewPost w l A e w' := by
  have HV := Lib.hid hv
  have HU := Lib.hid hu
  have HP := Lib.hid (fun e w' => show NewPost w l A e w' = (Mods [] w w' ∧ if chkS l = 0 then (if chkE A = 0 then ∃ mb fb sb vs va l', e = .returned (.tuple #[.pointer (some ⟨mb, 0, none⟩), .int .i64 0]) ∧ Twin l l' ∧ MonAt w' mb fb sb vs va l' A (List.replicate l'.length zFlt) (List.replicate l'.length 0) ∧ MonLo w.heap.size mb fb sb vs va l'
      else e = .returned (.tuple #[.pointer none, .int .i64 (chkE A)])) else e = .returned (.tuple #[.pointer none, .int .i64 (chkS l)])) from rfl)
  obtain ⟨ad, cap, rfl⟩ := hv.rd.len
  have hcap : l.length ≤ 9223372036854775807 := by obtain ⟨_, _, _, h1, h2, _⟩ := hv.rd; exact Nat.le_trans h1 h2
  obtain ⟨uad, ucap, rfl⟩ := hu.len
  have HCK := Lib.hid (chkS_ok w _ l hv)
  have HCE := Lib.hid (fun W (M : Mods [] w W) => check_ok W A _ (hu.mods0 ascOk M))
  have HAL := Lib.hid hA
  clear hv hu hA
  by_cases hs : chkS l = 0
  · have HS := Lib.hid hs
    have HIFS := Lib.hid (if_pos hs : (if chkS l = 0 then True else False) = True)
    obtain ⟨hl32, hgood⟩ := chkS_zero hs
    have HGOOD := Lib.hid hgood
    rw [hs] at HCK
    clear hs hgood
    by_cases he : chkE A = 0
    · have HE := Lib.hid he
      have HAL2 := Lib.hid (show A.length ≤ 32 from HAL.out.resolve_right (fun h => h he))
      simp only [he] at HCE
      clear he
      go_enter Tryz.func14, Tryz.ntmps14
      go_wp2_with fail
      refine HCK.out.mono ?_
      rintro e w1 ⟨rfl, M1⟩
      have HM1 := Lib.hid M1
      clear M1
      go_wp2_with fail
      refine (HCE.out _ HM1.out).mono ?_
      rintro e w2 ⟨rfl, M2⟩
      have HM2 := Lib.hid (HM1.out.trans M2)
      clear M2 HM1
      go_upto_region 7 with (fail)
      have HV2 := Lib.hid (fun W (M : Mods [] w2 W) => HV.out.mods0 (HM2.out.trans M))
      have HU2 := Lib.hid (fun W (M : Mods [] w2 W) => HU.out.mods0 ascOk (HM2.out.trans M))
      have hmkF := fun W => makeF W l.length (by omega)
      have hmk16 := fun W => make16 W l.length (by omega)
      refine heldStart (S := fun W => Mods [] w2 W) 13 rfl (by kernel_rfl) Mods.refl.drew (fun hHeld => ?_)
      refine takeD (i := 0) (d := 20) (v := ?_) rfl rfl (by kernel_rfl) (by kernel_rfl) (by kernel_rfl) (fun _ _ _ h => h) (Or.inl ⟨by rfl, ?_⟩) hHeld ?_
      rotate_left 1
      · (intro w hSw; (try dsimp only at hSw); go_simp; (try with_reducible rfl))
      simp only [List.setIfInBounds_toArray, List.set_cons_zero, List.set_cons_succ]
      refine takeD (i := 2) (d := 22) (v := ?_) rfl rfl (by kernel_rfl) (by kernel_rfl) (by kernel_rfl) (fun _ _ _ h => h) (Or.inl ⟨by rfl, ?_⟩) hHeld ?_
      rotate_left 1
      · (intro w hSw; (try dsimp only at hSw); go_simp; (try with_reducible rfl))
      simp only [List.setIfInBounds_toArray, List.set_cons_zero, List.set_cons_succ]
      refine takeD (i := 4) (d := 24) (v := ?_) rfl rfl (by kernel_rfl) (by kernel_rfl) (by kernel_rfl) (fun _ _ _ h => h) (Or.inl ⟨by rfl, ?_⟩) hHeld ?_
      rotate_left 1
      · (intro w hSw; (try dsimp only at hSw); go_simp; (try with_reducible rfl))
      simp only [List.setIfInBounds_toArray, List.set_cons_zero, List.set_cons_succ]
      refine takeD (i := 5) (d := 25) (v := ?_) rfl rfl (by kernel_rfl) (by kernel_rfl) (by kernel_rfl) (fun _ _ _ h => h) (Or.inl ⟨by rfl, ?_⟩) hHeld ?_
      rotate_left 1
      · (intro w hSw; (try dsimp only at hSw); go_simp; (try with_reducible rfl))
      simp only [List.setIfInBounds_toArray, List.set_cons_zero, List.set_cons_succ]
      refine takeD (i := 7) (d := 27) (v := ?_) rfl rfl (by kernel_rfl) (by kernel_rfl) (by kernel_rfl) (fun _ _ _ h => h) (Or.inl ⟨by rfl, ?_⟩) hHeld ?_
      rotate_left 1
      · (intro w hSw; (try dsimp only at hSw); go_simp; (try with_reducible rfl))
      simp only [List.setIfInBounds_toArray, List.set_cons_zero, List.set_cons_succ]
      refine takeD (i := 8) (d := 28) (v := ?_) rfl rfl (by kernel_rfl) (by kernel_rfl) (by kernel_rfl) (fun _ _ _ h => h) (Or.inl ⟨by rfl, ?_⟩) hHeld ?_
      rotate_left 1
      · (intro w hSw; (try dsimp only at hSw); go_simp; (try with_reducible rfl))
      simp only [List.setIfInBounds_toArray, List.set_cons_zero, List.set_cons_succ]
      refine any4 (fuel := 3) 1 3 6 9 21 23 26 29 rfl rfl rfl rfl rfl rfl rfl rfl (by decide) (by decide) (NewJ w2 l A) ?hr (fun a b c e W h => h.M) ?s1 ?s3 ?s6 ?s9 ?last 4 none none none none _ rfl (by simp) (NewJ.start w2)
      case hr =>
        intro b1 b3 b6 b9 h1 h2
        cases b1 <;> cases b3 <;> cases b6 <;> cases b9 <;> first | (exact absurd (h1 rfl) (by decide)) | (exact absurd h2 (by decide)) | kernel_rfl
      case s1 =>
        intro c e W K hJ hK
        have HJ := Lib.hid hJ
        cases c <;> cases e <;> (
          simp only [put4, put1, List.setIfInBounds_toArray, List.set_cons_zero, List.set_cons_succ] at hK ⊢
          have HK := Lib.hid hK
          clear hK hJ
          go_simp
          go_wp2_with (go_at_call 45; refine (cloneS_ok _ _ l (HV2.out _ HJ.out.M).rd (by omega)).mono ?_; rintro e w6 ⟨v6, rfl, O6, M6⟩)
          exact HK.out _ _ (HJ.out.s1 O6 M6))
      case s3 =>
        intro a c e W K hJ hK
        have HJ := Lib.hid hJ
        cases c <;> cases e <;> (
          simp only [put4, put1, List.setIfInBounds_toArray, List.set_cons_zero, List.set_cons_succ] at hK ⊢
          have HK := Lib.hid hK
          clear hK hJ
          go_simp
          go_wp2_with (go_at_call 46; refine (cloneAs_ok _ _ A (HU2.out _ HJ.out.M) (by have := HAL2.out; omega)).mono ?_; rintro e w6 ⟨v6, rfl, O6, M6⟩)
          exact HK.out _ _ (HJ.out.s3 O6 M6))
      case s6 =>
        intro a b e W K hJ hK
        have HJ := Lib.hid hJ
        cases a <;> cases b <;> cases e <;> (
          simp only [put4, put1, List.setIfInBounds_toArray, List.set_cons_zero, List.set_cons_succ] at hK ⊢
          have HK := Lib.hid hK
          clear hK hJ
          go_simp
          exact HK.out _ _ HJ.out.s6)
      case s9 =>
        intro a b c W K hJ hK
        have HJ := Lib.hid hJ
        cases a <;> cases b <;> cases c <;> (
          simp only [put4, put1, List.setIfInBounds_toArray, List.set_cons_zero, List.set_cons_succ] at hK ⊢
          have HK := Lib.hid hK
          clear hK hJ
          go_simp
          exact HK.out _ _ HJ.out.s9)
      case last =>
        intro vs va vc ve W hJ
        obtain ⟨fb, sb, rfl, rfl, hN⟩ := hJ.at
        obtain ⟨sad, scap, rfl⟩ := (hN.own.rd senOk).len
        obtain ⟨aad, acap, rfl⟩ := (hN.asc.rd ascOk).len
        have hHeld := hJ.M
        have HNA := Lib.hid hN
        clear hJ hN
        simp only [put4, put1, List.setIfInBounds_toArray, List.set_cons_zero, List.set_cons_succ]
        refine takeD (i := 10) (d := 30) (v := ?_) rfl rfl (by kernel_rfl) (by kernel_rfl) (by kernel_rfl) (fun _ _ _ h => h) (Or.inl ⟨by rfl, ?_⟩) hHeld ?_
        rotate_left 1
        · (intro w hSw; (try dsimp only at hSw); go_simp; (try with_reducible rfl))
        simp only [List.setIfInBounds_toArray, List.set_cons_zero, List.set_cons_succ]
        refine wpAnyH_ready (rs := [11]) (by kernel_rfl) (by simp) ?_
        refine AllReadyH.cons rfl (fun K hK => ?_) AllReadyH.nil
        go_simp
        refine hK.out _ _ ?_ (fun hHeld => ?_)
        · exact hHeld.alloc _
        clear hK K
        refine takeD (i := 12) (d := 8) (v := ?_) rfl rfl (by kernel_rfl) (by kernel_rfl) (by kernel_rfl) (fun _ _ _ h => h) (Or.inl ⟨by rfl, ?_⟩) hHeld ?_
        rotate_left 1
        · (intro w hSw; (try dsimp only at hSw); go_simp; (try with_reducible rfl))
        simp only [List.setIfInBounds_toArray, List.set_cons_zero, List.set_cons_succ]
        refine wpAnyH_done (by kernel_rfl) ?_ _
        clear hHeld hmkF hmk16
        generalize W.alloc (.cells #[.slice sad l.length scap, .slice aad A.length acap, .slice (some ⟨fb, 0, none⟩) l.length l.length, .slice (some ⟨sb, 0, none⟩) l.length l.length] 114) = w7 at HNA ⊢
        generalize W.heap.size = mb at HNA ⊢
        have c0 : w7.cell? ⟨mb, 0, none⟩ = some (.slice sad l.length scap) := (cell_blk HNA.out.blk 0).trans rfl
        go_wp2_with fail
        clear c0
        go_loopw [37] (fun i wr => ∃ k : Nat, k ≤ l.length ∧ i = .int .i64 (k : Nat) ∧ Hid (∃ l', NewAt w2 mb fb sb (.slice sad l.length scap) (.slice aad A.length acap) l A l' k wr)) (fun i _ => l.length - (intOf i).toNat)
        case atStart => exact ⟨0, Nat.zero_le _, rfl, Lib.hid ⟨l, HNA.out⟩⟩
        case round =>
          obtain ⟨k, hk, rfl, hN⟩ := hrel
          have HN := hN
          clear hN
          have i0 : (0 : Int) ≤ (k : Int) := by omega
          by_cases hlt : k < l.length
          · have i1 : (k : Int) < (l.length : Int) := by omega
            have HKL := Lib.hid hlt
            obtain ⟨l', hN⟩ := HN.out
            obtain ⟨g, cap2, hgv, hg1, hg2, hg3, hg4⟩ := hN.own.form (by rw [hN.tw.1]; omega)
            injection hgv with e1 e2 e3
            subst e1 e3
            clear e2
            have HN1 := Lib.hid hN
            clear hN HN HNA
            have HVR := Lib.hid (HV.out.mods0 (HM2.out.trans HN1.out.M))
            obtain ⟨bb, off, cap', hv2, hb1, hb2⟩ := HVR.out.at (by omega)
            injection hv2 with hv3 hv5 hv4
            subst hv3 hv4
            clear hv5
            have HRG := Lib.hid (fun W (M : Mods [] wr W) => (HVR.out.mods0 M).range hlt)
            have HIS := Lib.hid (fun W (M : Mods [] wr W) => (HVR.out.mods0 M).is k hlt)
            have HPL := Lib.hid (show (l.getD k default).P.length ≤ 12 from by
              have h := HGOOD.out k hlt
              unfold goodS at h
              rw [Bool.and_eq_true] at h
              exact validB_pts h.1)
            have HPUT := Lib.hid (fun (W w' : World) (u : Value) (M : Mods [] wr W) (M' : Mods [] W w') (O : OwnE ptE w' W.heap.size u (l.getD k default).P) => (HN1.out.mods0 (M.trans M')).put hlt O M' (fun q hq => Nat.lt_of_lt_of_le (HN1.out.own.lt q hq).2 M.size) (Nat.lt_of_lt_of_le (lt_of_block HN1.out.flt) M.size) (Nat.lt_of_lt_of_le (lt_of_block HN1.out.sts) M.size) (Nat.lt_of_lt_of_le (lt_of_block HN1.out.blk) M.size) (Nat.le_trans HN1.out.M.size M.size) (HIS.out _ (M.trans M')) rfl)
            have HC0 := Lib.hid (show wr.cell? ⟨mb, 0, none⟩ = some (.slice (some ⟨g, 0, none⟩) l.length scap) from (cell_blk HN1.out.blk 0).trans rfl)
            generalize (l.getD k default).P = P at HIS HPL HPUT
            generalize (l.getD k default).S = S at HRG HIS
            have HCP := Lib.hid (fun W (M : Mods [] wr W) => cloneP_ok W _ P (HIS.out W M).conv.rd.elt (by have := HPL.out; omega))
            go_upto_region 11 with (fail)
            have HGM := Lib.hid (show g ≠ mb from (HN1.out.nS g rfl).2.2)
            have HBG := Lib.hid (show bb ≠ g from by
              have h1 := (HV.out.rd).block_lt senOk (by rintro rfl; simp at hlt) bb rfl
              have h2 := HM2.out.size
              omega)
            refine heldStart (S := fun W => Mods [g] wr W) 16 rfl (by kernel_rfl) Mods.refl.drew (fun hHeld => ?_)
            refine takeD (i := 0) (d := 40) (v := ?_) rfl rfl (by kernel_rfl) (by kernel_rfl) (by kernel_rfl) (fun _ _ _ h => h) (Or.inl ⟨by rfl, ?_⟩) hHeld ?_
            rotate_left 1
            · (intro w hSw; (try dsimp only at hSw); go_simp; (try with_reducible rfl))
            simp only [List.setIfInBounds_toArray, List.set_cons_zero, List.set_cons_succ]
            refine takeD (i := 1) (d := 41) (v := ?_) rfl rfl (by kernel_rfl) (by kernel_rfl) (by kernel_rfl) (fun _ _ _ h => h) (Or.inl ⟨by rfl, ?_⟩) hHeld ?_
            rotate_left 1
            · (intro w hSw; (try dsimp only at hSw); go_simp; (try with_reducible rfl))
            simp only [List.setIfInBounds_toArray, List.set_cons_zero, List.set_cons_succ]
            refine takeD (i := 2) (d := 42) (v := ?_) rfl rfl (by kernel_rfl) (by kernel_rfl) (by kernel_rfl) (fun _ _ _ h => h) (Or.inl ⟨by rfl, ?_⟩) hHeld ?_
            rotate_left 1
            · (intro w hSw; (try dsimp only at hSw); go_simp; (try with_reducible rfl))
            simp only [List.setIfInBounds_toArray, List.set_cons_zero, List.set_cons_succ]
            refine takeD (i := 3) (d := 43) (v := .slice (some ⟨g, 0, none⟩) l.length scap) rfl rfl (by kernel_rfl) (by kernel_rfl) (by kernel_rfl) (fun _ _ _ h => h) (Or.inl ⟨by rfl, fun W hSw => ?_⟩) hHeld ?_
            · (try dsimp only at hSw)
              have cst := hSw.cell HC0.out (by simpa using fun h => HGM.out h.symm)
              go_simp
              skip
            simp only [List.setIfInBounds_toArray, List.set_cons_zero, List.set_cons_succ]
            refine takeD (i := 4) (d := 44) (v := ?_) rfl rfl (by kernel_rfl) (by kernel_rfl) (by kernel_rfl) (fun _ _ _ h => h) (Or.inl ⟨by rfl, ?_⟩) hHeld ?_
            rotate_left 1
            · (intro w hSw; (try dsimp only at hSw); go_simp; (try with_reducible rfl))
            simp only [List.setIfInBounds_toArray, List.set_cons_zero, List.set_cons_succ]
            refine takeD (i := 5) (d := 45) (v := ?_) rfl rfl (by kernel_rfl) (by kernel_rfl) (by kernel_rfl) (fun _ _ _ h => h) (Or.inl ⟨by rfl, ?_⟩) hHeld ?_
            rotate_left 1
            · (intro w hSw; (try dsimp only at hSw); go_simp; (try with_reducible rfl))
            simp only [List.setIfInBounds_toArray, List.set_cons_zero, List.set_cons_succ]
            refine takeD (i := 6) (d := 46) (v := ?_) rfl rfl (by kernel_rfl) (by kernel_rfl) (by kernel_rfl) (fun _ _ _ h => h) (Or.inl ⟨by rfl, ?_⟩) hHeld ?_
            rotate_left 1
            · (intro w hSw; (try dsimp only at hSw); go_simp; (try with_reducible rfl))
            simp only [List.setIfInBounds_toArray, List.set_cons_zero, List.set_cons_succ]
            refine takeD (i := 7) (d := 47) (v := ?_) rfl rfl (by kernel_rfl) (by kernel_rfl) (by kernel_rfl) (fun _ _ _ h => h) (Or.inl ⟨by rfl, ?_⟩) hHeld ?_
            rotate_left 1
            · (intro w hSw; (try dsimp only at hSw); go_simp; (try with_reducible rfl))
            simp only [List.setIfInBounds_toArray, List.set_cons_zero, List.set_cons_succ]
            refine takeD (i := 8) (d := 48) (v := ?_) rfl rfl (by kernel_rfl) (by kernel_rfl) (by kernel_rfl) (fun _ _ _ h => h) (Or.inl ⟨by rfl, ?_⟩) hHeld ?_
            rotate_left 1
            · (intro w hSw; (try dsimp only at hSw); go_simp; (try with_reducible rfl))
            simp only [List.setIfInBounds_toArray, List.set_cons_zero, List.set_cons_succ]
            refine takeD (i := 9) (d := 49) (v := ?_) rfl rfl (by kernel_rfl) (by kernel_rfl) (by kernel_rfl) (fun _ _ _ h => h) (Or.inl ⟨by rfl, ?_⟩) hHeld ?_
            rotate_left 1
            · (intro w hSw; (try dsimp only at hSw); go_simp; (try with_reducible rfl))
            simp only [List.setIfInBounds_toArray, List.set_cons_zero, List.set_cons_succ]
            refine takeD (i := 10) (d := 50) (v := S.conv.pts) rfl rfl (by kernel_rfl) (by kernel_rfl) (by kernel_rfl) (fun _ _ _ h => h) (Or.inl ⟨by rfl, fun W hSw => ?_⟩) hHeld ?_
            · (try dsimp only at hSw)
              have cst := hSw.cell ((HRG.out _ Mods.refl) 13 _ (show S.cells.toList[13]? = some S.conv.pts from rfl)) (by simpa using HBG.out)
              go_simp
              skip
            simp only [List.setIfInBounds_toArray, List.set_cons_zero, List.set_cons_succ]
            refine wpAnyH_ready (rs := [11]) (by kernel_rfl) (by simp) ?_
            refine AllReadyH.cons rfl (fun K hK => ?_) AllReadyH.nil
            go_simp
            go_wp2_with (go_at_call 47; refine (HCP.out _ Mods.refl.drew).mono ?_; rintro e w4 ⟨u4, rfl, O4, M4⟩; obtain ⟨pad, pcap, hup⟩ := (O4.rd ptOk).len; subst hup; have HPT := Lib.hid (HPUT.out _ _ _ Mods.refl.drew M4 O4); have HM4 := Lib.hid ((Mods.refl.drew : Mods [] wr wr.drew).trans M4))
            refine hK.out _ _ ?_ (fun hHeld => ?_)
            · exact hHeld.trans M4.nil
            clear hK K
            refine takeD (i := 12) (d := 52) (v := ?_) rfl rfl (by kernel_rfl) (by kernel_rfl) (by kernel_rfl) (fun _ _ _ h => h) (Or.inl ⟨by rfl, ?_⟩) hHeld ?_
            rotate_left 1
            · (intro w hSw; (try dsimp only at hSw); go_simp; (try with_reducible rfl))
            simp only [List.setIfInBounds_toArray, List.set_cons_zero, List.set_cons_succ]
            refine takeD (i := 13) (d := 53) (v := ?_) rfl rfl (by kernel_rfl) (by kernel_rfl) (by kernel_rfl) (fun _ _ _ h => h) (Or.inl ⟨by rfl, ?_⟩) hHeld ?_
            rotate_left 1
            · (intro w hSw; (try dsimp only at hSw); go_simp; (try with_reducible rfl))
            simp only [List.setIfInBounds_toArray, List.set_cons_zero, List.set_cons_succ]
            refine takeD (i := 14) (d := 54) (v := ?_) rfl rfl (by kernel_rfl) (by kernel_rfl) (by kernel_rfl) (fun _ _ _ h => h) (Or.inl ⟨by rfl, ?_⟩) hHeld ?_
            rotate_left 1
            · (intro w hSw; (try dsimp only at hSw); go_simp; (try with_reducible rfl))
            simp only [List.setIfInBounds_toArray, List.set_cons_zero, List.set_cons_succ]
            have hcell : w4.cell? ⟨g, k * 28 + 13, none⟩ = some (l'.getD k default).S.conv.pts := by
              have hh := (show RdE senE wr (.slice (some ⟨g, 0, none⟩) l'.length scap) l' from by rw [HN1.out.tw.1]; exact HN1.out.own.rd senOk).range (show k < l'.length by rw [HN1.out.tw.1]; exact HKL.out) senOk.len
              have h2 := HM4.out.cell (hh 13 _ (show (l'.getD k default).S.cells.toList[13]? = some _ from rfl)) (by simp)
              rwa [Nat.zero_add] at h2
            have hfr : w4.frozen? ⟨g, k * 28 + 13, none⟩ = false := by
              rcases HN1.out.own.2 with ⟨h0, _⟩ | ⟨g', cap', cur, hv, hb, hg, _⟩
              · cases h0
              · injection hv with e1
                injection e1 with e1
                injection e1 with e1
                subst e1
                exact froz_blk (HM4.out.heap hg (by simp)) _
            refine wpAnyH_ready (rs := [15]) (by kernel_rfl) (by simp) ?_
            refine AllReadyH.cons rfl (fun K hK => ?_) AllReadyH.nil
            go_simp
            refine hK.out _ _ ?_ (fun hHeld => ?_)
            · exact hHeld.setCell (.inl (by simp)) _
            clear hK K
            refine wpAnyH_done (by kernel_rfl) ?_ _
            go_wp2_with fail
            go_roundw
            case rel => exact ⟨k + 1, by omega, by go_num, Lib.hid HPT.out⟩
            case measure => simp [intOf]; omega
          · have i1 : ¬ (k : Int) < (l.length : Int) := by omega
            have hkl : k = l.length := by omega
            subst hkl
            obtain ⟨l', hN⟩ := HN.out
            have HN2 := Lib.hid hN
            clear hN
            go_wp2_with fail
            go_ret2
            rw [HP.out, if_pos HS.out, if_pos HE.out]
            have hs2 := HM2.out.size
            have hlo := HN2.out.lo
            exact ⟨HM2.out.trans HN2.out.M, mb, fb, sb, _, _, l', rfl, HN2.out.tw, HN2.out.mon HS.out HE.out HAL2.out, ⟨by omega, by omega, by omega⟩, fun q hq => Nat.le_trans hs2 (HN2.out.own.lt q hq).1, fun q hq => Nat.le_trans hs2 (HN2.out.asc.lt q hq).1, fun i hi q hq => Nat.le_trans hs2 ((HN2.out.done i (by rw [← HN2.out.tw.1]; exact hi)).2 q hq).1⟩
    · have HE := Lib.hid he
      have hne : ((chkE A) != 0) = true := by simpa using he
      generalize hce : chkE A = ce at HCE hne
      clear he
      go_enter Tryz.func14, Tryz.ntmps14
      go_wp2_with fail
      refine HCK.out.mono ?_
      rintro e w1 ⟨rfl, M1⟩
      have HM1 := Lib.hid M1
      clear M1
      go_wp2_with fail
      refine (HCE.out _ HM1.out).mono ?_
      rintro e w2 ⟨rfl, M2⟩
      have HM2 := Lib.hid (HM1.out.trans M2)
      clear M2 HM1
      go_wp2_with fail
      go_ret2
      rw [HP.out, if_pos HS.out, if_neg HE.out]
      exact ⟨HM2.out, by rw [hce]; rfl⟩
  · have HS := Lib.hid hs
    have hne : ((chkS l) != 0) = true := by simpa using hs
    generalize hcs : chkS l = cs at HCK hne
    clear hs
    go_enter Tryz.func14, Tryz.ntmps14
    go_wp2_with fail
    refine HCK.out.mono ?_
    rintro e w1 ⟨rfl, M1⟩
    have HM1 := Lib.hid M1
    clear M1
    go_wp2_with fail
    go_ret2
    rw [HP.out, if_neg HS.out]
    exact ⟨HM1.out, by rw [hcs]; rfl⟩
end Go.Proofs.YtijjkonephjodaaGreatDoor
