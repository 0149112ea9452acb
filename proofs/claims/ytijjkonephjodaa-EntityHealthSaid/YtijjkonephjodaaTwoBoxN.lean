/- Two boxes at the end of a drawn region: 2 allocations, 2 stores. -/
import Derived.Test.YtijjkonephjodaaTwoBox
namespace Go.Proofs.Ytijjkonephjodaa
open Go.RowKit

section
variable {P : Program} {md : Region.Mode} {S : World → Prop} {Q : Exit → Act → World → Prop} {T : TypeId}
theorem twoBoxesAt {ops : Array Oper} {lst : Array Bool} {i2 i3 i4 i5 : Nat} (h23 : i2 ≠ i3) {a : Act} {w : World} {o2 o3 o4 o5 : Oper} {dA dB sA sB : Nat} {ty : TypeId} {z csA csB : Array Value} {fuel : Nat}
    (h2 : ops[i2]? = some o2) (h3 : ops[i3]? = some o3) (h4 : ops[i4]? = some o4) (h5 : ops[i5]? = some o5)
    (g2 : o2.guard = none) (g3 : o3.guard = none) (g4 : o4.guard = none) (g5 : o5.guard = none) (d2 : o2.dst = some dA) (d3 : o3.dst = some dB) (d4 : o4.dst = none) (d5 : o5.dst = none)
    (r2 : ∀ (a : Act) w, (execOp a.eval o2).run P w = .ok (.value (.pointer (some ⟨w.heap.size, 0, none⟩))) (w.alloc (.cells z T)))
    (r3 : ∀ (a : Act) w, (execOp a.eval o3).run P w = .ok (.value (.pointer (some ⟨w.heap.size, 0, none⟩))) (w.alloc (.cells z T)))
    (p4 : o4.op = .store ty (.tmp dA) (.tmp sA)) (p5 : o5.op = .store ty (.tmp dB) (.tmp sB))
    (zA : z.size = csA.size) (zB : z.size = csB.size) (iA : (P.info? ty).map (·.size) = some csA.size) (iB : (P.info? ty).map (·.size) = some csB.size)
    (oneA : csA.all (·.oneCell') = true) (oneB : csB.all (·.oneCell') = true)
    (lA : dA < a.tmps.size) (lB : dB < a.tmps.size) (nAB : dA ≠ dB) (nA1 : dA ≠ sA) (nA2 : dA ≠ sB) (nB1 : dB ≠ sA) (nB2 : dB ≠ sB)
    (vA : a.tmps.getD sA undef = .agg csA) (vB : a.tmps.getD sB undef = .agg csB)
    (t1 : Region.ready md ops lst = [i2, i3]) (t2 : Region.ready md ops (lst.setIfInBounds i2 true) = [i3]) (t3 : Region.ready md ops (lst.setIfInBounds i3 true) = [i2])
    (t4 : Region.ready md ops ((lst.setIfInBounds i2 true).setIfInBounds i3 true) = [i4]) (t5 : Region.ready md ops (((lst.setIfInBounds i2 true).setIfInBounds i3 true).setIfInBounds i4 true) = [i5]) (t6 : Region.ready md ops ((((lst.setIfInBounds i2 true).setIfInBounds i3 true).setIfInBounds i4 true).setIfInBounds i5 true) = []) (hK : ∀ w', Mods [] w w' → S w')
    (h : ∀ gA gB W, TB T w W (some (gA, csA)) (some (gB, csB)) → Q .normal { a with tmps := (a.tmps.setIfInBounds dA (.pointer (some ⟨gA, 0, none⟩))).setIfInBounds dB (.pointer (some ⟨gB, 0, none⟩)) } W) :
    wpAnyH P md ops Q S (fuel + 4) lst a w := by
  have comm : ∀ gA gB, (a.tmps.setIfInBounds dB (.pointer (some ⟨gB, 0, none⟩))).setIfInBounds dA (.pointer (some ⟨gA, 0, none⟩)) = (a.tmps.setIfInBounds dA (.pointer (some ⟨gA, 0, none⟩))).setIfInBounds dB (.pointer (some ⟨gB, 0, none⟩)) := fun gA gB => Array.setIfInBounds_comm _ _ nAB.symm
  have e1 : ∀ gA gB, ({ a with tmps := (a.tmps.setIfInBounds dA (.pointer (some ⟨gA, 0, none⟩))).setIfInBounds dB (.pointer (some ⟨gB, 0, none⟩)) } : Act).eval (.tmp dA) = .pointer (some ⟨gA, 0, none⟩) := fun gA gB => (getD_set_other nAB.symm).trans (getD_set_same lA)
  have e2 : ∀ gA gB, ({ a with tmps := (a.tmps.setIfInBounds dA (.pointer (some ⟨gA, 0, none⟩))).setIfInBounds dB (.pointer (some ⟨gB, 0, none⟩)) } : Act).eval (.tmp sA) = .agg csA := fun gA gB => (getD_set_other nB1).trans ((getD_set_other nA1).trans vA)
  have e3 : ∀ gA gB, ({ a with tmps := (a.tmps.setIfInBounds dA (.pointer (some ⟨gA, 0, none⟩))).setIfInBounds dB (.pointer (some ⟨gB, 0, none⟩)) } : Act).eval (.tmp dB) = .pointer (some ⟨gB, 0, none⟩) := fun gA gB => getD_set_same (by simpa using lB)
  have e4 : ∀ gA gB, ({ a with tmps := (a.tmps.setIfInBounds dA (.pointer (some ⟨gA, 0, none⟩))).setIfInBounds dB (.pointer (some ⟨gB, 0, none⟩)) } : Act).eval (.tmp sB) = .agg csB := fun gA gB => (getD_set_other nB2).trans ((getD_set_other nA2).trans vB)
  have both : ∀ gA gB W, TB T w W (some (gA, z)) (some (gB, z)) → wpAnyH P md ops Q S (fuel + 2) ((lst.setIfInBounds i2 true).setIfInBounds i3 true) { a with tmps := (a.tmps.setIfInBounds dA (.pointer (some ⟨gA, 0, none⟩))).setIfInBounds dB (.pointer (some ⟨gB, 0, none⟩)) } W := by
    intro gA gB W hW
    refine wpAnyH_ready t4 (by simp) (AllReadyH.cons h4 (fun K hk => ?_) AllReadyH.nil)
    refine exec_store g4 d4 p4 (hW.A _ rfl).1 (e1 gA gB) (e2 gA gB) zA iA oneA (fun W' R M => ?_)
    have hW' := hW.storeA R M
    refine hk.out _ _ (hK _ hW'.M) (fun _ => ?_)
    refine wpAnyH_ready t5 (by simp) (AllReadyH.cons h5 (fun K hk => ?_) AllReadyH.nil)
    refine exec_store g5 d5 p5 (hW'.B _ rfl).1 (e3 gA gB) (e4 gA gB) zB iB oneB (fun W'' R M => ?_)
    have hW'' := (hW'.swap.storeA R M).swap
    exact hk.out _ _ (hK _ hW''.M) (fun _ => wpAnyH_done t6 (h _ _ _ hW'') _)
  refine wpAnyH_ready t1 (by simp) (AllReadyH.cons h2 (fun K hk => ?_) (AllReadyH.cons h3 (fun K hk => ?_) AllReadyH.nil))
  · refine exec_alloc g2 d2 r2 ?_
    have hW := (TB.start (T := T) w).allocA z
    refine hk.out _ _ (hK _ hW.M) (fun _ => ?_)
    refine wpAnyH_ready t2 (by simp) (AllReadyH.cons h3 (fun K hk => ?_) AllReadyH.nil)
    refine exec_alloc g3 d3 r3 ?_
    have hW2 := (hW.swap.allocA z).swap
    exact hk.out _ _ (hK _ hW2.M) (fun _ => both _ _ _ hW2)
  · refine exec_alloc g3 d3 r3 ?_
    have hW := ((TB.start (T := T) w).allocA z).swap
    refine hk.out _ _ (hK _ hW.M) (fun _ => ?_)
    refine wpAnyH_ready t3 (by simp) (AllReadyH.cons h2 (fun K hk => ?_) AllReadyH.nil)
    refine exec_alloc g2 d2 r2 ?_
    have hW2 := hW.allocA z
    refine hk.out _ _ (hK _ hW2.M) (fun _ => ?_)
    rw [comm, Array.setIfInBounds_comm _ _ h23.symm]
    exact both _ _ _ hW2
end
end Go.Proofs.Ytijjkonephjodaa
