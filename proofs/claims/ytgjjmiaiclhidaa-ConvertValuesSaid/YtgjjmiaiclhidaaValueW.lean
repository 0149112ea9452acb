/- convert.value, Value and the reference's Value: contracts. -/
import Derived.Test.YtgjjmiaiclhidaaBetween
import Derived.Test.YtgjjmiaiclhidaaMicroMul
import Derived.Test.YtgjjmiaiclhidaaMicroRoot
import Derived.Test.YtgjjmiaiclhidaaRefConv
namespace Go.Proofs.Ytgjjmiaiclhidaa
open Go.RowKit

theorem Conv.infoCC (C : Conv) : (Try.prog.info? 26).map (·.size) = some C.cells.size := by
  show _ = some 7
  kernel_rfl
/-- A conversion whose block is known. -/
theorem wpList_load_conv {ops : Array Oper} {rest : List Oper} {o : Oper} {a : Act} {w : World} {Q : Exit → Act → World → Prop} (hgd : o.guard = none) (x : Operand) (ho : o.op = .load 26 x)
    {g : Nat} {C : Conv} {fr : Nat × Nat} (hb : w.heap[g]? = some (.cells C.cells 26 fr)) (hx : a.eval x = .pointer (some ⟨g, 0, none⟩)) (h : wpList Try.prog ops Q rest (a.put o.dst (.agg C.cells)) w) : wpList Try.prog ops Q (o :: rest) a w :=
  wpList_load_row hgd _ x ho g hx _ _ _ _ hb Try.underlying26 rfl C.infoCC h
theorem valN_eq (C : Conv) (P : List Pt) (x : Int) : valN C P x = if C.form = 5 then (tabI C.sgn P x, 0) else if C.form = 2 then divV 1000000 (linI C x) else if C.form = 3 then (mulV (linI C x) (linI C x), 0)
  else if C.form = 4 then rootV (linI C x) else (linI C x, 0) := rfl
set_option maxRecDepth 100000 in
set_option maxHeartbeats 4000000 in
theorem valueI_ok (w : World) (C : Conv) (P : List Pt) (raw : Nat) (hC : IsConv w C P) (hv : convB C P = true) (hraw : raw < 256) :
    Calls Try.prog 89 #[.agg C.cells, .int .u8 (raw : Nat)] w fun e w' => e = .returned (.tuple #[.int .i64 (valI C P raw).1, .int .i64 (valI C P raw).2]) ∧ Mods [] w w' := by
  have R0 := Lib.hid (heap_alloc_new w (.cells C.cells 26))
  have M0 := Lib.hid ((Mods.refl (S := []) (w := w)).alloc (.cells C.cells 26))
  have HN := Lib.hid (number_ok C.sgn raw hraw)
  have hx := numI_bd (sgn := C.sgn) hraw
  have HV := Lib.hid (show valI C P raw = valN C P (numI C.sgn raw) from rfl)
  generalize valI C P raw = V at HV ⊢
  generalize numI C.sgn raw = x at HN hx HV
  have HE := Lib.hid (HV.out.trans (valN_eq C P x))
  obtain ⟨c0, c1, -⟩ := C.c7
  have HC := Lib.hid hC
  have HB := Lib.hid hv
  have hf := convB_form15 hv
  clear hC hv HV
  by_cases h5 : C.form = 5
  · have HR := Lib.hid (show V = (tabI C.sgn P x, 0) by rw [HE.out, if_pos h5])
    have HT := Lib.hid (fun W (M : Mods [] w W) => between_ok W C P x (HC.out.rd.mods0 M) (convB_tab HB.out h5) HC.out.pok.raw (by omega))
    have e5 : (C.form == 5) = true := by simpa using h5
    clear h5 hf
    go_enter Try.func89, Try.ntmps89
    go_wp2_with fail
    refine (HN.out _).mono ?_
    rintro e w' ⟨rfl, rfl⟩
    go_wp2_with (refine wpList_load_conv rfl (.tmp 2) rfl R0.out (by rfl) ?_)
    refine (HT.out _ M0.out).mono ?_
    rintro e w1 ⟨rfl, M1⟩
    go_wp2_with fail
    go_ret2
    exact ⟨ret_two HR.out, M0.out.trans M1⟩
  · have HL := convB_lin HB.out h5
    have HY := Lib.hid (fun W => linear_ok W C HL x (by omega))
    have e5 : (C.form == 5) = false := by simpa using h5
    replace HE := Lib.hid (HE.out.trans (if_neg h5))
    generalize linI C x = y at HY HE
    by_cases h2 : C.form = 2
    · have HR := Lib.hid (show V = divV 1000000 y by rw [HE.out, if_pos h2])
      have e2 : (C.form == 2) = true := by simpa using h2
      clear h5 h2 hf HL
      go_enter Try.func89, Try.ntmps89
      go_wp2_with fail
      refine (HN.out _).mono ?_
      rintro e w' ⟨rfl, rfl⟩
      go_wp2_with (refine wpList_load_conv rfl (.tmp 2) rfl R0.out (by rfl) ?_)
      refine (HY.out _).mono ?_
      rintro e w1 ⟨rfl, M1⟩
      have HM := Lib.hid (M0.out.trans M1)
      have z0 : w1.cell? ⟨w.heap.size, 0, none⟩ = some (.int .i64 C.form) := (cell_blk (M1.heap R0.out (by simp)) 0).trans rfl
      clear M1
      go_wp2_with fail
      refine (div_ok 1000000 y _).mono ?_
      rintro e w' ⟨rfl, rfl⟩
      go_wp2_with fail
      go_ret2
      exact ⟨ret_two (by rw [HR.out]), HM.out⟩
    · have e2 : (C.form == 2) = false := by simpa using h2
      replace HE := Lib.hid (HE.out.trans (if_neg h2))
      by_cases h3 : C.form = 3
      · have HR := Lib.hid (show V = (mulV y y, 0) by rw [HE.out, if_pos h3])
        have e3 : (C.form == 3) = true := by simpa using h3
        clear h5 h2 h3 hf HL
        go_enter Try.func89, Try.ntmps89
        go_wp2_with fail
        refine (HN.out _).mono ?_
        rintro e w' ⟨rfl, rfl⟩
        go_wp2_with (refine wpList_load_conv rfl (.tmp 2) rfl R0.out (by rfl) ?_)
        refine (HY.out _).mono ?_
        rintro e w1 ⟨rfl, M1⟩
        have HM := Lib.hid (M0.out.trans M1)
        have z0 : w1.cell? ⟨w.heap.size, 0, none⟩ = some (.int .i64 C.form) := (cell_blk (M1.heap R0.out (by simp)) 0).trans rfl
        clear M1
        go_wp2_with fail
        refine (mul_ok y y _).mono ?_
        rintro e w' ⟨rfl, nn, rfl⟩
        go_wp2_with fail
        go_ret2
        exact ⟨ret_two HR.out, HM.out.drewN _⟩
      · have e3 : (C.form == 3) = false := by simpa using h3
        replace HE := Lib.hid (HE.out.trans (if_neg h3))
        by_cases h4 : C.form = 4
        · have HR := Lib.hid (show V = rootV y by rw [HE.out, if_pos h4])
          have e4 : (C.form == 4) = true := by simpa using h4
          clear h5 h2 h3 h4 hf HL
          go_enter Try.func89, Try.ntmps89
          go_wp2_with fail
          refine (HN.out _).mono ?_
          rintro e w' ⟨rfl, rfl⟩
          go_wp2_with (refine wpList_load_conv rfl (.tmp 2) rfl R0.out (by rfl) ?_)
          refine (HY.out _).mono ?_
          rintro e w1 ⟨rfl, M1⟩
          have HM := Lib.hid (M0.out.trans M1)
          have z0 : w1.cell? ⟨w.heap.size, 0, none⟩ = some (.int .i64 C.form) := (cell_blk (M1.heap R0.out (by simp)) 0).trans rfl
          clear M1
          go_wp2_with fail
          refine (root_ok y _).mono ?_
          rintro e w' ⟨rfl, rfl⟩
          go_wp2_with fail
          go_ret2
          exact ⟨ret_two (by rw [HR.out]), HM.out⟩
        · have HR := Lib.hid (show V = (y, 0) by rw [HE.out, if_neg h4])
          have e4 : (C.form == 4) = false := by simpa using h4
          clear h5 h2 h3 h4 hf HL
          go_enter Try.func89, Try.ntmps89
          go_wp2_with fail
          refine (HN.out _).mono ?_
          rintro e w' ⟨rfl, rfl⟩
          go_wp2_with (refine wpList_load_conv rfl (.tmp 2) rfl R0.out (by rfl) ?_)
          refine (HY.out _).mono ?_
          rintro e w1 ⟨rfl, M1⟩
          have HM := Lib.hid (M0.out.trans M1)
          have z0 : w1.cell? ⟨w.heap.size, 0, none⟩ = some (.int .i64 C.form) := (cell_blk (M1.heap R0.out (by simp)) 0).trans rfl
          clear M1
          go_wp2_with fail
          go_ret2
          exact ⟨ret_two HR.out, HM.out⟩
set_option maxRecDepth 100000 in
set_option maxHeartbeats 4000000 in
theorem value_ok (w : World) (C : Conv) (P : List Pt) (raw : Nat) (hC : IsConv w C P) (hraw : raw < 256) :
    Calls Try.prog 43 #[.agg C.cells, .int .u8 (raw : Nat)] w fun e w' => e = .returned (.tuple #[.int .i64 (valueI C P raw).1, .int .i64 (valueI C P raw).2]) ∧ Mods [] w w' := by
  have R0 := Lib.hid (heap_alloc_new w (.cells C.cells 26))
  have M0 := Lib.hid ((Mods.refl (S := []) (w := w)).alloc (.cells C.cells 26))
  have HV := Lib.hid (show valueI C P raw = if convB C P then valI C P raw else (0, 1) from rfl)
  generalize valueI C P raw = V at HV ⊢
  have HC := Lib.hid hC
  have CV := Lib.hid (fun W (M : Mods [] w W) => convValid_ok W C P (HC.out.mods0 M))
  have VV := Lib.hid (fun W (M : Mods [] w W) (h : convB C P = true) => valueI_ok W C P raw (HC.out.mods0 M) h hraw)
  clear hC
  cases hb : convB C P with
  | false =>
    rw [hb] at CV
    have HR := Lib.hid (show V = (0, 1) by rw [HV.out, hb]; rfl)
    clear hb
    go_enter Try.func43, Try.ntmps43
    go_wp2_with (refine wpList_load_conv rfl (.tmp 2) rfl R0.out (by rfl) ?_)
    refine (CV.out _ M0.out).mono ?_
    rintro e w1 ⟨rfl, M1⟩
    go_wp2_with fail
    go_ret2
    exact ⟨ret_two HR.out, M0.out.trans M1⟩
  | true =>
    have VV := Lib.hid (fun W M => VV.out W M hb)
    rw [hb] at CV
    have HR := Lib.hid (show V = valI C P raw by rw [HV.out, hb]; rfl)
    clear hb
    go_enter Try.func43, Try.ntmps43
    go_wp2_with (refine wpList_load_conv rfl (.tmp 2) rfl R0.out (by rfl) ?_)
    refine (CV.out _ M0.out).mono ?_
    rintro e w1 ⟨rfl, M1⟩
    have HR1 := Lib.hid (M1.heap R0.out (by simp))
    have HM1 := Lib.hid (M0.out.trans M1)
    clear M1
    go_wp2_with (refine wpList_load_conv rfl (.tmp 2) rfl HR1.out (by rfl) ?_)
    refine (VV.out _ HM1.out).mono ?_
    rintro e w2 ⟨rfl, M2⟩
    go_wp2_with fail
    go_ret2
    exact ⟨ret_two (by rw [HR.out]), HM1.out.trans M2⟩
set_option maxRecDepth 100000 in
set_option maxHeartbeats 8000000 in
theorem refValue_ok (w : World) (C : Conv) (P : List Pt) (raw : Nat) (hC : IsConv w C P) (hraw : raw < 256) :
    Calls Try.prog 44 #[.agg C.cells, .int .u8 (raw : Nat)] w fun e w' => e = .returned (.tuple #[.int .i64 (valueI C P raw).1, .int .i64 (valueI C P raw).2]) ∧ Mods [] w w' := by
  have R0 := Lib.hid (heap_alloc_new w (.cells C.cells 26))
  have M0 := Lib.hid ((Mods.refl (S := []) (w := w)).alloc (.cells C.cells 26))
  have HV := Lib.hid (show valueI C P raw = if convB C P then valI C P raw else (0, 1) from rfl)
  generalize valueI C P raw = V at HV ⊢
  have HC := Lib.hid hC
  have CV := Lib.hid (fun W (M : Mods [] w W) => refConvValid_ok W C P (HC.out.mods0 M))
  clear hC
  cases hb : convB C P with
  | false =>
    rw [hb] at CV
    have HR := Lib.hid (show V = (0, 1) by rw [HV.out, hb]; rfl)
    clear hb
    go_enter Try.func44, Try.ntmps44
    go_wp2_with (refine wpList_load_conv rfl (.tmp 2) rfl R0.out (by rfl) ?_)
    refine (CV.out _ M0.out).mono ?_
    rintro e w1 ⟨rfl, M1⟩
    go_wp2_with fail
    go_ret2
    exact ⟨ret_two HR.out, M0.out.trans M1⟩
  | true =>
    rw [hb] at CV
    have HN := Lib.hid (refNumber_ok C.sgn raw hraw)
    have hx := numI_bd (sgn := C.sgn) hraw
    replace HV := Lib.hid (show V = valN C P (numI C.sgn raw) by rw [HV.out, hb]; rfl)
    generalize numI C.sgn raw = x at HN hx HV
    have HE := Lib.hid (HV.out.trans (valN_eq C P x))
    have HB := Lib.hid hb
    have hf := convB_form15 hb
    obtain ⟨ad, cap, hpts⟩ := HC.out.rd.len
    have HPT := Lib.hid hpts
    clear hb HV hpts
    by_cases h5 : C.form = 5
    · have HR := Lib.hid (show V = (tabI C.sgn P x, 0) by rw [HE.out, if_pos h5])
      have HT := Lib.hid (fun W (M : Mods [] w W) => refTab_ok W C.pts C.sgn P x (HC.out.rd.mods0 M) (convB_tab HB.out h5) HC.out.pok.raw (by omega))
      rw [HPT.out] at HT
      have e5 : (C.form == 5) = true := by simpa using h5
      clear h5 hf
      go_enter Try.func44, Try.ntmps44
      go_wp2_with (refine wpList_load_conv rfl (.tmp 2) rfl R0.out (by rfl) ?_)
      refine (CV.out _ M0.out).mono ?_
      rintro e w1 ⟨rfl, M1⟩
      have HR1 := Lib.hid (M1.heap R0.out (by simp))
      have HM1 := Lib.hid (M0.out.trans M1)
      have z0 : w1.cell? ⟨w.heap.size, 0, none⟩ = some (.int .i64 C.form) := (cell_blk HR1.out 0).trans rfl
      have z1 : w1.cell? ⟨w.heap.size, 1, none⟩ = some (.bool C.sgn) := (cell_blk HR1.out 1).trans rfl
      clear M1
      go_wp2_with fail
      refine (HN.out _).mono ?_
      rintro e w' ⟨rfl, rfl⟩
      have z6 : w1.cell? ⟨w.heap.size, 6, none⟩ = some (.slice ad P.length cap) := (cell_blk HR1.out 6).trans (by rw [← HPT.out]; rfl)
      go_wp2_with fail
      refine (HT.out _ HM1.out).mono ?_
      rintro e w2 ⟨rfl, n2, rfl⟩
      go_wp2_with fail
      go_ret2
      exact ⟨ret_two HR.out, HM1.out.drewN _⟩
    · have HLN := convB_lin HB.out h5
      have h := HLN
      replace hx : -128 ≤ x ∧ x ≤ 255 := by omega
      have HYY := Lib.hid (HE.out.trans (if_neg h5))
      clear HE
      have hk1 := h.k1
      have hk2 := h.k2
      have hm := h.m
      have hb := h.b
      have hmx := h.mx hx
      obtain ⟨p1, p2⟩ := h.parts hx
      obtain ⟨u, hu⟩ : ∃ u : Nat, (6 + C.k2) = (u : Int) := ⟨(6 + C.k2).toNat, by omega⟩
      obtain ⟨v, hv⟩ : ∃ v : Nat, (6 + C.k1 + C.k2) = (v : Int) := ⟨(6 + C.k1 + C.k2).toNat, by omega⟩
      have HL := Lib.hid (show linI C x = clampI (C.m * x * tenI u + C.b * tenI v) by unfold linI linS; rw [hu, hv, Int.toNat_natCast, Int.toNat_natCast])
      rw [hu, Int.toNat_natCast] at p1
      rw [hv, Int.toNat_natCast] at p2
      have w1' : IntKind.i64.wrap (C.m * x) = C.m * x := IntWalk.i64_in _ (by omega)
      have w2' : IntKind.i64.wrap (6 + C.k2) = (u : Int) := by rw [hu]; exact IntWalk.i64_in _ (by omega)
      have w3' : IntKind.i64.wrap (6 + C.k1) = 6 + C.k1 := IntWalk.i64_in _ (by omega)
      have w4' : IntKind.i64.wrap (6 + C.k1 + C.k2) = (v : Int) := by rw [hv]; exact IntWalk.i64_in _ (by omega)
      have w5' : IntKind.i64.wrap (C.m * x * tenI u) = C.m * x * tenI u := IntWalk.i64_in _ (by omega)
      have w6' : IntKind.i64.wrap (C.b * tenI v) = C.b * tenI v := IntWalk.i64_in _ (by omega)
      have w7' : IntKind.i64.wrap (C.m * x * tenI u + C.b * tenI v) = C.m * x * tenI u + C.b * tenI v := IntWalk.i64_in _ (by omega)
      have hu9 : u ≤ 12 := by omega
      have hv12 : v ≤ 12 := by omega
      have T1 := Lib.hid (fun W => refTen_ok u hu9 W)
      have T2 := Lib.hid (fun W => refTen_ok v hv12 W)
      have e5 : (C.form == 5) = false := by simpa using h5
      clear hu hv p1 p2 hmx hk1 hk2 hm hb h hx hf HLN
      have HLC := Lib.hid (show clampI (C.m * x * tenI u + C.b * tenI v) = linI C x from HL.out.symm)
      clear HL
      by_cases h2 : C.form = 2
      · have HR := Lib.hid (show V = divV 1000000 (linI C x) by rw [HYY.out, if_pos h2])
        have e2 : (C.form == 2) = true := by simpa using h2
        clear h5 h2
        go_enter Try.func44, Try.ntmps44
        go_wp2_with (refine wpList_load_conv rfl (.tmp 2) rfl R0.out (by rfl) ?_)
        refine (CV.out _ M0.out).mono ?_
        rintro e w1 ⟨rfl, M1⟩
        have HR1 := Lib.hid (M1.heap R0.out (by simp))
        have HM1 := Lib.hid (M0.out.trans M1)
        have z0 : w1.cell? ⟨w.heap.size, 0, none⟩ = some (.int .i64 C.form) := (cell_blk HR1.out 0).trans rfl
        have z1 : w1.cell? ⟨w.heap.size, 1, none⟩ = some (.bool C.sgn) := (cell_blk HR1.out 1).trans rfl
        clear M1
        go_wp2_with fail
        refine (HN.out _).mono ?_
        rintro e w' ⟨rfl, rfl⟩
        have z2 : w1.cell? ⟨w.heap.size, 2, none⟩ = some (.int .i64 C.m) := (cell_blk HR1.out 2).trans rfl
        have z3 : w1.cell? ⟨w.heap.size, 3, none⟩ = some (.int .i64 C.b) := (cell_blk HR1.out 3).trans rfl
        have z4 : w1.cell? ⟨w.heap.size, 4, none⟩ = some (.int .i64 C.k1) := (cell_blk HR1.out 4).trans rfl
        have z5 : w1.cell? ⟨w.heap.size, 5, none⟩ = some (.int .i64 C.k2) := (cell_blk HR1.out 5).trans rfl
        go_wp2_with fail
        go_quiet ((first
          | (go_at_call_of 91 (Value.int IntKind.i64 (u : Int)); exact quiet_left (T1.out _))
          | (go_at_call_of 91 (Value.int IntKind.i64 (v : Int)); exact quiet_left (T2.out _))
          | (go_at_call 51; exact quiet_left (refClamp_ok _ _))))
        go_wp2_with fail
        refine (refDiv_ok 1000000 _ _).mono ?_
        rintro e w' ⟨rfl, rfl⟩
        rw [HLC.out]
        go_wp2_with fail
        go_ret2
        exact ⟨ret_two (by rw [HR.out]), HM1.out.drewN _⟩
      · have e2 : (C.form == 2) = false := by simpa using h2
        replace HYY := Lib.hid (HYY.out.trans (if_neg h2))
        by_cases h3 : C.form = 3
        · have HR := Lib.hid (show V = (mulV (linI C x) (linI C x), 0) by rw [HYY.out, if_pos h3])
          have e3 : (C.form == 3) = true := by simpa using h3
          clear h5 h2 h3
          go_enter Try.func44, Try.ntmps44
          go_wp2_with (refine wpList_load_conv rfl (.tmp 2) rfl R0.out (by rfl) ?_)
          refine (CV.out _ M0.out).mono ?_
          rintro e w1 ⟨rfl, M1⟩
          have HR1 := Lib.hid (M1.heap R0.out (by simp))
          have HM1 := Lib.hid (M0.out.trans M1)
          have z0 : w1.cell? ⟨w.heap.size, 0, none⟩ = some (.int .i64 C.form) := (cell_blk HR1.out 0).trans rfl
          have z1 : w1.cell? ⟨w.heap.size, 1, none⟩ = some (.bool C.sgn) := (cell_blk HR1.out 1).trans rfl
          clear M1
          go_wp2_with fail
          refine (HN.out _).mono ?_
          rintro e w' ⟨rfl, rfl⟩
          have z2 : w1.cell? ⟨w.heap.size, 2, none⟩ = some (.int .i64 C.m) := (cell_blk HR1.out 2).trans rfl
          have z3 : w1.cell? ⟨w.heap.size, 3, none⟩ = some (.int .i64 C.b) := (cell_blk HR1.out 3).trans rfl
          have z4 : w1.cell? ⟨w.heap.size, 4, none⟩ = some (.int .i64 C.k1) := (cell_blk HR1.out 4).trans rfl
          have z5 : w1.cell? ⟨w.heap.size, 5, none⟩ = some (.int .i64 C.k2) := (cell_blk HR1.out 5).trans rfl
          go_wp2_with fail
          go_quiet ((first
            | (go_at_call_of 91 (Value.int IntKind.i64 (u : Int)); exact quiet_left (T1.out _))
            | (go_at_call_of 91 (Value.int IntKind.i64 (v : Int)); exact quiet_left (T2.out _))
            | (go_at_call 51; exact quiet_left (refClamp_ok _ _))))
          go_wp2_with fail
          refine (refMul_ok _ _ _).mono ?_
          rintro e w' ⟨rfl, rfl⟩
          rw [HLC.out]
          go_wp2_with fail
          go_ret2
          exact ⟨ret_two HR.out, HM1.out.drewN _⟩
        · have e3 : (C.form == 3) = false := by simpa using h3
          replace HYY := Lib.hid (HYY.out.trans (if_neg h3))
          by_cases h4 : C.form = 4
          · have HR := Lib.hid (show V = rootV (linI C x) by rw [HYY.out, if_pos h4])
            have e4 : (C.form == 4) = true := by simpa using h4
            clear h5 h2 h3 h4
            go_enter Try.func44, Try.ntmps44
            go_wp2_with (refine wpList_load_conv rfl (.tmp 2) rfl R0.out (by rfl) ?_)
            refine (CV.out _ M0.out).mono ?_
            rintro e w1 ⟨rfl, M1⟩
            have HR1 := Lib.hid (M1.heap R0.out (by simp))
            have HM1 := Lib.hid (M0.out.trans M1)
            have z0 : w1.cell? ⟨w.heap.size, 0, none⟩ = some (.int .i64 C.form) := (cell_blk HR1.out 0).trans rfl
            have z1 : w1.cell? ⟨w.heap.size, 1, none⟩ = some (.bool C.sgn) := (cell_blk HR1.out 1).trans rfl
            clear M1
            go_wp2_with fail
            refine (HN.out _).mono ?_
            rintro e w' ⟨rfl, rfl⟩
            have z2 : w1.cell? ⟨w.heap.size, 2, none⟩ = some (.int .i64 C.m) := (cell_blk HR1.out 2).trans rfl
            have z3 : w1.cell? ⟨w.heap.size, 3, none⟩ = some (.int .i64 C.b) := (cell_blk HR1.out 3).trans rfl
            have z4 : w1.cell? ⟨w.heap.size, 4, none⟩ = some (.int .i64 C.k1) := (cell_blk HR1.out 4).trans rfl
            have z5 : w1.cell? ⟨w.heap.size, 5, none⟩ = some (.int .i64 C.k2) := (cell_blk HR1.out 5).trans rfl
            go_wp2_with fail
            go_quiet ((first
              | (go_at_call_of 91 (Value.int IntKind.i64 (u : Int)); exact quiet_left (T1.out _))
              | (go_at_call_of 91 (Value.int IntKind.i64 (v : Int)); exact quiet_left (T2.out _))
              | (go_at_call 51; exact quiet_left (refClamp_ok _ _))))
            go_wp2_with fail
            refine (refRoot_ok _ _).mono ?_
            rintro e w' ⟨rfl, rfl⟩
            rw [HLC.out]
            go_wp2_with fail
            go_ret2
            exact ⟨ret_two (by rw [HR.out]), HM1.out.drewN _⟩
          · have HR := Lib.hid (show V = (linI C x, 0) by rw [HYY.out, if_neg h4])
            have e4 : (C.form == 4) = false := by simpa using h4
            clear h5 h2 h3 h4
            go_enter Try.func44, Try.ntmps44
            go_wp2_with (refine wpList_load_conv rfl (.tmp 2) rfl R0.out (by rfl) ?_)
            refine (CV.out _ M0.out).mono ?_
            rintro e w1 ⟨rfl, M1⟩
            have HR1 := Lib.hid (M1.heap R0.out (by simp))
            have HM1 := Lib.hid (M0.out.trans M1)
            have z0 : w1.cell? ⟨w.heap.size, 0, none⟩ = some (.int .i64 C.form) := (cell_blk HR1.out 0).trans rfl
            have z1 : w1.cell? ⟨w.heap.size, 1, none⟩ = some (.bool C.sgn) := (cell_blk HR1.out 1).trans rfl
            clear M1
            go_wp2_with fail
            refine (HN.out _).mono ?_
            rintro e w' ⟨rfl, rfl⟩
            have z2 : w1.cell? ⟨w.heap.size, 2, none⟩ = some (.int .i64 C.m) := (cell_blk HR1.out 2).trans rfl
            have z3 : w1.cell? ⟨w.heap.size, 3, none⟩ = some (.int .i64 C.b) := (cell_blk HR1.out 3).trans rfl
            have z4 : w1.cell? ⟨w.heap.size, 4, none⟩ = some (.int .i64 C.k1) := (cell_blk HR1.out 4).trans rfl
            have z5 : w1.cell? ⟨w.heap.size, 5, none⟩ = some (.int .i64 C.k2) := (cell_blk HR1.out 5).trans rfl
            go_wp2_with fail
            go_quiet ((first
              | (go_at_call_of 91 (Value.int IntKind.i64 (u : Int)); exact quiet_left (T1.out _))
              | (go_at_call_of 91 (Value.int IntKind.i64 (v : Int)); exact quiet_left (T2.out _))
              | (go_at_call 51; exact quiet_left (refClamp_ok _ _))))
            go_wp2_with fail
            go_ret2
            exact ⟨ret_two (by rw [HR.out, HLC.out]), HM1.out.drewN _⟩
end Go.Proofs.Ytgjjmiaiclhidaa
