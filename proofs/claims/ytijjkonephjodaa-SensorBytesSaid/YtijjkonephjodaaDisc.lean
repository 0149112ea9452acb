/- sensor.discrete and sensor.Valid: contracts. -/
import Derived.Test.YtijjkonephjodaaAnalog
namespace Go.Proofs.Ytijjkonephjodaa
open Go.RowKit

theorem run_part_u8 (xs : Array Value) (i : Nat) (x : Int) (h : xs[i]? = some (.int .u8 x)) (w : World) : (part 5 xs i).run Try.prog w = .ok (.int .u8 x) w := by
  simp [part, go_sem, h]
theorem arr_eq (d : Nat) (x0 x1 x2 x3 x4 x5 y0 y1 y2 y3 y4 y5 : Int) (w : World) :
    (Op.equalIn (d + 2) 27 (.agg #[.int .u8 x0, .int .u8 x1, .int .u8 x2, .int .u8 x3, .int .u8 x4, .int .u8 x5]) (.agg #[.int .u8 y0, .int .u8 y1, .int .u8 y2, .int .u8 y3, .int .u8 y4, .int .u8 y5])).run Try.prog w
      = .ok (x0 == y0 && x1 == y1 && x2 == y2 && x3 == y3 && x4 == y4 && x5 == y5) w := by
  rw [Op.equalIn]
  simp only [Sem.run_bind, run_underlying Try.underlying27, Result.andThen_ok, Try.sizeOf5]
  simp only [Std.Legacy.Range.forIn_eq_forIn_range']
  simp [List.range', part, go_sem]
  by_cases h0 : x0 = y0 <;> by_cases h1 : x1 = y1 <;> by_cases h2 : x2 = y2 <;> by_cases h3 : x3 = y3 <;> by_cases h4 : x4 = y4 <;> by_cases h5 : x5 = y5 <;> simp [h0, h1, h2, h3, h4, h5]
theorem lims_eq (m x0 x1 x2 x3 x4 x5 n y0 y1 y2 y3 y4 y5 : Int) (w : World) :
    (binOp .eql 29 (.agg #[.int .u8 m, .int .u8 x0, .int .u8 x1, .int .u8 x2, .int .u8 x3, .int .u8 x4, .int .u8 x5]) (.agg #[.int .u8 n, .int .u8 y0, .int .u8 y1, .int .u8 y2, .int .u8 y3, .int .u8 y4, .int .u8 y5])).run Try.prog w
      = .ok (.bool (m == n && (x0 == y0 && x1 == y1 && x2 == y2 && x3 == y3 && x4 == y4 && x5 == y5))) w := by
  have ha := fun W => arr_eq 9997 x0 x1 x2 x3 x4 x5 y0 y1 y2 y3 y4 y5 W
  simp only [Nat.reduceAdd] at ha
  simp [go_sem, part]
  rw [ha]
  generalize (x0 == y0 && x1 == y1 && x2 == y2 && x3 == y3 && x4 == y4 && x5 == y5) = B
  by_cases h : m = n <;> cases B <;> simp [h]
theorem Sen.limc (S : Sen) : S.cells[14]? = some (.int .u8 S.mask) ∧ S.cells[15]? = some (.int .u8 S.r0) ∧ S.cells[16]? = some (.int .u8 S.r1) ∧ S.cells[17]? = some (.int .u8 S.r2) ∧ S.cells[18]? = some (.int .u8 S.r3) ∧ S.cells[19]? = some (.int .u8 S.r4) ∧ S.cells[20]? = some (.int .u8 S.r5) := ⟨rfl, rfl, rfl, rfl, rfl, rfl, rfl⟩
theorem Sen.restc (S : Sen) : S.cells[21]? = some (.int .u8 S.hl) ∧ S.cells[22]? = some (.int .u8 S.hu) ∧ S.cells[23]? = some (.int .u16 S.states) ∧ S.cells[24]? = some (.int .u16 S.asrt) ∧ S.cells[25]? = some (.int .u16 S.deas) ∧ S.cells[26]? = some (.bool S.host) ∧ S.cells[27]? = some (.int .i64 S.samples) := ⟨rfl, rfl, rfl, rfl, rfl, rfl, rfl⟩
theorem Sen.headc (S : Sen) : S.cells[0]? = some (.int .u8 S.number) ∧ S.cells[1]? = some (.int .u8 S.type) ∧ S.cells[2]? = some (.int .u8 S.unit) ∧ S.cells[3]? = some (.string S.name) ∧ S.cells[4]? = some (.int .u8 S.eid) ∧ S.cells[5]? = some (.int .u8 S.einst) ∧ S.cells[6]? = some (.bool S.disc) := ⟨rfl, rfl, rfl, rfl, rfl, rfl, rfl⟩
theorem Sen.convc (S : Sen) : S.cells[7]? = some (.int .i64 S.conv.form) ∧ S.cells[8]? = some (.bool S.conv.sgn) ∧ S.cells[9]? = some (.int .i64 S.conv.m) ∧ S.cells[10]? = some (.int .i64 S.conv.b) ∧ S.cells[11]? = some (.int .i64 S.conv.k1) ∧ S.cells[12]? = some (.int .i64 S.conv.k2) ∧ S.cells[13]? = some S.conv.pts := ⟨rfl, rfl, rfl, rfl, rfl, rfl, rfl⟩
set_option maxRecDepth 100000 in
set_option maxHeartbeats 4000000 in
theorem discrete_ok (w : World) (S : Sen) (P : List Pt) (hS : IsSen w S P) :
    Calls Try.prog 76 #[.agg S.cells] w fun e w' => e = .returned (.bool (discB S P)) ∧ Mods [] w w' := by
  have hm := hS.mask
  have hst := hS.states
  have ha := hS.asrt
  have hd := hS.deas
  have hpl := hS.conv.pok.len
  obtain ⟨ad, cap, hpts⟩ := hS.conv.rd.len
  clear hS
  have B0 := SenBox.new w S
  have M0 := (Mods.refl (S := []) (w := w)).alloc (.cells S.cells 32)
  obtain ⟨x7, x8, x9, x10, x11, x12, x13⟩ := B0.conv
  rw [hpts] at x13
  have ho : S.asrt ||| S.deas < 65536 := Nat.or_lt_two_pow (n := 16) ha hd
  have b1 : bits .or .u16 (S.asrt : Int) (S.deas : Int) = ((S.asrt ||| S.deas : Nat) : Int) := u16_or_nat _ _ ha hd
  have b2 : bits .andNot .u16 ((S.asrt ||| S.deas : Nat) : Int) (S.states : Int) = (((S.asrt ||| S.deas) &&& (65535 - S.states) : Nat) : Int) := u16_andNot_nat _ _ ho hst
  have hle := fun W => lims_eq (S.mask : Int) (S.r0 : Int) (S.r1 : Int) (S.r2 : Int) (S.r3 : Int) (S.r4 : Int) (S.r5 : Int) 0 0 0 0 0 0 0 W
  obtain ⟨y14, y15, y16, y17, y18, y19, y20⟩ := B0.lims
  obtain ⟨y21, y22, y23, y24, y25, _, y27⟩ := B0.rest
  have hlz : (((S.mask : Int) == 0) && (((S.r0 : Int) == 0) && ((S.r1 : Int) == 0) && ((S.r2 : Int) == 0) && ((S.r3 : Int) == 0) && ((S.r4 : Int) == 0) && ((S.r5 : Int) == 0))) = decide (S.mask = 0 ∧ S.r0 = 0 ∧ S.r1 = 0 ∧ S.r2 = 0 ∧ S.r3 = 0 ∧ S.r4 = 0 ∧ S.r5 = 0) := by
    rw [Bool.eq_iff_iff]; simp; omega
  rw [hlz] at hle
  clear hlz
  have HD := Lib.hid (show discB S P = (decide (S.conv.form = 0) && !S.conv.sgn && decide (S.conv.m = 0) && decide (S.conv.b = 0) && decide (S.conv.k1 = 0) && decide (S.conv.k2 = 0) && decide (P.length = 0)
      && decide (S.mask = 0 ∧ S.r0 = 0 ∧ S.r1 = 0 ∧ S.r2 = 0 ∧ S.r3 = 0 ∧ S.r4 = 0 ∧ S.r5 = 0) && decide (S.hl = 0) && decide (S.hu = 0) && decide (S.samples = 1) && decide (S.states ≤ 32767) && decide ((S.asrt ||| S.deas) &&& (65535 - S.states) = 0)) by
    unfold discB
    rw [Bool.eq_iff_iff]
    simp
    cases S.conv.sgn <;> simp [and_assoc])
  generalize decide (S.mask = 0 ∧ S.r0 = 0 ∧ S.r1 = 0 ∧ S.r2 = 0 ∧ S.r3 = 0 ∧ S.r4 = 0 ∧ S.r5 = 0) = lz at hle HD
  go_enter Try.func76, Try.ntmps76
  obtain ⟨z14, z15, z16, z17, z18, z19, z20⟩ := S.limc
  obtain ⟨z21, z22, z23, z24, z25, _, z27⟩ := S.restc
  go_wp2_with fail
  all_goals
    go_ret
    exact ⟨ret_bool (by rw [HD.out]; first | (simp_all; done) | (rw [Bool.eq_iff_iff]; simp_all; try omega)), by first | exact (Mods.refl.alloc _).alloc _ | exact Mods.refl.alloc _⟩
end Go.Proofs.Ytijjkonephjodaa
