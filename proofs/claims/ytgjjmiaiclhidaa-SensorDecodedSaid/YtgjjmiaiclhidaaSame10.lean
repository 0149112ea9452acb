/- The reference's Same of sensor records that are equal: contract. -/
import Derived.Test.YtgjjmiaiclhidaaDecE
import Derived.Test.YtgjjmiaiclhidaaSenBack
import Derived.Test.YtgjjmiaiclhidaaValD
import Derived.Test.YtgjjmiaiclhidaaBaseC
import Derived.BigGuardPart
namespace Go.Proofs.Ytgjjmiaiclhidaa
open Go.RowKit

theorem ent_eq (x y x' y' : Int) (w : World) :
    (binOp .eql 23 (.agg #[.int .u8 x, .int .u8 y]) (.agg #[.int .u8 x', .int .u8 y'])).run Try.prog w = .ok (.bool (x == x' && y == y')) w := by
  simp [go_sem, part]
  by_cases h : x = x' <;> by_cases h2 : y = y' <;> simp [h, h2]
set_option maxRecDepth 100000 in
set_option maxHeartbeats 4000000 in
theorem refSame10_ok (w : World) (S : Sen) (P : List Pt) (pa pb : Value) (ha : IsConv w (S.conv.with pa) P) (hb : IsConv w (S.conv.with pb) P) :
    Calls Try.prog 36 #[.agg (S.with pa).cells, .agg (S.with pb).cells] w fun e w' => e = .returned (.bool true) ∧ Mods [] w w' := by
  have HC := Lib.hid (fun W (M : Mods [] w W) => same04_ok W _ _ P P (ha.mods0 M) (hb.mods0 M))
  rw [show sameC (S.conv.with pa) P (S.conv.with pb) P = true from sameC_refl ⟨rfl, rfl, rfl, rfl, rfl, rfl⟩] at HC
  have HM0 := Lib.hid (((Mods.refl (S := []) (w := w)).alloc (.cells (S.with pa).cells 32)).alloc (.cells (S.with pb).cells 32))
  have a0 : (S.with pa).cells[0]? = some (.int .u8 S.number) := rfl
  have a1 : (S.with pa).cells[1]? = some (.int .u8 S.type) := rfl
  have a2 : (S.with pa).cells[2]? = some (.int .u8 S.unit) := rfl
  have a3 : (S.with pa).cells[3]? = some (.string S.name) := rfl
  have a4 : (S.with pa).cells[4]? = some (.int .u8 S.eid) := rfl
  have a5 : (S.with pa).cells[5]? = some (.int .u8 S.einst) := rfl
  have a6 : (S.with pa).cells[6]? = some (.bool S.disc) := rfl
  have a7 : (S.with pa).cells[7]? = some (.int .i64 S.conv.form) := rfl
  have a8 : (S.with pa).cells[8]? = some (.bool S.conv.sgn) := rfl
  have a9 : (S.with pa).cells[9]? = some (.int .i64 S.conv.m) := rfl
  have a10 : (S.with pa).cells[10]? = some (.int .i64 S.conv.b) := rfl
  have a11 : (S.with pa).cells[11]? = some (.int .i64 S.conv.k1) := rfl
  have a12 : (S.with pa).cells[12]? = some (.int .i64 S.conv.k2) := rfl
  have a13 : (S.with pa).cells[13]? = some (pa) := rfl
  have a14 : (S.with pa).cells[14]? = some (.int .u8 S.mask) := rfl
  have a15 : (S.with pa).cells[15]? = some (.int .u8 S.r0) := rfl
  have a16 : (S.with pa).cells[16]? = some (.int .u8 S.r1) := rfl
  have a17 : (S.with pa).cells[17]? = some (.int .u8 S.r2) := rfl
  have a18 : (S.with pa).cells[18]? = some (.int .u8 S.r3) := rfl
  have a19 : (S.with pa).cells[19]? = some (.int .u8 S.r4) := rfl
  have a20 : (S.with pa).cells[20]? = some (.int .u8 S.r5) := rfl
  have a21 : (S.with pa).cells[21]? = some (.int .u8 S.hl) := rfl
  have a22 : (S.with pa).cells[22]? = some (.int .u8 S.hu) := rfl
  have a23 : (S.with pa).cells[23]? = some (.int .u16 S.states) := rfl
  have a24 : (S.with pa).cells[24]? = some (.int .u16 S.asrt) := rfl
  have a25 : (S.with pa).cells[25]? = some (.int .u16 S.deas) := rfl
  have a26 : (S.with pa).cells[26]? = some (.bool S.host) := rfl
  have a27 : (S.with pa).cells[27]? = some (.int .i64 S.samples) := rfl
  have b0 : (S.with pb).cells[0]? = some (.int .u8 S.number) := rfl
  have b1 : (S.with pb).cells[1]? = some (.int .u8 S.type) := rfl
  have b2 : (S.with pb).cells[2]? = some (.int .u8 S.unit) := rfl
  have b3 : (S.with pb).cells[3]? = some (.string S.name) := rfl
  have b4 : (S.with pb).cells[4]? = some (.int .u8 S.eid) := rfl
  have b5 : (S.with pb).cells[5]? = some (.int .u8 S.einst) := rfl
  have b6 : (S.with pb).cells[6]? = some (.bool S.disc) := rfl
  have b7 : (S.with pb).cells[7]? = some (.int .i64 S.conv.form) := rfl
  have b8 : (S.with pb).cells[8]? = some (.bool S.conv.sgn) := rfl
  have b9 : (S.with pb).cells[9]? = some (.int .i64 S.conv.m) := rfl
  have b10 : (S.with pb).cells[10]? = some (.int .i64 S.conv.b) := rfl
  have b11 : (S.with pb).cells[11]? = some (.int .i64 S.conv.k1) := rfl
  have b12 : (S.with pb).cells[12]? = some (.int .i64 S.conv.k2) := rfl
  have b13 : (S.with pb).cells[13]? = some (pb) := rfl
  have b14 : (S.with pb).cells[14]? = some (.int .u8 S.mask) := rfl
  have b15 : (S.with pb).cells[15]? = some (.int .u8 S.r0) := rfl
  have b16 : (S.with pb).cells[16]? = some (.int .u8 S.r1) := rfl
  have b17 : (S.with pb).cells[17]? = some (.int .u8 S.r2) := rfl
  have b18 : (S.with pb).cells[18]? = some (.int .u8 S.r3) := rfl
  have b19 : (S.with pb).cells[19]? = some (.int .u8 S.r4) := rfl
  have b20 : (S.with pb).cells[20]? = some (.int .u8 S.r5) := rfl
  have b21 : (S.with pb).cells[21]? = some (.int .u8 S.hl) := rfl
  have b22 : (S.with pb).cells[22]? = some (.int .u8 S.hu) := rfl
  have b23 : (S.with pb).cells[23]? = some (.int .u16 S.states) := rfl
  have b24 : (S.with pb).cells[24]? = some (.int .u16 S.asrt) := rfl
  have b25 : (S.with pb).cells[25]? = some (.int .u16 S.deas) := rfl
  have b26 : (S.with pb).cells[26]? = some (.bool S.host) := rfl
  have b27 : (S.with pb).cells[27]? = some (.int .i64 S.samples) := rfl
  have hle := fun W => lims_eq (S.mask : Int) (S.r0 : Int) (S.r1 : Int) (S.r2 : Int) (S.r3 : Int) (S.r4 : Int) (S.r5 : Int) (S.mask : Int) (S.r0 : Int) (S.r1 : Int) (S.r2 : Int) (S.r3 : Int) (S.r4 : Int) (S.r5 : Int) W
  have hlz : (((S.mask : Int) == S.mask) && (((S.r0 : Int) == S.r0) && ((S.r1 : Int) == S.r1) && ((S.r2 : Int) == S.r2) && ((S.r3 : Int) == S.r3) && ((S.r4 : Int) == S.r4) && ((S.r5 : Int) == S.r5))) = true := by simp
  rw [hlz] at hle
  clear hlz ha hb
  have hen := fun W => ent_eq (S.eid : Int) (S.einst : Int) (S.eid : Int) (S.einst : Int) W
  have hez : ((S.eid : Int) == S.eid && (S.einst : Int) == S.einst) = true := by simp
  rw [hez] at hen
  clear hez
  have hbd : (S.disc == S.disc) = true := by cases S.disc <;> rfl
  have hbh : (S.host == S.host) = true := by cases S.host <;> rfl
  go_enter Try.func36, Try.ntmps36
  go_wp2_with fail
  refine (HC.out _ HM0.out).mono ?_
  rintro e w1 ⟨rfl, M1⟩
  have HM1 := Lib.hid (HM0.out.trans M1)
  have BA : Hid (SenBox w1 w.heap.size (S.with pa)) := Lib.hid ((SenBox.mk (heap_alloc (o' := .cells (S.with pb).cells 32) (heap_alloc_new w (.cells (S.with pa).cells 32)))).mods0 M1)
  have BB : Hid (SenBox w1 (w.heap.size + 1) (S.with pb)) := Lib.hid (by
    have h := heap_alloc_new (w.alloc (.cells (S.with pa).cells 32)) (.cells (S.with pb).cells 32)
    rw [World.size_alloc] at h
    exact (SenBox.mk h).mods0 M1)
  clear M1
  have p14 : w1.cell? ⟨w.heap.size, 14, none⟩ = some (.int .u8 S.mask) := (BA.out.c 14).trans rfl
  have q14 : w1.cell? ⟨w.heap.size + 1, 14, none⟩ = some (.int .u8 S.mask) := (BB.out.c 14).trans rfl
  have p15 : w1.cell? ⟨w.heap.size, 15, none⟩ = some (.int .u8 S.r0) := (BA.out.c 15).trans rfl
  have q15 : w1.cell? ⟨w.heap.size + 1, 15, none⟩ = some (.int .u8 S.r0) := (BB.out.c 15).trans rfl
  have p16 : w1.cell? ⟨w.heap.size, 16, none⟩ = some (.int .u8 S.r1) := (BA.out.c 16).trans rfl
  have q16 : w1.cell? ⟨w.heap.size + 1, 16, none⟩ = some (.int .u8 S.r1) := (BB.out.c 16).trans rfl
  have p17 : w1.cell? ⟨w.heap.size, 17, none⟩ = some (.int .u8 S.r2) := (BA.out.c 17).trans rfl
  have q17 : w1.cell? ⟨w.heap.size + 1, 17, none⟩ = some (.int .u8 S.r2) := (BB.out.c 17).trans rfl
  have p18 : w1.cell? ⟨w.heap.size, 18, none⟩ = some (.int .u8 S.r3) := (BA.out.c 18).trans rfl
  have q18 : w1.cell? ⟨w.heap.size + 1, 18, none⟩ = some (.int .u8 S.r3) := (BB.out.c 18).trans rfl
  have p19 : w1.cell? ⟨w.heap.size, 19, none⟩ = some (.int .u8 S.r4) := (BA.out.c 19).trans rfl
  have q19 : w1.cell? ⟨w.heap.size + 1, 19, none⟩ = some (.int .u8 S.r4) := (BB.out.c 19).trans rfl
  have p20 : w1.cell? ⟨w.heap.size, 20, none⟩ = some (.int .u8 S.r5) := (BA.out.c 20).trans rfl
  have q20 : w1.cell? ⟨w.heap.size + 1, 20, none⟩ = some (.int .u8 S.r5) := (BB.out.c 20).trans rfl
  have p21 : w1.cell? ⟨w.heap.size, 21, none⟩ = some (.int .u8 S.hl) := (BA.out.c 21).trans rfl
  have q21 : w1.cell? ⟨w.heap.size + 1, 21, none⟩ = some (.int .u8 S.hl) := (BB.out.c 21).trans rfl
  have p22 : w1.cell? ⟨w.heap.size, 22, none⟩ = some (.int .u8 S.hu) := (BA.out.c 22).trans rfl
  have q22 : w1.cell? ⟨w.heap.size + 1, 22, none⟩ = some (.int .u8 S.hu) := (BB.out.c 22).trans rfl
  have p23 : w1.cell? ⟨w.heap.size, 23, none⟩ = some (.int .u16 S.states) := (BA.out.c 23).trans rfl
  have q23 : w1.cell? ⟨w.heap.size + 1, 23, none⟩ = some (.int .u16 S.states) := (BB.out.c 23).trans rfl
  have p24 : w1.cell? ⟨w.heap.size, 24, none⟩ = some (.int .u16 S.asrt) := (BA.out.c 24).trans rfl
  have q24 : w1.cell? ⟨w.heap.size + 1, 24, none⟩ = some (.int .u16 S.asrt) := (BB.out.c 24).trans rfl
  have p25 : w1.cell? ⟨w.heap.size, 25, none⟩ = some (.int .u16 S.deas) := (BA.out.c 25).trans rfl
  have q25 : w1.cell? ⟨w.heap.size + 1, 25, none⟩ = some (.int .u16 S.deas) := (BB.out.c 25).trans rfl
  have p26 : w1.cell? ⟨w.heap.size, 26, none⟩ = some (.bool S.host) := (BA.out.c 26).trans rfl
  have q26 : w1.cell? ⟨w.heap.size + 1, 26, none⟩ = some (.bool S.host) := (BB.out.c 26).trans rfl
  have p27 : w1.cell? ⟨w.heap.size, 27, none⟩ = some (.int .i64 S.samples) := (BA.out.c 27).trans rfl
  have q27 : w1.cell? ⟨w.heap.size + 1, 27, none⟩ = some (.int .i64 S.samples) := (BB.out.c 27).trans rfl
  go_wp2_with fail
  go_ret
  exact ⟨rfl, HM1.out⟩
end Go.Proofs.Ytgjjmiaiclhidaa
