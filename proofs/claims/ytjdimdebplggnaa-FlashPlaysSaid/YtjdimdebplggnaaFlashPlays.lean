/- FlashPlays: the walk. -/
import Derived.Test.YtjdimdebplggnaaLawSame
import Derived.Test.YtjdimdebplggnaaFlashClears
namespace Go.Proofs.Ytjdimdebplggnaa
open Go.RowKit
/-- The program's device and the reference's, of one content; what they have is the call's own. -/
structure Two (w0 w : World) (p q : DevAt) (E : Dev) (n m : Nat) (B : Int) : Prop where
  i : IsDev w p E
  j : IsDev w q E
  inn : E.In n m B
  fp : ∀ k ∈ p.foot, w0.heap.size ≤ k
  fq : ∀ k ∈ q.foot, w0.heap.size ≤ k
  ap : ∀ k ∈ p.foot, k ∉ q.foot
  mo : Mods [] w0 w
theorem Two.mods0 {w0 w w' : World} {p q : DevAt} {E : Dev} {n m : Nat} {B : Int} (h : Two w0 w p q E n m B) (hm : Mods [] w w') : Two w0 w' p q E n m B :=
  ⟨h.i.mods0 hm, h.j.mods0 hm, h.inn, h.fp, h.fq, h.ap, h.mo.trans hm⟩
theorem Two.mono {w0 w : World} {p q : DevAt} {E : Dev} {n m : Nat} {B B' : Int} (h : Two w0 w p q E n m B) (hB : B ≤ B') : Two w0 w p q E n m B' := ⟨h.i, h.j, h.inn.mono hB, h.fp, h.fq, h.ap, h.mo⟩
/-- After one call on each device. -/
theorem Two.both {w0 w w1 w2 : World} {p q : DevAt} {E F : Dev} {n m : Nat} {B B' : Int} (h : Two w0 w p q E n m B) (i1 : IsDev w1 p F) (m1 : Mods p.foot w w1) (j2 : IsDev w2 q F) (m2 : Mods q.foot w1 w2) (hin : F.In n m B') : Two w0 w2 p q F n m B' :=
  ⟨i1.mods m2 h.ap, j2, hin, h.fp, h.fq, h.ap, (h.mo.comp m1 fun k hk => .inr (h.fp k hk)).comp m2 fun k hk => .inr (h.fq k hk)⟩
theorem Two.j1 {w0 w w1 : World} {p q : DevAt} {E : Dev} {n m : Nat} {B : Int} (h : Two w0 w p q E n m B) (m1 : Mods p.foot w w1) : IsDev w1 q E := h.j.mods m1 fun k hk hk2 => h.ap k hk2 hk
theorem Mods.bg {w w' : World} {p : DevAt} (h : Mods [p.b, p.g] w w') : Mods p.foot w w' := h.mono fun _ hk => .inl (DevAt.bgf hk)
theorem Mods.b1 {w w' : World} {p : DevAt} (h : Mods [p.b] w w') : Mods p.foot w w' := h.mono fun _ hk => .inl (DevAt.b1f hk)

set_option maxRecDepth 100000 in
set_option maxHeartbeats 4000000 in
theorem flashPlays_walk (w : World) (s0 : Int) (hs0 : I64 s0) (m0 : Int) (hm0 : I64 m0) (v : Value) (l : List Do) (hv : RdDos w v l) :
    Calls Try.prog 9 #[.int .i64 s0, .int .i64 m0, v] w fun e w' => e = .returned (.bool true) ∧ Mods [] w w' := by
  have HS := Lib.hid hs0
  have HM := Lib.hid hm0
  have LO := Lib.hid (lightDo_ok w v l hv)
  have HAW := Lib.hid (awake_ok w)
  cases hlb : lightB l with
  | false =>
    have HLB := Lib.hid hlb
    clear hv hlb hs0 hm0
    go_enter Try.func9, Try.ntmps9
    go_wp2_with fail
    refine LO.out.mono ?_
    rw [HLB.out]
    rintro e w' ⟨rfl, rfl⟩
    go_wp2_with fail
    refine HAW.out.mono ?_
    rintro e w' ⟨rfl, hm⟩
    go_wp2
    go_ret
    exact ⟨rfl, hm⟩
  | true =>
  have HLB := Lib.hid hlb
  have hll := lightB_len hlb
  obtain ⟨ad, cap, rfl, hc1, hc2, HV⟩ := hv
  have HV := Lib.hid HV
  unfold maxLen at hc2
  clear hlb
  by_cases hval : 1 ≤ s0 ∧ s0 ≤ 16 ∧ 64 ≤ m0 ∧ m0 ≤ 1024
  · obtain ⟨sn, rfl⟩ := Int.eq_ofNat_of_zero_le (show 0 ≤ s0 by omega)
    obtain ⟨mn, rfl⟩ := Int.eq_ofNat_of_zero_le (show 0 ≤ m0 by omega)
    obtain ⟨v1, v2, v3, v4⟩ := hval
    clear hs0 hm0
    go_enter Try.func9, Try.ntmps9
    go_wp2_with fail
    refine LO.out.mono ?_
    rw [HLB.out]
    rintro e w' ⟨rfl, rfl⟩
    go_wp2_with fail
    refine (new_ok sn mn (by omega) (by omega) (by omega) (by omega) w).mono ?_
    rintro e w1 ⟨p1, rfl, _, M1, _⟩
    go_wp2_with fail
    refine (refNew_ok sn mn (by omega) (by omega) (by omega) (by omega) w1).mono ?_
    rintro e w2 ⟨q1, rfl, _, M2, _⟩
    have N2 := M1.trans M2
    clear M1 M2
    go_wp2_with fail
    refine (geometry_ok (sn:Int) (mn:Int) w2 HS.out HM.out).mono ?_
    rintro e w2' ⟨rfl, rfl⟩
    have a0 := Int.emod_nonneg (sn:Int) (show (4 : Int) ≠ 0 by omega)
    have a1 := Int.emod_lt_of_pos (sn:Int) (show (0 : Int) < 4 by omega)
    have b0 := Int.emod_nonneg (mn:Int) (show (70 : Int) ≠ 0 by omega)
    have b1 := Int.emod_lt_of_pos (mn:Int) (show (0 : Int) < 70 by omega)
    obtain ⟨n, hn⟩ : ∃ n : Nat, 1 + (sn:Int) % 4 = (n : Int) := Int.eq_ofNat_of_zero_le (by omega)
    obtain ⟨m, hmm⟩ : ∃ m : Nat, 64 + (mn:Int) % 70 = (m : Int) := Int.eq_ofNat_of_zero_le (by omega)
    have n1 : 1 ≤ n := by omega
    have n4 : n ≤ 4 := by omega
    have m64 : 64 ≤ m := by omega
    have m133 : m ≤ 133 := by omega
    rw [hn, hmm]
    clear hn hmm a0 a1 b0 b1
    have nm0 : n * m ≤ 532 := Nat.mul_le_mul n4 m133
    go_wp2_with fail
    refine (new_ok n m n1 (by omega) m64 (by omega) w2).mono ?_
    rintro e w3 ⟨p, rfl, P3, M3, F3⟩
    go_wp2_with fail
    refine (refNew_ok n m n1 (by omega) m64 (by omega) w3).mono ?_
    rintro e w4 ⟨q, rfl, Q4, M4, F4⟩
    have T4 : Two w w4 p q (Dev.fresh n m) n m 0 := ⟨P3.mods0 M4, Q4, Dev.In.fresh (by omega) (by omega) (by omega), fun k hk => by have := F3 k hk; have := N2.size; omega, fun k hk => by have := F4 k hk; have := N2.size; have := M3.size; omega, fun k hk hk2 => by have := P3.lt k hk; have := F4 k hk2; omega, (N2.trans M3).trans M4⟩
    generalize Dev.fresh n m = D0 at T4
    clear P3 Q4 M3 M4 F3 F4 N2
    have TH := Lib.hid T4
    clear T4
    go_wp2_with fail
    refine (lawSame_ok w4 p q D0 TH.out.i TH.out.j TH.out.inn.ok).mono ?_
    rintro e w5 ⟨rfl, M5⟩
    have T5 := TH.out.mods0 M5
    have hmul : IntKind.i64.wrap ((n : Int) * (m : Int)) = ((n * m : Nat) : Int) := by rw [← Int.natCast_mul]; exact IntWalk.i64_in _ (by omega)
    obtain ⟨nm, hnm⟩ : ∃ nm, nm = n * m := ⟨_, rfl⟩
    rw [← hnm] at hmul nm0
    clear TH M5 hnm
    go_wp2_with fail
    go_loopw [16] (fun i wr => ∃ (k : Nat) (E : Dev), k ≤ l.length ∧ i = .int .i64 k ∧ Two w wr p q E n m (201 * k)) (fun i _ => l.length - (intOf i).toNat)
    case atStart => exact ⟨0, D0, by omega, rfl, T5⟩
    case round =>
      obtain ⟨k, E, hk, rfl, T⟩ := hrel
      clear T5
      by_cases hlt : k < l.length
      · have hlen := lightB_get HLB.out hlt
        obtain ⟨okd, b, off, rfl, vd, x0, x1, x2, x3, x4, rd⟩ := HV.out k hlt
        generalize l.getD k default = dk at okd x0 x1 x2 x3 rd hlen
        have hdat := okd.d
        have ⟨t0, t1⟩ := okd.t
        have hka := okd.a
        have hkb := okd.b
        have hkk := okd.k
        clear okd
        obtain ⟨kd, ka, kb, kt, kl⟩ := dk
        simp only at x0 x1 x2 x3 rd hdat t0 t1 hka hkb hkk hlen
        have farp := Lib.hid (DevAt.farB rd T.fp)
        have farq := Lib.hid (DevAt.farB rd T.fq)
        have RD := Lib.hid rd
        obtain ⟨ad2, cap2, hvd, _⟩ := rd
        subst hvd
        have y0 := T.mo.cell x0 (by simp)
        have y1 := T.mo.cell x1 (by simp)
        have y2 := T.mo.cell x2 (by simp)
        have y3 := T.mo.cell x3 (by simp)
        have y4 := T.mo.cell x4 (by simp)
        have TH := Lib.hid T
        clear T
        go_wp2_with fail
        have hg := heap_new wr (.cells #[.int .i64 kd, .int .i64 ka, .int .i64 kb, .int .u8 kt, .slice ad2 (u8s kl).length cap2] 47)
        have AL := (Mods.refl (S := []) (w := wr)).alloc (.cells #[.int .i64 kd, .int .i64 ka, .int .i64 kb, .int .u8 kt, .slice ad2 (u8s kl).length cap2] 47)
        generalize wr.alloc (.cells #[.int .i64 kd, .int .i64 ka, .int .i64 kb, .int .u8 kt, .slice ad2 (u8s kl).length cap2] 47) = w6 at hg AL ⊢
        have T6 := TH.out.mods0 AL
        have HG := Lib.hid hg
        have gp := Lib.hid (show wr.heap.size ∉ p.foot from fun h => by have := TH.out.i.lt _ h; omega)
        have gq := Lib.hid (show wr.heap.size ∉ q.foot from fun h => by have := TH.out.j.lt _ h; omega)
        generalize wr.heap.size = g at HG gp gq ⊢
        clear y0 y1 y2 y3 y4 x0 x1 x2 x3 x4 hg AL TH
        refine (mod_ok kd 5 w6 hkk (by omega) (by omega)).mono ?_
        rintro e w6' ⟨rfl, rfl⟩
        have b0 := Int.emod_nonneg kd (show (5 : Int) ≠ 0 by omega)
        have b1 := Int.emod_lt_of_pos kd (show (0 : Int) < 5 by omega)
        generalize kd % 5 = kx at b0 b1 ⊢
        have o1 : w6.cell? ⟨g, 1, none⟩ = some (.int .i64 ka) := cell_blk HG.out 1
        have o2 : w6.cell? ⟨g, 2, none⟩ = some (.int .i64 kb) := cell_blk HG.out 2
        have o3 : w6.cell? ⟨g, 3, none⟩ = some (.int .u8 kt) := cell_blk HG.out 3
        have o4 : w6.cell? ⟨g, 4, none⟩ = some (.slice ad2 (u8s kl).length cap2) := cell_blk HG.out 4
        have T6 := Lib.hid T6
        by_cases c0 : kx = 0
        · subst c0
          clear o2 o3
          have TD := Lib.hid (T6.out.mods0 (Mods.refl (S := []) (w := w6)).drew)
          go_wp2_with fail
          go_region_held3 (fun w' => w'.cell? ⟨g, 1, none⟩ = some (.int .i64 ka) ∧ w'.cell? ⟨g, 4, none⟩ = some (.slice ad2 (u8s kl).length cap2))
            (first | exact ⟨o1, o4⟩ | exact ⟨M7.bg.cell (w := w6.drew) o1 gp.out, M7.bg.cell (w := w6.drew) o4 gp.out⟩ | exact ⟨M8.bg.cell (M7.bg.cell (w := w6.drew) o1 gp.out) gq.out, M8.bg.cell (M7.bg.cell (w := w6.drew) o4 gp.out) gq.out⟩)
            (first
              | (go_at_call 26; refine (near_ok ka nm _ hka (by omega) (by omega)).mono ?_; rintro e w' ⟨rfl, rfl⟩)
              | (go_at_call 32; refine (refProgram_ok w7 q E J7.out T6.out.inn.ok (nearI ka nm) _ kl RD7.out hdat farq.out (by have := T6.out.inn.st; omega)).mono ?_; rintro e wx ⟨rfl, J8, M8⟩)
              | (go_at_call 18; refine (program_ok w6.drew p E (T6.out.i.drewN 1) T6.out.inn.ok (nearI ka nm) _ kl (RD.out.mods0 TD.out.mo) hdat farp.out (by have := T6.out.inn.st; omega)).mono ?_; rintro e w7 ⟨rfl, I7, M7⟩; have J7 := Lib.hid (TD.out.j1 M7.bg); have RD7 := Lib.hid ((RD.out.mods0 TD.out.mo).mods M7 (fun hl => DevAt.far RD.out TD.out.fp hl))))
          have M7 := M7.bg
          have M8 := M8.bg
          have TX := TD.out.both I7 M7 J8 M8 ((TD.out.inn.program (nearI ka nm) kl).mono (show 201 * (k : Int) + (kl.length : Int) ≤ 201 * ((k + 1 : Nat) : Int) by omega))
          clear I7 M7 J7 J8 M8 o1 o4 RD7 TD
          generalize (E.program (nearI ka nm) kl).2 = F at TX
          generalize (E.program (nearI ka nm) kl).1 = code
          have TE := Lib.hid TX
          clear TX
          go_wp2_with fail
          refine (lawSame_ok wx p q F TE.out.i TE.out.j TE.out.inn.ok).mono ?_
          rintro e wy ⟨rfl, MY⟩
          have TY := Lib.hid (TE.out.mods0 MY)
          clear MY
          go_wp2_with fail
          go_roundw
          case rel => exact ⟨k + 1, F, by omega, by go_num, TY.out⟩
          case measure => simp [intOf]; omega
        · by_cases c1 : kx = 1
          · subst c1
            clear o2 o3 o4 c0
            have TD := Lib.hid (T6.out.mods0 (Mods.refl (S := []) (w := w6)).drew)
            go_wp2_with fail
            go_region_held3 (fun w' => w'.cell? ⟨g, 1, none⟩ = some (.int .i64 ka))
              (first | exact o1 | exact M7.cell (w := w6.drew) o1 gp.out | exact M8.cell (M7.cell (w := w6.drew) o1 gp.out) gq.out)
              (first
                | (go_at_call 26; refine (near_ok ka n _ hka (by omega) (by omega)).mono ?_; rintro e w' ⟨rfl, rfl⟩)
                | (go_at_call 33; refine (refErase_ok w7 q E J7.out TD.out.inn.ok (nearI ka n) (by have := TD.out.inn.st; omega) (fun i => by have := TD.out.inn.we i; omega)).mono ?_; rintro e wx ⟨rfl, J8, M8⟩)
                | (go_at_call 25; refine (erase_ok w6.drew p E TD.out.i TD.out.inn.ok (nearI ka n) (by have := TD.out.inn.st; omega) (fun i => by have := TD.out.inn.we i; omega)).mono ?_; rintro e w7 ⟨rfl, I7, M7⟩; have J7 := Lib.hid (TD.out.j1 M7)))
            have TX := TD.out.both I7 M7 J8 M8 ((TD.out.inn.erase (nearI ka n)).mono (show 201 * (k : Int) + 1 ≤ 201 * ((k + 1 : Nat) : Int) by omega))
            clear I7 M7 J7 J8 M8 o1 TD
            generalize (E.erase (nearI ka n)).2 = F at TX
            generalize (E.erase (nearI ka n)).1 = code
            have TE := Lib.hid TX
            clear TX
            go_wp2_with fail
            refine (lawSame_ok wx p q F TE.out.i TE.out.j TE.out.inn.ok).mono ?_
            rintro e wy ⟨rfl, MY⟩
            have TY := Lib.hid (TE.out.mods0 MY)
            clear MY
            go_wp2_with fail
            go_roundw
            case rel => exact ⟨k + 1, F, by omega, by go_num, TY.out⟩
            case measure => simp [intOf]; omega
          · by_cases c2 : kx = 2
            · subst c2
              clear o3 o4 c0 c1
              have TD := Lib.hid (T6.out.mods0 (Mods.refl (S := []) (w := w6)).drew)
              obtain ⟨r, hr⟩ : ∃ r, r = E.read (nearI ka nm) kb := ⟨_, rfl⟩
              have HR := Lib.hid hr.symm
              have HRR := Lib.hid (show (r.1 == r.1) = true by simp)
              clear hr T6
              go_wp2_with fail
              go_region_held3 (fun w' => w'.cell? ⟨g, 1, none⟩ = some (.int .i64 ka) ∧ w'.cell? ⟨g, 2, none⟩ = some (.int .i64 kb))
                (first | exact ⟨o1, o2⟩ | exact ⟨M7.cell (w := w6.drew) o1 (by simp), M7.cell (w := w6.drew) o2 (by simp)⟩)
                (first
                  | (go_at_call 26; refine (near_ok ka nm _ hka (by omega) (by omega)).mono ?_; rintro e w' ⟨rfl, rfl⟩)
                  | (go_at_call 19; refine (read_ok w6.drew p E TD.out.i TD.out.inn.ok (nearI ka nm) kb).mono ?_; rw [HR.out]; rintro e w7 ⟨v7, rfl, O7, M7⟩))
              have o1 := M7.cell (w := w6.drew) o1 (by simp)
              have o2 := M7.cell (w := w6.drew) o2 (by simp)
              have T7 := Lib.hid ((TD.out.mods0 M7).mods0 (Mods.refl (S := []) (w := w7)).drew)
              have S7 := Lib.hid ((Rd.own O7).mods0 (Mods.refl (S := []) (w := w7)).drew)
              rename_i hHeld
              clear O7 M7 TD hHeld
              go_wp2_with fail
              go_region_held3 (fun w' => w'.cell? ⟨g, 1, none⟩ = some (.int .i64 ka) ∧ w'.cell? ⟨g, 2, none⟩ = some (.int .i64 kb))
                (first | exact ⟨o1, o2⟩ | exact ⟨M8.cell (w := w7.drew) o1 (by simp), M8.cell (w := w7.drew) o2 (by simp)⟩)
                (first
                  | (go_at_call 26; refine (near_ok ka nm _ hka (by omega) (by omega)).mono ?_; rintro e w' ⟨rfl, rfl⟩)
                  | (go_at_call 34; refine (refRead_ok w7.drew q E T7.out.j T7.out.inn.ok (nearI ka nm) kb).mono ?_; rw [HR.out]; rintro e w8 ⟨v8, rfl, O8, M8⟩))
              have T8 := Lib.hid (T7.out.mods0 M8)
              have S8 := Lib.hid (S7.out.mods0 M8)
              have S9 := Lib.hid (Rd.own O8)
              rename_i hHeld
              clear O8 M8 T7 S7 hHeld o1 o2
              go_wp2_with fail
              refine (same_ok w8 v7 v8 _ _ S8.out S9.out).mono ?_
              rw [HRR.out]
              rintro e w9 ⟨rfl, nd, rfl⟩
              have TX := (T8.out.mods0 ((Mods.refl (S := []) (w := w8)).drewN nd)).mono (show 201 * (k : Int) ≤ 201 * ((k + 1 : Nat) : Int) by omega)
              generalize w8.drewN nd = wx at TX ⊢
              clear T8 S8 S9
              have TE := Lib.hid TX
              clear TX
              go_wp2_with fail
              refine (lawSame_ok wx p q E TE.out.i TE.out.j TE.out.inn.ok).mono ?_
              rintro e wy ⟨rfl, MY⟩
              have TY := Lib.hid (TE.out.mods0 MY)
              clear MY
              go_wp2_with fail
              go_roundw
              case rel => exact ⟨k + 1, E, by omega, by go_num, TY.out⟩
              case measure => simp [intOf]; omega
            · by_cases c3 : kx = 3
              · subst c3
                have ⟨u0, u1⟩ := tmod_in ka (m := 50) (by omega)
                generalize hbx : ka.tmod 50 = bx at u0 u1
                have HBX := Lib.hid hbx
                clear hbx o2 o4 c0 c1 c2
                go_wp2_with fail
                rw [HBX.out]
                refine (arm_ok w6 p E T6.out.i bx kt).mono ?_
                rintro e w7 ⟨rfl, I7, M7⟩
                have J7 := T6.out.j1 M7.b1
                have o1 := M7.b1.cell o1 gp.out
                have o3 := M7.b1.cell o3 gp.out
                have I7 := Lib.hid I7
                have J7 := Lib.hid J7
                have M7 := Lib.hid M7.b1
                go_wp2_with fail
                rw [HBX.out]
                refine (refArm_ok w7 q E J7.out bx kt).mono ?_
                rintro e wx ⟨rfl, J8, M8⟩
                have TX : Two w wx p q (E.arm bx kt) n m (201 * ((k + 1 : Nat) : Int)) := T6.out.both I7.out M7.out J8 M8.b1 ((T6.out.inn.arm (by omega) t0 t1).mono (by omega))
                clear I7 M7 J7 J8 M8 o1 o3
                generalize E.arm bx kt = F at TX
                have TE := Lib.hid TX
                clear TX
                go_wp2_with fail
                refine (lawSame_ok wx p q F TE.out.i TE.out.j TE.out.inn.ok).mono ?_
                rintro e wy ⟨rfl, MY⟩
                have TY := Lib.hid (TE.out.mods0 MY)
                clear MY
                go_wp2_with fail
                go_roundw
                case rel => exact ⟨k + 1, F, by omega, by go_num, TY.out⟩
                case measure => simp [intOf]; omega
              · have e0 : (kx == 0) = false := by simpa using c0
                have e1 : (kx == 1) = false := by simpa using c1
                have e2 : (kx == 2) = false := by simpa using c2
                have e3 : (kx == 3) = false := by simpa using c3
                clear c0 c1 c2 c3 o1 o2 o3 o4
                go_wp2_with fail
                refine (restore_ok w6 p E T6.out.i).mono ?_
                rintro e w7 ⟨rfl, I7, M7⟩
                have I7 : IsDev w7 p E.restore := I7
                have J7 := T6.out.j1 M7.b1
                go_wp2_with fail
                refine (refRestore_ok w7 q E J7).mono ?_
                rintro e wx ⟨rfl, J8, M8⟩
                have TX : Two w wx p q E.restore n m (201 * ((k + 1 : Nat) : Int)) := T6.out.both I7 M7.b1 J8 M8.b1 (T6.out.inn.restore.mono (by omega))
                clear I7 M7 J7 J8 M8
                generalize E.restore = F at TX
                have TE := Lib.hid TX
                clear TX
                go_wp2_with fail
                refine (lawSame_ok wx p q F TE.out.i TE.out.j TE.out.inn.ok).mono ?_
                rintro e wy ⟨rfl, MY⟩
                have TY := Lib.hid (TE.out.mods0 MY)
                clear MY
                go_wp2_with fail
                go_roundw
                case rel => exact ⟨k + 1, F, by omega, by go_num, TY.out⟩
                case measure => simp [intOf]; omega
      · go_wp2_with fail
        refine (awake_ok wr).mono ?_
        rintro e w11 ⟨rfl, hmm⟩
        go_wp2
        go_ret
        exact ⟨rfl, T.mo.trans hmm⟩
  · clear hs0 hm0
    go_enter Try.func9, Try.ntmps9
    go_wp2_with fail
    refine LO.out.mono ?_
    rw [HLB.out]
    rintro e w' ⟨rfl, rfl⟩
    go_wp2_with fail
    refine (new_bad_ok s0 m0 hval w).mono ?_
    rintro e w1 ⟨rfl, rfl⟩
    go_wp2_with fail
    refine (refNew_bad_ok s0 m0 hval w).mono ?_
    rintro e w2 ⟨rfl, rfl⟩
    have N2 : Mods [] w w := Mods.refl
    go_wp2_with fail
    refine (geometry_ok s0 m0 w HS.out HM.out).mono ?_
    rintro e w' ⟨rfl, rfl⟩
    have a0 := Int.emod_nonneg s0 (show (4 : Int) ≠ 0 by omega)
    have a1 := Int.emod_lt_of_pos s0 (show (0 : Int) < 4 by omega)
    have b0 := Int.emod_nonneg m0 (show (70 : Int) ≠ 0 by omega)
    have b1 := Int.emod_lt_of_pos m0 (show (0 : Int) < 70 by omega)
    obtain ⟨n, hn⟩ : ∃ n : Nat, 1 + s0 % 4 = (n : Int) := Int.eq_ofNat_of_zero_le (by omega)
    obtain ⟨m, hmm⟩ : ∃ m : Nat, 64 + m0 % 70 = (m : Int) := Int.eq_ofNat_of_zero_le (by omega)
    have n1 : 1 ≤ n := by omega
    have n4 : n ≤ 4 := by omega
    have m64 : 64 ≤ m := by omega
    have m133 : m ≤ 133 := by omega
    rw [hn, hmm]
    clear hn hmm a0 a1 b0 b1
    have nm0 : n * m ≤ 532 := Nat.mul_le_mul n4 m133
    go_wp2_with fail
    refine (new_ok n m n1 (by omega) m64 (by omega) w).mono ?_
    rintro e w3 ⟨p, rfl, P3, M3, F3⟩
    go_wp2_with fail
    refine (refNew_ok n m n1 (by omega) m64 (by omega) w3).mono ?_
    rintro e w4 ⟨q, rfl, Q4, M4, F4⟩
    have T4 : Two w w4 p q (Dev.fresh n m) n m 0 := ⟨P3.mods0 M4, Q4, Dev.In.fresh (by omega) (by omega) (by omega), fun k hk => by have := F3 k hk; have := N2.size; omega, fun k hk => by have := F4 k hk; have := N2.size; have := M3.size; omega, fun k hk hk2 => by have := P3.lt k hk; have := F4 k hk2; omega, (N2.trans M3).trans M4⟩
    generalize Dev.fresh n m = D0 at T4
    clear P3 Q4 M3 M4 F3 F4 N2
    have TH := Lib.hid T4
    clear T4
    go_wp2_with fail
    refine (lawSame_ok w4 p q D0 TH.out.i TH.out.j TH.out.inn.ok).mono ?_
    rintro e w5 ⟨rfl, M5⟩
    have T5 := TH.out.mods0 M5
    have hmul : IntKind.i64.wrap ((n : Int) * (m : Int)) = ((n * m : Nat) : Int) := by rw [← Int.natCast_mul]; exact IntWalk.i64_in _ (by omega)
    obtain ⟨nm, hnm⟩ : ∃ nm, nm = n * m := ⟨_, rfl⟩
    rw [← hnm] at hmul nm0
    clear TH M5 hnm
    go_wp2_with fail
    go_loopw [16] (fun i wr => ∃ (k : Nat) (E : Dev), k ≤ l.length ∧ i = .int .i64 k ∧ Two w wr p q E n m (201 * k)) (fun i _ => l.length - (intOf i).toNat)
    case atStart => exact ⟨0, D0, by omega, rfl, T5⟩
    case round =>
      obtain ⟨k, E, hk, rfl, T⟩ := hrel
      clear T5
      by_cases hlt : k < l.length
      · have hlen := lightB_get HLB.out hlt
        obtain ⟨okd, b, off, rfl, vd, x0, x1, x2, x3, x4, rd⟩ := HV.out k hlt
        generalize l.getD k default = dk at okd x0 x1 x2 x3 rd hlen
        have hdat := okd.d
        have ⟨t0, t1⟩ := okd.t
        have hka := okd.a
        have hkb := okd.b
        have hkk := okd.k
        clear okd
        obtain ⟨kd, ka, kb, kt, kl⟩ := dk
        simp only at x0 x1 x2 x3 rd hdat t0 t1 hka hkb hkk hlen
        have farp := Lib.hid (DevAt.farB rd T.fp)
        have farq := Lib.hid (DevAt.farB rd T.fq)
        have RD := Lib.hid rd
        obtain ⟨ad2, cap2, hvd, _⟩ := rd
        subst hvd
        have y0 := T.mo.cell x0 (by simp)
        have y1 := T.mo.cell x1 (by simp)
        have y2 := T.mo.cell x2 (by simp)
        have y3 := T.mo.cell x3 (by simp)
        have y4 := T.mo.cell x4 (by simp)
        have TH := Lib.hid T
        clear T
        go_wp2_with fail
        have hg := heap_new wr (.cells #[.int .i64 kd, .int .i64 ka, .int .i64 kb, .int .u8 kt, .slice ad2 (u8s kl).length cap2] 47)
        have AL := (Mods.refl (S := []) (w := wr)).alloc (.cells #[.int .i64 kd, .int .i64 ka, .int .i64 kb, .int .u8 kt, .slice ad2 (u8s kl).length cap2] 47)
        generalize wr.alloc (.cells #[.int .i64 kd, .int .i64 ka, .int .i64 kb, .int .u8 kt, .slice ad2 (u8s kl).length cap2] 47) = w6 at hg AL ⊢
        have T6 := TH.out.mods0 AL
        have HG := Lib.hid hg
        have gp := Lib.hid (show wr.heap.size ∉ p.foot from fun h => by have := TH.out.i.lt _ h; omega)
        have gq := Lib.hid (show wr.heap.size ∉ q.foot from fun h => by have := TH.out.j.lt _ h; omega)
        generalize wr.heap.size = g at HG gp gq ⊢
        clear y0 y1 y2 y3 y4 x0 x1 x2 x3 x4 hg AL TH
        refine (mod_ok kd 5 w6 hkk (by omega) (by omega)).mono ?_
        rintro e w6' ⟨rfl, rfl⟩
        have b0 := Int.emod_nonneg kd (show (5 : Int) ≠ 0 by omega)
        have b1 := Int.emod_lt_of_pos kd (show (0 : Int) < 5 by omega)
        generalize kd % 5 = kx at b0 b1 ⊢
        have o1 : w6.cell? ⟨g, 1, none⟩ = some (.int .i64 ka) := cell_blk HG.out 1
        have o2 : w6.cell? ⟨g, 2, none⟩ = some (.int .i64 kb) := cell_blk HG.out 2
        have o3 : w6.cell? ⟨g, 3, none⟩ = some (.int .u8 kt) := cell_blk HG.out 3
        have o4 : w6.cell? ⟨g, 4, none⟩ = some (.slice ad2 (u8s kl).length cap2) := cell_blk HG.out 4
        have T6 := Lib.hid T6
        by_cases c0 : kx = 0
        · subst c0
          clear o2 o3
          have TD := Lib.hid (T6.out.mods0 (Mods.refl (S := []) (w := w6)).drew)
          go_wp2_with fail
          go_region_held3 (fun w' => w'.cell? ⟨g, 1, none⟩ = some (.int .i64 ka) ∧ w'.cell? ⟨g, 4, none⟩ = some (.slice ad2 (u8s kl).length cap2))
            (first | exact ⟨o1, o4⟩ | exact ⟨M7.bg.cell (w := w6.drew) o1 gp.out, M7.bg.cell (w := w6.drew) o4 gp.out⟩ | exact ⟨M8.bg.cell (M7.bg.cell (w := w6.drew) o1 gp.out) gq.out, M8.bg.cell (M7.bg.cell (w := w6.drew) o4 gp.out) gq.out⟩)
            (first
              | (go_at_call 26; refine (near_ok ka nm _ hka (by omega) (by omega)).mono ?_; rintro e w' ⟨rfl, rfl⟩)
              | (go_at_call 32; refine (refProgram_ok w7 q E J7.out T6.out.inn.ok (nearI ka nm) _ kl RD7.out hdat farq.out (by have := T6.out.inn.st; omega)).mono ?_; rintro e wx ⟨rfl, J8, M8⟩)
              | (go_at_call 18; refine (program_ok w6.drew p E (T6.out.i.drewN 1) T6.out.inn.ok (nearI ka nm) _ kl (RD.out.mods0 TD.out.mo) hdat farp.out (by have := T6.out.inn.st; omega)).mono ?_; rintro e w7 ⟨rfl, I7, M7⟩; have J7 := Lib.hid (TD.out.j1 M7.bg); have RD7 := Lib.hid ((RD.out.mods0 TD.out.mo).mods M7 (fun hl => DevAt.far RD.out TD.out.fp hl))))
          have M7 := M7.bg
          have M8 := M8.bg
          have TX := TD.out.both I7 M7 J8 M8 ((TD.out.inn.program (nearI ka nm) kl).mono (show 201 * (k : Int) + (kl.length : Int) ≤ 201 * ((k + 1 : Nat) : Int) by omega))
          clear I7 M7 J7 J8 M8 o1 o4 RD7 TD
          generalize (E.program (nearI ka nm) kl).2 = F at TX
          generalize (E.program (nearI ka nm) kl).1 = code
          have TE := Lib.hid TX
          clear TX
          go_wp2_with fail
          refine (lawSame_ok wx p q F TE.out.i TE.out.j TE.out.inn.ok).mono ?_
          rintro e wy ⟨rfl, MY⟩
          have TY := Lib.hid (TE.out.mods0 MY)
          clear MY
          go_wp2_with fail
          go_roundw
          case rel => exact ⟨k + 1, F, by omega, by go_num, TY.out⟩
          case measure => simp [intOf]; omega
        · by_cases c1 : kx = 1
          · subst c1
            clear o2 o3 o4 c0
            have TD := Lib.hid (T6.out.mods0 (Mods.refl (S := []) (w := w6)).drew)
            go_wp2_with fail
            go_region_held3 (fun w' => w'.cell? ⟨g, 1, none⟩ = some (.int .i64 ka))
              (first | exact o1 | exact M7.cell (w := w6.drew) o1 gp.out | exact M8.cell (M7.cell (w := w6.drew) o1 gp.out) gq.out)
              (first
                | (go_at_call 26; refine (near_ok ka n _ hka (by omega) (by omega)).mono ?_; rintro e w' ⟨rfl, rfl⟩)
                | (go_at_call 33; refine (refErase_ok w7 q E J7.out TD.out.inn.ok (nearI ka n) (by have := TD.out.inn.st; omega) (fun i => by have := TD.out.inn.we i; omega)).mono ?_; rintro e wx ⟨rfl, J8, M8⟩)
                | (go_at_call 25; refine (erase_ok w6.drew p E TD.out.i TD.out.inn.ok (nearI ka n) (by have := TD.out.inn.st; omega) (fun i => by have := TD.out.inn.we i; omega)).mono ?_; rintro e w7 ⟨rfl, I7, M7⟩; have J7 := Lib.hid (TD.out.j1 M7)))
            have TX := TD.out.both I7 M7 J8 M8 ((TD.out.inn.erase (nearI ka n)).mono (show 201 * (k : Int) + 1 ≤ 201 * ((k + 1 : Nat) : Int) by omega))
            clear I7 M7 J7 J8 M8 o1 TD
            generalize (E.erase (nearI ka n)).2 = F at TX
            generalize (E.erase (nearI ka n)).1 = code
            have TE := Lib.hid TX
            clear TX
            go_wp2_with fail
            refine (lawSame_ok wx p q F TE.out.i TE.out.j TE.out.inn.ok).mono ?_
            rintro e wy ⟨rfl, MY⟩
            have TY := Lib.hid (TE.out.mods0 MY)
            clear MY
            go_wp2_with fail
            go_roundw
            case rel => exact ⟨k + 1, F, by omega, by go_num, TY.out⟩
            case measure => simp [intOf]; omega
          · by_cases c2 : kx = 2
            · subst c2
              clear o3 o4 c0 c1
              have TD := Lib.hid (T6.out.mods0 (Mods.refl (S := []) (w := w6)).drew)
              obtain ⟨r, hr⟩ : ∃ r, r = E.read (nearI ka nm) kb := ⟨_, rfl⟩
              have HR := Lib.hid hr.symm
              have HRR := Lib.hid (show (r.1 == r.1) = true by simp)
              clear hr T6
              go_wp2_with fail
              go_region_held3 (fun w' => w'.cell? ⟨g, 1, none⟩ = some (.int .i64 ka) ∧ w'.cell? ⟨g, 2, none⟩ = some (.int .i64 kb))
                (first | exact ⟨o1, o2⟩ | exact ⟨M7.cell (w := w6.drew) o1 (by simp), M7.cell (w := w6.drew) o2 (by simp)⟩)
                (first
                  | (go_at_call 26; refine (near_ok ka nm _ hka (by omega) (by omega)).mono ?_; rintro e w' ⟨rfl, rfl⟩)
                  | (go_at_call 19; refine (read_ok w6.drew p E TD.out.i TD.out.inn.ok (nearI ka nm) kb).mono ?_; rw [HR.out]; rintro e w7 ⟨v7, rfl, O7, M7⟩))
              have o1 := M7.cell (w := w6.drew) o1 (by simp)
              have o2 := M7.cell (w := w6.drew) o2 (by simp)
              have T7 := Lib.hid ((TD.out.mods0 M7).mods0 (Mods.refl (S := []) (w := w7)).drew)
              have S7 := Lib.hid ((Rd.own O7).mods0 (Mods.refl (S := []) (w := w7)).drew)
              rename_i hHeld
              clear O7 M7 TD hHeld
              go_wp2_with fail
              go_region_held3 (fun w' => w'.cell? ⟨g, 1, none⟩ = some (.int .i64 ka) ∧ w'.cell? ⟨g, 2, none⟩ = some (.int .i64 kb))
                (first | exact ⟨o1, o2⟩ | exact ⟨M8.cell (w := w7.drew) o1 (by simp), M8.cell (w := w7.drew) o2 (by simp)⟩)
                (first
                  | (go_at_call 26; refine (near_ok ka nm _ hka (by omega) (by omega)).mono ?_; rintro e w' ⟨rfl, rfl⟩)
                  | (go_at_call 34; refine (refRead_ok w7.drew q E T7.out.j T7.out.inn.ok (nearI ka nm) kb).mono ?_; rw [HR.out]; rintro e w8 ⟨v8, rfl, O8, M8⟩))
              have T8 := Lib.hid (T7.out.mods0 M8)
              have S8 := Lib.hid (S7.out.mods0 M8)
              have S9 := Lib.hid (Rd.own O8)
              rename_i hHeld
              clear O8 M8 T7 S7 hHeld o1 o2
              go_wp2_with fail
              refine (same_ok w8 v7 v8 _ _ S8.out S9.out).mono ?_
              rw [HRR.out]
              rintro e w9 ⟨rfl, nd, rfl⟩
              have TX := (T8.out.mods0 ((Mods.refl (S := []) (w := w8)).drewN nd)).mono (show 201 * (k : Int) ≤ 201 * ((k + 1 : Nat) : Int) by omega)
              generalize w8.drewN nd = wx at TX ⊢
              clear T8 S8 S9
              have TE := Lib.hid TX
              clear TX
              go_wp2_with fail
              refine (lawSame_ok wx p q E TE.out.i TE.out.j TE.out.inn.ok).mono ?_
              rintro e wy ⟨rfl, MY⟩
              have TY := Lib.hid (TE.out.mods0 MY)
              clear MY
              go_wp2_with fail
              go_roundw
              case rel => exact ⟨k + 1, E, by omega, by go_num, TY.out⟩
              case measure => simp [intOf]; omega
            · by_cases c3 : kx = 3
              · subst c3
                have ⟨u0, u1⟩ := tmod_in ka (m := 50) (by omega)
                generalize hbx : ka.tmod 50 = bx at u0 u1
                have HBX := Lib.hid hbx
                clear hbx o2 o4 c0 c1 c2
                go_wp2_with fail
                rw [HBX.out]
                refine (arm_ok w6 p E T6.out.i bx kt).mono ?_
                rintro e w7 ⟨rfl, I7, M7⟩
                have J7 := T6.out.j1 M7.b1
                have o1 := M7.b1.cell o1 gp.out
                have o3 := M7.b1.cell o3 gp.out
                have I7 := Lib.hid I7
                have J7 := Lib.hid J7
                have M7 := Lib.hid M7.b1
                go_wp2_with fail
                rw [HBX.out]
                refine (refArm_ok w7 q E J7.out bx kt).mono ?_
                rintro e wx ⟨rfl, J8, M8⟩
                have TX : Two w wx p q (E.arm bx kt) n m (201 * ((k + 1 : Nat) : Int)) := T6.out.both I7.out M7.out J8 M8.b1 ((T6.out.inn.arm (by omega) t0 t1).mono (by omega))
                clear I7 M7 J7 J8 M8 o1 o3
                generalize E.arm bx kt = F at TX
                have TE := Lib.hid TX
                clear TX
                go_wp2_with fail
                refine (lawSame_ok wx p q F TE.out.i TE.out.j TE.out.inn.ok).mono ?_
                rintro e wy ⟨rfl, MY⟩
                have TY := Lib.hid (TE.out.mods0 MY)
                clear MY
                go_wp2_with fail
                go_roundw
                case rel => exact ⟨k + 1, F, by omega, by go_num, TY.out⟩
                case measure => simp [intOf]; omega
              · have e0 : (kx == 0) = false := by simpa using c0
                have e1 : (kx == 1) = false := by simpa using c1
                have e2 : (kx == 2) = false := by simpa using c2
                have e3 : (kx == 3) = false := by simpa using c3
                clear c0 c1 c2 c3 o1 o2 o3 o4
                go_wp2_with fail
                refine (restore_ok w6 p E T6.out.i).mono ?_
                rintro e w7 ⟨rfl, I7, M7⟩
                have I7 : IsDev w7 p E.restore := I7
                have J7 := T6.out.j1 M7.b1
                go_wp2_with fail
                refine (refRestore_ok w7 q E J7).mono ?_
                rintro e wx ⟨rfl, J8, M8⟩
                have TX : Two w wx p q E.restore n m (201 * ((k + 1 : Nat) : Int)) := T6.out.both I7 M7.b1 J8 M8.b1 (T6.out.inn.restore.mono (by omega))
                clear I7 M7 J7 J8 M8
                generalize E.restore = F at TX
                have TE := Lib.hid TX
                clear TX
                go_wp2_with fail
                refine (lawSame_ok wx p q F TE.out.i TE.out.j TE.out.inn.ok).mono ?_
                rintro e wy ⟨rfl, MY⟩
                have TY := Lib.hid (TE.out.mods0 MY)
                clear MY
                go_wp2_with fail
                go_roundw
                case rel => exact ⟨k + 1, F, by omega, by go_num, TY.out⟩
                case measure => simp [intOf]; omega
      · go_wp2_with fail
        refine (awake_ok wr).mono ?_
        rintro e w11 ⟨rfl, hmm⟩
        go_wp2
        go_ret
        exact ⟨rfl, T.mo.trans hmm⟩
end Go.Proofs.Ytjdimdebplggnaa
