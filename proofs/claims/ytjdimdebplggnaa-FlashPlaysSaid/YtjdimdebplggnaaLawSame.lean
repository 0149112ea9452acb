/- The laws' same: contract. -/
import Derived.Test.YtjdimdebplggnaaRefRead
import Derived.Test.YtjdimdebplggnaaRefNew
import Derived.Test.YtjdimdebplggnaaDevIn
import Derived.Deep.RegionHeld3
namespace Go.Proofs.Ytjdimdebplggnaa
open Go.RowKit
theorem read_all {D : Dev} (hd : D.down = false) : D.read 0 (D.data.length : Int) = (D.data, 0) := by
  have hf : fits D 0 (D.data.length : Int) = true := by simp only [fits, decide_eq_true_eq]; omega
  rw [Dev.read, if_neg (by rw [hd]; simp), if_pos hf]
  refine congrArg (·, 0) ?_
  exact List.take_of_length_le (by simp)
set_option maxRecDepth 100000 in
set_option maxHeartbeats 2000000 in
theorem lawSame_ok (w : World) (p q : DevAt) (D : Dev) (I : IsDev w p D) (J : IsDev w q D) (ok : D.Ok) :
    Calls Try.prog 31 #[.pointer (some ⟨p.b, 0, none⟩), .pointer (some ⟨q.b, 0, none⟩)] w fun e w' => e = .returned (.bool true) ∧ Mods [] w w' := by
  have HQ := Lib.hid (show (D.wear == D.wear) = true by simp)
  have k0 := J.c0
  have k2 := J.c2
  have k3 := J.c3
  have k6 := J.c6
  have HI := Lib.hid (show IsDev w.drew p D from I.drewN 1)
  have HJ := Lib.hid J
  have HI0 := Lib.hid I
  clear I J
  go_enter Try.func31, Try.ntmps31
  go_wp2_with fail
  go_region_held3 (fun w' => w'.cell? ⟨q.b, 0, none⟩ = some (.int .i64 D.size) ∧ w'.cell? ⟨q.b, 2, none⟩ = some (.slice (some ⟨q.gw, 0, none⟩) D.wear.length q.cw) ∧ w'.cell? ⟨q.b, 3, none⟩ = some (.int .i64 D.steps) ∧ w'.cell? ⟨q.b, 6, none⟩ = some (.bool D.down))
    (first | exact ⟨k0, k2, k3, k6⟩ | exact ⟨M1.cell (w := w.drew) k0 (by simp), M1.cell (w := w.drew) k2 (by simp), M1.cell (w := w.drew) k3 (by simp), M1.cell (w := w.drew) k6 (by simp)⟩)
    (first
      | (go_at_call 47; refine (sectors_ok w.drew p D HI.out).mono ?_; rintro e w' ⟨rfl, rfl⟩)
      | (go_at_call 48; refine (size_ok w.drew p D HI.out).mono ?_; rintro e w' ⟨rfl, rfl⟩)
      | (go_at_call 27; refine (down_ok w.drew p D HI.out).mono ?_; rintro e w' ⟨rfl, rfl⟩)
      | (go_at_call 21; refine (steps_ok w.drew p D HI.out).mono ?_; rintro e w' ⟨rfl, rfl⟩)
      | (go_at_call 49; refine (sameInts_ok w1 v1 _ _ _ HS1.out HQ1.out).mono ?_; rw [HQ.out]; rintro e w2 ⟨rfl, n2, rfl⟩)
      | (go_at_call 28; refine (wear_ok w.drew p D HI.out ok).mono ?_; rintro e w1 ⟨v1, rfl, O1, M1⟩; have HS1 := Lib.hid (Rd.own O1); have HQ1 := Lib.hid ((i64s_length D.wear ▸ HJ.out.wer.rd : Rd w (.slice (some ⟨q.gw, 0, none⟩) D.wear.length q.cw) (i64s D.wear)).mods0 ((Mods.refl (S := []) (w := w)).drew.trans M1))))
  have N3 : Mods [] w (w1.drewN n2) := ((Mods.refl (S := []) (w := w)).drew.trans M1).drewN n2
  have I3 := HI0.out.mods0 N3
  have J3 := HJ.out.mods0 N3
  rename_i hHeld
  clear hHeld HS1 HQ1 O1 M1 k0 k2 k3 k6
  generalize w1.drewN n2 = w3 at N3 I3 J3 ⊢
  have c1 := J3.c1
  cases hd : D.down with
  | true =>
    have HD := Lib.hid hd
    clear hd
    have c6 := J3.c6
    rw [HD.out] at c6
    go_wp2_with fail
    refine (read_ok w3 p D I3 ok 0 (D.data.length : Int)).mono ?_
    rw [show D.read 0 (D.data.length : Int) = ([], 10) by rw [Dev.read, if_pos HD.out]]
    rintro e w4 ⟨v4, rfl, O4, M4⟩
    obtain ⟨a4, c4, rfl⟩ := (Rd.own O4).len
    have c6 := M4.cell c6 (by simp)
    have HN := Lib.hid (N3.trans M4)
    clear N3 I3 J3 O4 M4 c1
    go_wp2_with fail
    go_ret
    exact ⟨rfl, HN.out⟩
  | false =>
    have HD := Lib.hid hd
    clear hd
    have c6 := J3.c6
    rw [HD.out] at c6
    have HRA := Lib.hid (read_all HD.out)
    have HQ2 := Lib.hid (show (D.data == D.data) = true by simp)
    go_wp2_with fail
    refine (read_ok w3 p D I3 ok 0 (D.data.length : Int)).mono ?_
    rw [HRA.out]
    rintro e w4 ⟨v4, rfl, O4, M4⟩
    have c6 := M4.cell c6 (by simp)
    have c1 := M4.cell c1 (by simp)
    have HS := Lib.hid (Rd.own O4)
    have HT := Lib.hid ((u8s_length D.data ▸ J3.dat.rd : Rd w3 (.slice (some ⟨q.g, 0, none⟩) D.data.length q.cb) (u8s D.data)).mods0 M4)
    have N4 := N3.trans M4
    clear N3 I3 J3 O4 M4
    go_wp2_with fail
    refine (same_ok w4 v4 _ _ _ HS.out HT.out).mono ?_
    rw [HQ2.out]
    rintro e w5 ⟨rfl, n, rfl⟩
    have HN := Lib.hid (N4.drewN n)
    clear N4 c1 c6
    go_wp2
    go_ret
    exact ⟨rfl, HN.out⟩
end Go.Proofs.Ytjdimdebplggnaa
