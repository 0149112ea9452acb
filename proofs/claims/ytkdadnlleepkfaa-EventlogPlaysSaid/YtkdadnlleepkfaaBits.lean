/- math/bits.Mul at this translation: the shelf's contract, laid in plain words by the kit's own program. -/
import Derived.Shelf.Bits.Mul64
import Derived.Test.YtkdadnlleepkfaaProg
namespace Go.Proofs.Ytkdadnlleepkfaa
open Go.Shelf
def lays264_ren : Go.Shelf.Ren := ⟨fun | 264 => 100 | n => n, fun | 53 => 129 | 46 => 119 | n => n, fun | n => n⟩
theorem lays264 : _root_.Go.Proofs.Lays.n264 Try.prog lays264_ren := {
  mixed := by kernel_rfl
  f264 := Try.func100.trans (congrArg some (by kernel_rfl))
  t46 := Try.underlying119
  a46 := Try.isAgg119
  z46 := Try.sizeOf119
  v46 := Try.zeroValue119
  t53 := Try.underlying129
  a53 := Try.isAgg129
  z53 := Try.sizeOf129
  v53 := Try.zeroValue129 }
open Go.RowKit Go.Lib in
theorem bits_Mul64 (x y : Nat) (hx : x < 18446744073709551616) (hy : y < 18446744073709551616) (w : World) :
    Calls Try.prog 100 #[.int .u64 x, .int .u64 y] w fun e w' => e = .returned (.tuple #[.int .u64 ((x * y / 18446744073709551616 : Nat) : Int), .int .u64 ((x * y % 18446744073709551616 : Nat) : Int)]) ∧ w' = w := Any.bits_Mul64 lays264 x y hx hy w
def lays212_ren : Go.Shelf.Ren := ⟨fun | 212 => 80 | 263 => 99 | 264 => 100 | n => n, fun | 46 => 119 | 51 => 34 | 146 => 138 | 53 => 129 | 148 => 140 | n => n, fun | n => n⟩
theorem lays212 : _root_.Go.Proofs.Lays.n212 Try.prog lays212_ren := {
  mixed := by kernel_rfl
  f212 := Try.func80.trans (congrArg some (by kernel_rfl))
  f263 := Try.func99.trans (congrArg some (by kernel_rfl))
  f264 := Try.func100.trans (congrArg some (by kernel_rfl))
  t46 := Try.underlying119
  a46 := Try.isAgg119
  z46 := Try.sizeOf119
  v46 := Try.zeroValue119
  t51 := Try.underlying34
  a51 := Try.isAgg34
  z51 := Try.sizeOf34
  v51 := Try.zeroValue34
  t53 := Try.underlying129
  a53 := Try.isAgg129
  z53 := Try.sizeOf129
  v53 := Try.zeroValue129
  t146 := Try.underlying138
  a146 := Try.isAgg138
  z146 := Try.sizeOf138
  v146 := Try.zeroValue138
  t148 := Try.underlying140
  a148 := Try.isAgg140
  z148 := Try.sizeOf140
  v148 := Try.zeroValue140 }
open Go.RowKit Go.Lib in
/-- math/bits.Mul: "Mul returns the full-width product of x and y": on a machine of 64 bits: Mul64's. (LAID: no walk: one application.) -/
theorem bits_Mul (x y : Nat) (hx : x < 18446744073709551616) (hy : y < 18446744073709551616) (w : World) :
    Calls Try.prog 80 #[.int .u64 x, .int .u64 y] w fun e w' => e = .returned (.tuple #[.int .u64 ((x * y / 18446744073709551616 : Nat) : Int), .int .u64 ((x * y % 18446744073709551616 : Nat) : Int)]) ∧ w' = w := Any.bits_Mul lays212 x y hx hy w
end Go.Proofs.Ytkdadnlleepkfaa
