/- Contracts of library functions, by the shelf of the kit, laid at this dump. -/
import Derived.Shelf.Bits.Mul64
import Derived.Test.YtlglilmgklipdaaRows
import Derived.WalkKit
namespace Go.Proofs.Ytlglilmgklipdaa
set_option linter.unusedVariables false
open Go.Shelf

def lays212_ren : Go.Shelf.Ren := ⟨fun | 212 => 118 | 263 => 122 | 264 => 123 | n => n, fun | 46 => 146 | 51 => 112 | 146 => 165 | 53 => 108 | 148 => 167 | n => n, fun | n => n⟩
theorem lays212 : Go.Proofs.Lays.n212 Try.prog lays212_ren := {
  mixed := by kernel_rfl
  f212 := Try.func118.trans (congrArg some (by kernel_rfl))
  f263 := Try.func122.trans (congrArg some (by kernel_rfl))
  f264 := Try.func123.trans (congrArg some (by kernel_rfl))
  t46 := Try.underlying146
  a46 := Try.isAgg146
  z46 := Try.sizeOf146
  v46 := Try.zeroValue146
  t51 := Try.underlying112
  a51 := Try.isAgg112
  z51 := Try.sizeOf112
  v51 := Try.zeroValue112
  t53 := Try.underlying108
  a53 := Try.isAgg108
  z53 := Try.sizeOf108
  v53 := Try.zeroValue108
  t146 := Try.underlying165
  a146 := Try.isAgg165
  z146 := Try.sizeOf165
  v146 := Try.zeroValue165
  t148 := Try.underlying167
  a148 := Try.isAgg167
  z148 := Try.sizeOf167
  v148 := Try.zeroValue167 }
open Go.RowKit Go.Lib in
theorem bits_Mul (x y : Nat) (hx : x < 18446744073709551616) (hy : y < 18446744073709551616) (w : World) :
    Calls Try.prog 118 #[.int .u64 x, .int .u64 y] w fun e w' => e = .returned (.tuple #[.int .u64 ((x * y / 18446744073709551616 : Nat) : Int), .int .u64 ((x * y % 18446744073709551616 : Nat) : Int)]) ∧ w' = w := Any.bits_Mul lays212 x y hx hy w
end Go.Proofs.Ytlglilmgklipdaa
