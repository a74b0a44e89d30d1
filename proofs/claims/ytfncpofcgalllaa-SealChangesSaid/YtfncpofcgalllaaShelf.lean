/- bits.Len of Go's library, by the shelf's contract (proved once, over any program). -/
import Derived.Test.YtfncpofcgalllaaBase
import Derived.Test.YtfncpofcgalllaaRows
import Derived.Shelf.Small.Bits
import Derived.Ground.NamesProg
namespace Go.Proofs.Ytfncpofcgalllaa
open Go.Shelf Go.RowKit
def lays125_ren : Go.Shelf.Ren := ⟨fun | 125 => 46 | 128 => 57 | 129 => 58 | n => n, fun | 3 => 3 | 4 => 4 | 5 => 5 | 9 => 9 | 46 => 64 | 51 => 75 | 53 => 77 | n => n, fun | n => n⟩
theorem lays125 : Go.Proofs.Lays.n125 Try.prog lays125_ren := {
  mixed := by kernel_rfl
  f125 := Try.func46.trans (congrArg some (by kernel_rfl))
  f128 := Try.func57.trans (congrArg some (by kernel_rfl))
  f129 := Try.func58.trans (congrArg some (by kernel_rfl))
  t3 := Try.underlying3
  a3 := Try.isAgg3
  z3 := Try.sizeOf3
  v3 := Try.zeroValue3
  t4 := Try.underlying4
  a4 := Try.isAgg4
  z4 := Try.sizeOf4
  v4 := Try.zeroValue4
  t5 := Try.underlying5
  a5 := Try.isAgg5
  z5 := Try.sizeOf5
  v5 := Try.zeroValue5
  t9 := Try.underlying9
  a9 := Try.isAgg9
  z9 := Try.sizeOf9
  v9 := Try.zeroValue9
  t46 := Try.underlying64
  a46 := Try.isAgg64
  z46 := Try.sizeOf64
  v46 := Try.zeroValue64
  t51 := Try.underlying75
  a51 := Try.isAgg75
  z51 := Try.sizeOf75
  v51 := Try.zeroValue75
  t53 := Try.underlying77
  a53 := Try.isAgg77
  z53 := Try.sizeOf77
  v53 := Try.zeroValue77 }
theorem bits_Len (x : Int) (w : World) (h0 : 0 ≤ x) (h1 : x ≤ 18446744073709551615) :
    Calls Try.prog 46 #[.int .u64 x] w fun e w' => e = .returned (.int .i64 (Lib.bitLen x.toNat)) ∧ w = w' := (Any.bits_Len lays125 x w h0 h1).mono fun _ _ h => ⟨h.1, h.2.symm⟩
end Go.Proofs.Ytfncpofcgalllaa
