/- bits.Len of Go's library, by the shelf's contract (proved once, over any program). -/
import Derived.Test.YthcklfelofpffaaDoorBase
import Derived.Test.YthcklfelofpffaaDoorRows
import Derived.Shelf.Small.Bits
import Derived.Ground.NamesProg
namespace Go.Proofs.YthcklfelofpffaaDoor
open Go.Shelf Go.RowKit
def lays125_ren : Go.Shelf.Ren := ⟨fun | 125 => 87 | 128 => 98 | 129 => 99 | n => n, fun | 3 => 3 | 4 => 4 | 5 => 5 | 9 => 9 | 46 => 91 | 51 => 95 | 53 => 68 | n => n, fun | n => n⟩
theorem lays125 : Go.Proofs.Lays.n125 Tryd.prog lays125_ren := {
  mixed := by kernel_rfl
  f125 := Tryd.func87.trans (congrArg some (by kernel_rfl))
  f128 := Tryd.func98.trans (congrArg some (by kernel_rfl))
  f129 := Tryd.func99.trans (congrArg some (by kernel_rfl))
  t3 := Tryd.underlying3
  a3 := Tryd.isAgg3
  z3 := Tryd.sizeOf3
  v3 := Tryd.zeroValue3
  t4 := Tryd.underlying4
  a4 := Tryd.isAgg4
  z4 := Tryd.sizeOf4
  v4 := Tryd.zeroValue4
  t5 := Tryd.underlying5
  a5 := Tryd.isAgg5
  z5 := Tryd.sizeOf5
  v5 := Tryd.zeroValue5
  t9 := Tryd.underlying9
  a9 := Tryd.isAgg9
  z9 := Tryd.sizeOf9
  v9 := Tryd.zeroValue9
  t46 := Tryd.underlying91
  a46 := Tryd.isAgg91
  z46 := Tryd.sizeOf91
  v46 := Tryd.zeroValue91
  t51 := Tryd.underlying95
  a51 := Tryd.isAgg95
  z51 := Tryd.sizeOf95
  v51 := Tryd.zeroValue95
  t53 := Tryd.underlying68
  a53 := Tryd.isAgg68
  z53 := Tryd.sizeOf68
  v53 := Tryd.zeroValue68 }
theorem bits_Len (x : Int) (w : World) (h0 : 0 ≤ x) (h1 : x ≤ 18446744073709551615) :
    Calls Tryd.prog 87 #[.int .u64 x] w fun e w' => e = .returned (.int .i64 (Lib.bitLen x.toNat)) ∧ w = w' := (Any.bits_Len lays125 x w h0 h1).mono fun _ _ h => ⟨h.1, h.2.symm⟩
end Go.Proofs.YthcklfelofpffaaDoor
