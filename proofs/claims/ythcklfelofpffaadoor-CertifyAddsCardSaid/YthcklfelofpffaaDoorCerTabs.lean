/- What the row's list gives: the table of the round constants; a world that pays it. -/
import Derived.Test.YthcklfelofpffaaDoorCerW1
import Derived.Test.YthcklfelofpffaaDoorRow
import Derived.Test.YthcklfelofpffaaDoorCards
import Derived.Test.YthcklfelofpffaaDoorTie
import Derived.Deep.DeepHandedRow
namespace Go.Proofs.YthcklfelofpffaaDoor
open Go.ChangeShapes Go.WideShapes Go.ChangeAt Go.RowKit
def laidL : List (String × DataW Unit) := Rows.certifyLeavesRow.laid
theorem gType_k : (Tryd.prog.globals[0]?).map (·.type) = some 139 := by kernel_rfl
theorem filt_k : laidL.filter (fun x => x.1 == "rollbook/digest.rounds") = [("rollbook/digest.rounds", Lib.tabData .u32 (KS.map fun k : Nat => (k : Int)))] := by kernel_rfl
theorem cells_u32 : Tryd.prog.cellsOf 95 = 1 := by kernel_rfl
theorem cells_k : Tryd.prog.cellsOf 139 = 64 := by kernel_rfl
theorem tabs_of {W : World} (h : laidMetH Tryd.prog laidL W) : KLaid W := by
  have hw := h.filter (fun x => x.1 == "rollbook/digest.rounds")
  rw [filt_k] at hw
  exact Lib.tabIs_of_head (rest := []) gK gType_k Tryd.underlying139 Tryd.underlying95 cells_u32 cells_k hw
def nums : DataW Unit → Array Value
  | .agg xs => (xs.map fun x => match x with | .lit (.int k z) => Value.int k z | _ => .bool false).toArray
  | _ => #[]
def lay (w : World) (b : Nat) (d : DataW Unit) : World :=
  { w with heap := w.heap.modify b fun | .cells _ t fr => .cells (nums d) t fr | o => o }
noncomputable def laidWorld (os : Os) : World :=
  lay (World.holding Tryd.prog os ⟨#[], #[], []⟩) 0 Rows.laid_rollbook_digest_rounds
theorem own : ownKnob Tryd.prog.godebug = none := by kernel_rfl
theorem laidOut : laidOutB Tryd.prog = true := by kernel_rfl
theorem cells_int : Tryd.prog.cellsOf 3 = 1 := by kernel_rfl
theorem cells_ints : Tryd.prog.cellsOf 25 = 1 := by kernel_rfl
end Go.Proofs.YthcklfelofpffaaDoor
