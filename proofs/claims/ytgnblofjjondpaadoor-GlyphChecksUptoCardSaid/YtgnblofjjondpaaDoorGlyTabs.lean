/- What the row's list gives: the two tables; a world that pays it. -/
import Derived.Test.YtgnblofjjondpaaDoorGlyW5
import Derived.Test.YtgnblofjjondpaaDoorRow
import Derived.Test.YtgnblofjjondpaaDoorCards
import Derived.Test.YtgnblofjjondpaaDoorTie
import Derived.Deep.DeepHandedRow
namespace Go.Proofs.YtgnblofjjondpaaDoor
open Go.ChangeShapes Go.WideShapes Go.ChangeAt Go.RowKit
def laidL : List (String × DataW Unit) := Rows.glyphStandsRow.laid
theorem gType_w : (Tryd.prog.globals[0]?).map (·.type) = some 76 := by kernel_rfl
theorem gType_p : (Tryd.prog.globals[2]?).map (·.type) = some 115 := by kernel_rfl
theorem filt_w : laidL.filter (fun x => x.1 == "rollbook/glyph.widths") = [("rollbook/glyph.widths", Lib.tabData .u8 wTab)] := by kernel_rfl
theorem filt_p : laidL.filter (fun x => x.1 == "internal/strconv.uint64pow10") = [("internal/strconv.uint64pow10", Lib.tabData .u64 Lib.pow10Tab)] := by kernel_rfl
theorem cells_u8 : Tryd.prog.cellsOf 5 = 1 := by kernel_rfl
theorem cells_u64 : Tryd.prog.cellsOf 100 = 1 := by kernel_rfl
theorem cells_w : Tryd.prog.cellsOf 76 = 94 := by kernel_rfl
theorem cells_p : Tryd.prog.cellsOf 115 = 20 := by kernel_rfl
theorem tabs_of {W : World} (h : laidMetH Tryd.prog laidL W) : Tabs W := by
  have hw := h.filter (fun x => x.1 == "rollbook/glyph.widths")
  have hp := h.filter (fun x => x.1 == "internal/strconv.uint64pow10")
  rw [filt_w] at hw
  rw [filt_p] at hp
  exact ⟨Lib.tabIs_of_head (rest := []) gW gType_w Tryd.underlying76 Tryd.underlying5 cells_u8 cells_w hw,
    Lib.tabIs_of_head (rest := []) gP gType_p Tryd.underlying115 Tryd.underlying100 cells_u64 cells_p hp⟩
def nums : DataW Unit → Array Value
  | .agg xs => (xs.map fun x => match x with | .lit (.int k z) => Value.int k z | _ => .bool false).toArray
  | _ => #[]
def lay (w : World) (b : Nat) (d : DataW Unit) : World :=
  { w with heap := w.heap.modify b fun | .cells _ t fr => .cells (nums d) t fr | o => o }
noncomputable def laidWorld (os : Os) : World :=
  lay (lay (lay (lay (World.holding Tryd.prog os ⟨#[], #[], []⟩) 0 Rows.laid_rollbook_glyph_widths) 2 Rows.laid_internal_strconv_uint64pow10) 3 Rows.laid_math_bits_deBruijn32tab) 4 Rows.laid_math_bits_deBruijn64tab
theorem own : ownKnob Tryd.prog.godebug = none := by kernel_rfl
theorem laidOut : laidOutB Tryd.prog = true := by kernel_rfl
theorem cells_int : Tryd.prog.cellsOf 3 = 1 := by kernel_rfl
end Go.Proofs.YtgnblofjjondpaaDoor
