/-
  NARROWER THAN 'FOR EVERY INPUT', by the rows' own cells (each row's printed sentence says how): ViewSheets: laid · ViewAnnexes: laid · ViewLines: laid · ViewCompletes: laid · ViewOpens: laid · ViewBoxes: laid · ViewShapes: laid · ViewWidths: laid · ViewSame: laid · CertifyBooks: laid.
  DERIVED. THE GIVEN ROWS OF THIS SEAT. 10 by the template 'for every input the law returns true; each argument reads behind the call as it read before'; 0 by the template 'total and deterministic' (their statements: YtegaapiocihcpaaGreatDoorTotals.lean).
  GIVEN WITH THE SEED: the statements are not yours to turn. If you find one false, say at which input.
  Laid BY PROGRAM, IN A SANDBOX (cutbox-rows.mjs): the forced cells as the released guide's own fill.sh prints them over the translation 555daab9bb62c7f8… (all of the seat's roots in one cut). By AI agents, Wed Nov 11 2026. No macro, syntax, notation, axiom, sorry.
-/
import Derived.Test.YtegaapiocihcpaaGreatDoorChecked
import GoSem.Claim
import GoSem.ClaimJoined
import GoSem.ClaimMapViews
import Derived.JoinedTies
import Derived.KernelRfl
namespace Go.Proofs.YtegaapiocihcpaaGreatDoor
/- THE CELL 'sum', in the pinned program and in every row, IS THE sha256 OF THE DUMP (.gsa) THAT YtegaapiocihcpaaGreatDoorProg.lean LOADS. Nothing in Lean hashes anything: it is a label: what it is worth is what the hold of that sum in a sandbox is worth. -/
noncomputable def Tryz.pinned : Pinned := { name := "ytegaapiocihcpaagreatdoor", sum := "555daab9bb62c7f82e1653a41e4dd79fadb2595bfc76a16a5af14ab3d05ab61c", checked := Tryz.checked }
namespace Rows
def none {H : Type} : Left H := { results := [], args := [] }

/- WHAT THE LISTED PACKAGE-LEVEL VARIABLES READ AS WHEN THE CALL BEGINS. Each datum BY PROGRAM (the guide's laid-datum.mjs) off the statement by which the dump's own 'gosem.cut.vars' lays the variable. In a bare row this is a premise. The card (YtegaapiocihcpaaGreatDoorCards.lean) ties it to the program's text. -/
def laid_math_bits_deBruijn32tab {H : Type} : DataW H := .agg [.lit (.int .u8 0), .lit (.int .u8 1), .lit (.int .u8 28), .lit (.int .u8 2), .lit (.int .u8 29), .lit (.int .u8 14), .lit (.int .u8 24), .lit (.int .u8 3), .lit (.int .u8 30), .lit (.int .u8 22), .lit (.int .u8 20), .lit (.int .u8 15), .lit (.int .u8 25), .lit (.int .u8 17), .lit (.int .u8 4), .lit (.int .u8 8), .lit (.int .u8 31), .lit (.int .u8 27), .lit (.int .u8 13), .lit (.int .u8 23), .lit (.int .u8 21), .lit (.int .u8 19), .lit (.int .u8 16), .lit (.int .u8 7), .lit (.int .u8 26), .lit (.int .u8 12), .lit (.int .u8 18), .lit (.int .u8 6), .lit (.int .u8 11), .lit (.int .u8 5), .lit (.int .u8 10), .lit (.int .u8 9)]
def laid_math_bits_deBruijn64tab {H : Type} : DataW H := .agg [.lit (.int .u8 0), .lit (.int .u8 1), .lit (.int .u8 56), .lit (.int .u8 2), .lit (.int .u8 57), .lit (.int .u8 49), .lit (.int .u8 28), .lit (.int .u8 3), .lit (.int .u8 61), .lit (.int .u8 58), .lit (.int .u8 42), .lit (.int .u8 50), .lit (.int .u8 38), .lit (.int .u8 29), .lit (.int .u8 17), .lit (.int .u8 4), .lit (.int .u8 62), .lit (.int .u8 47), .lit (.int .u8 59), .lit (.int .u8 36), .lit (.int .u8 45), .lit (.int .u8 43), .lit (.int .u8 51), .lit (.int .u8 22), .lit (.int .u8 53), .lit (.int .u8 39), .lit (.int .u8 33), .lit (.int .u8 30), .lit (.int .u8 24), .lit (.int .u8 18), .lit (.int .u8 12), .lit (.int .u8 5), .lit (.int .u8 63), .lit (.int .u8 55), .lit (.int .u8 48), .lit (.int .u8 27), .lit (.int .u8 60), .lit (.int .u8 41), .lit (.int .u8 37), .lit (.int .u8 16), .lit (.int .u8 46), .lit (.int .u8 35), .lit (.int .u8 44), .lit (.int .u8 21), .lit (.int .u8 52), .lit (.int .u8 32), .lit (.int .u8 23), .lit (.int .u8 11), .lit (.int .u8 54), .lit (.int .u8 26), .lit (.int .u8 40), .lit (.int .u8 15), .lit (.int .u8 34), .lit (.int .u8 20), .lit (.int .u8 31), .lit (.int .u8 10), .lit (.int .u8 25), .lit (.int .u8 14), .lit (.int .u8 19), .lit (.int .u8 9), .lit (.int .u8 13), .lit (.int .u8 8), .lit (.int .u8 7), .lit (.int .u8 6)]
def laid_internal_strconv_uint64pow10 {H : Type} : DataW H := .agg [.lit (.int .u64 1), .lit (.int .u64 10), .lit (.int .u64 100), .lit (.int .u64 1000), .lit (.int .u64 10000), .lit (.int .u64 100000), .lit (.int .u64 1000000), .lit (.int .u64 10000000), .lit (.int .u64 100000000), .lit (.int .u64 1000000000), .lit (.int .u64 10000000000), .lit (.int .u64 100000000000), .lit (.int .u64 1000000000000), .lit (.int .u64 10000000000000), .lit (.int .u64 100000000000000), .lit (.int .u64 1000000000000000), .lit (.int .u64 10000000000000000), .lit (.int .u64 100000000000000000), .lit (.int .u64 1000000000000000000), .lit (.int .u64 10000000000000000000)]
def laid_rollbook_glyph_widths {H : Type} : DataW H := .agg [.lit (.int .u8 4), .lit (.int .u8 6), .lit (.int .u8 8), .lit (.int .u8 8), .lit (.int .u8 12), .lit (.int .u8 10), .lit (.int .u8 4), .lit (.int .u8 6), .lit (.int .u8 6), .lit (.int .u8 8), .lit (.int .u8 8), .lit (.int .u8 4), .lit (.int .u8 6), .lit (.int .u8 4), .lit (.int .u8 6), .lit (.int .u8 8), .lit (.int .u8 8), .lit (.int .u8 8), .lit (.int .u8 8), .lit (.int .u8 8), .lit (.int .u8 8), .lit (.int .u8 8), .lit (.int .u8 8), .lit (.int .u8 8), .lit (.int .u8 8), .lit (.int .u8 4), .lit (.int .u8 4), .lit (.int .u8 8), .lit (.int .u8 8), .lit (.int .u8 8), .lit (.int .u8 8), .lit (.int .u8 12), .lit (.int .u8 10), .lit (.int .u8 10), .lit (.int .u8 10), .lit (.int .u8 10), .lit (.int .u8 10), .lit (.int .u8 10), .lit (.int .u8 10), .lit (.int .u8 10), .lit (.int .u8 6), .lit (.int .u8 10), .lit (.int .u8 10), .lit (.int .u8 10), .lit (.int .u8 12), .lit (.int .u8 10), .lit (.int .u8 10), .lit (.int .u8 10), .lit (.int .u8 10), .lit (.int .u8 10), .lit (.int .u8 10), .lit (.int .u8 10), .lit (.int .u8 10), .lit (.int .u8 10), .lit (.int .u8 12), .lit (.int .u8 10), .lit (.int .u8 10), .lit (.int .u8 10), .lit (.int .u8 0), .lit (.int .u8 6), .lit (.int .u8 0), .lit (.int .u8 8), .lit (.int .u8 8), .lit (.int .u8 4), .lit (.int .u8 8), .lit (.int .u8 8), .lit (.int .u8 8), .lit (.int .u8 8), .lit (.int .u8 8), .lit (.int .u8 6), .lit (.int .u8 8), .lit (.int .u8 8), .lit (.int .u8 4), .lit (.int .u8 4), .lit (.int .u8 8), .lit (.int .u8 4), .lit (.int .u8 12), .lit (.int .u8 8), .lit (.int .u8 8), .lit (.int .u8 8), .lit (.int .u8 8), .lit (.int .u8 6), .lit (.int .u8 8), .lit (.int .u8 6), .lit (.int .u8 8), .lit (.int .u8 8), .lit (.int .u8 12), .lit (.int .u8 8), .lit (.int .u8 8), .lit (.int .u8 8), .lit (.int .u8 6), .lit (.int .u8 4), .lit (.int .u8 6), .lit (.int .u8 8)]
def laid_rollbook_digest_rounds {H : Type} : DataW H := .agg [.lit (.int .u32 1116352408), .lit (.int .u32 1899447441), .lit (.int .u32 3049323471), .lit (.int .u32 3921009573), .lit (.int .u32 961987163), .lit (.int .u32 1508970993), .lit (.int .u32 2453635748), .lit (.int .u32 2870763221), .lit (.int .u32 3624381080), .lit (.int .u32 310598401), .lit (.int .u32 607225278), .lit (.int .u32 1426881987), .lit (.int .u32 1925078388), .lit (.int .u32 2162078206), .lit (.int .u32 2614888103), .lit (.int .u32 3248222580), .lit (.int .u32 3835390401), .lit (.int .u32 4022224774), .lit (.int .u32 264347078), .lit (.int .u32 604807628), .lit (.int .u32 770255983), .lit (.int .u32 1249150122), .lit (.int .u32 1555081692), .lit (.int .u32 1996064986), .lit (.int .u32 2554220882), .lit (.int .u32 2821834349), .lit (.int .u32 2952996808), .lit (.int .u32 3210313671), .lit (.int .u32 3336571891), .lit (.int .u32 3584528711), .lit (.int .u32 113926993), .lit (.int .u32 338241895), .lit (.int .u32 666307205), .lit (.int .u32 773529912), .lit (.int .u32 1294757372), .lit (.int .u32 1396182291), .lit (.int .u32 1695183700), .lit (.int .u32 1986661051), .lit (.int .u32 2177026350), .lit (.int .u32 2456956037), .lit (.int .u32 2730485921), .lit (.int .u32 2820302411), .lit (.int .u32 3259730800), .lit (.int .u32 3345764771), .lit (.int .u32 3516065817), .lit (.int .u32 3600352804), .lit (.int .u32 4094571909), .lit (.int .u32 275423344), .lit (.int .u32 430227734), .lit (.int .u32 506948616), .lit (.int .u32 659060556), .lit (.int .u32 883997877), .lit (.int .u32 958139571), .lit (.int .u32 1322822218), .lit (.int .u32 1537002063), .lit (.int .u32 1747873779), .lit (.int .u32 1955562222), .lit (.int .u32 2024104815), .lit (.int .u32 2227730452), .lit (.int .u32 2361852424), .lit (.int .u32 2428436474), .lit (.int .u32 2756734187), .lit (.int .u32 3204031479), .lit (.int .u32 3329325298)]

/-- 'rollbooklaw32.ViewSheets': WHATEVER THE INPUT: true; the input reads as it did. -/
def viewSheetsSpec : ChangeSpec := { name := "viewSheets", fn := fun _ => fun
  | [d1, d2] => { results := [.lit (.bool true)], args := [d1, d2] }
  | _ => none }
def viewSheetsRow : OpenClaim := { program := "ytegaapiocihcpaagreatdoor", sum := "555daab9bb62c7f82e1653a41e4dd79fadb2595bfc76a16a5af14ab3d05ab61c", func := "rollbook/rollbooklaw32.ViewSheets", spec := "viewSheets", inPlace := ["internal/abi.NoEscape", "internal/bytealg.MakeNoZero"], unfollowed := true, recurses := true, named := ["rollbook/glyph.widths", "internal/strconv.uint64pow10", "math/bits.deBruijn32tab", "math/bits.deBruijn64tab"], apart := false, laid := [("math/bits.deBruijn32tab", laid_math_bits_deBruijn32tab), ("math/bits.deBruijn64tab", laid_math_bits_deBruijn64tab), ("internal/strconv.uint64pow10", laid_internal_strconv_uint64pow10), ("rollbook/glyph.widths", laid_rollbook_glyph_widths)] }
def ViewSheetsSaid : Prop := viewSheetsRow.holds Tryz.pinned (OpenSpec.ofChange viewSheetsSpec)

/-- ITS FALSE NEIGHBOUR: 'it returns false'. Refute it at one input. -/
def viewSheetsWrong : ChangeSpec := { name := "viewSheets", fn := fun _ => fun
  | [d1, d2] => { results := [.lit (.bool false)], args := [d1, d2] }
  | _ => none }
def ViewSheetsWrongFalsely : Prop := viewSheetsRow.holds Tryz.pinned (OpenSpec.ofChange viewSheetsWrong)

/-- 'rollbooklaw32.ViewAnnexes': WHATEVER THE INPUT: true; the input reads as it did. -/
def viewAnnexesSpec : ChangeSpec := { name := "viewAnnexes", fn := fun _ => fun
  | [d1, d2, d3, d4] => { results := [.lit (.bool true)], args := [d1, d2, d3, d4] }
  | _ => none }
def viewAnnexesRow : OpenClaim := { program := "ytegaapiocihcpaagreatdoor", sum := "555daab9bb62c7f82e1653a41e4dd79fadb2595bfc76a16a5af14ab3d05ab61c", func := "rollbook/rollbooklaw32.ViewAnnexes", spec := "viewAnnexes", inPlace := ["internal/abi.NoEscape", "internal/bytealg.MakeNoZero"], unfollowed := true, recurses := true, named := ["rollbook/glyph.widths", "internal/strconv.uint64pow10", "math/bits.deBruijn32tab", "math/bits.deBruijn64tab"], apart := false, laid := [("math/bits.deBruijn32tab", laid_math_bits_deBruijn32tab), ("math/bits.deBruijn64tab", laid_math_bits_deBruijn64tab), ("internal/strconv.uint64pow10", laid_internal_strconv_uint64pow10), ("rollbook/glyph.widths", laid_rollbook_glyph_widths)] }
def ViewAnnexesSaid : Prop := viewAnnexesRow.holds Tryz.pinned (OpenSpec.ofChange viewAnnexesSpec)

/-- ITS FALSE NEIGHBOUR: 'it returns false'. Refute it at one input. -/
def viewAnnexesWrong : ChangeSpec := { name := "viewAnnexes", fn := fun _ => fun
  | [d1, d2, d3, d4] => { results := [.lit (.bool false)], args := [d1, d2, d3, d4] }
  | _ => none }
def ViewAnnexesWrongFalsely : Prop := viewAnnexesRow.holds Tryz.pinned (OpenSpec.ofChange viewAnnexesWrong)

/-- 'rollbooklaw32.ViewLines': WHATEVER THE INPUT: true; the input reads as it did. -/
def viewLinesSpec : ChangeSpec := { name := "viewLines", fn := fun _ => fun
  | [d1, d2, d3] => { results := [.lit (.bool true)], args := [d1, d2, d3] }
  | _ => none }
def viewLinesRow : OpenClaim := { program := "ytegaapiocihcpaagreatdoor", sum := "555daab9bb62c7f82e1653a41e4dd79fadb2595bfc76a16a5af14ab3d05ab61c", func := "rollbook/rollbooklaw32.ViewLines", spec := "viewLines", inPlace := ["internal/abi.NoEscape", "internal/bytealg.MakeNoZero"], unfollowed := true, recurses := true, named := ["rollbook/glyph.widths", "internal/strconv.uint64pow10", "math/bits.deBruijn32tab", "math/bits.deBruijn64tab"], apart := false, laid := [("math/bits.deBruijn32tab", laid_math_bits_deBruijn32tab), ("math/bits.deBruijn64tab", laid_math_bits_deBruijn64tab), ("internal/strconv.uint64pow10", laid_internal_strconv_uint64pow10), ("rollbook/glyph.widths", laid_rollbook_glyph_widths)] }
def ViewLinesSaid : Prop := viewLinesRow.holds Tryz.pinned (OpenSpec.ofChange viewLinesSpec)

/-- ITS FALSE NEIGHBOUR: 'it returns false'. Refute it at one input. -/
def viewLinesWrong : ChangeSpec := { name := "viewLines", fn := fun _ => fun
  | [d1, d2, d3] => { results := [.lit (.bool false)], args := [d1, d2, d3] }
  | _ => none }
def ViewLinesWrongFalsely : Prop := viewLinesRow.holds Tryz.pinned (OpenSpec.ofChange viewLinesWrong)

/-- 'rollbooklaw32.ViewCompletes': WHATEVER THE INPUT: true; the input reads as it did. -/
def viewCompletesSpec : ChangeSpec := { name := "viewCompletes", fn := fun _ => fun
  | [d1, d2, d3] => { results := [.lit (.bool true)], args := [d1, d2, d3] }
  | _ => none }
def viewCompletesRow : OpenClaim := { program := "ytegaapiocihcpaagreatdoor", sum := "555daab9bb62c7f82e1653a41e4dd79fadb2595bfc76a16a5af14ab3d05ab61c", func := "rollbook/rollbooklaw32.ViewCompletes", spec := "viewCompletes", inPlace := ["internal/abi.NoEscape", "internal/bytealg.MakeNoZero"], unfollowed := true, recurses := true, named := ["rollbook/glyph.widths", "internal/strconv.uint64pow10", "math/bits.deBruijn32tab", "math/bits.deBruijn64tab"], apart := false, laid := [("math/bits.deBruijn32tab", laid_math_bits_deBruijn32tab), ("math/bits.deBruijn64tab", laid_math_bits_deBruijn64tab), ("internal/strconv.uint64pow10", laid_internal_strconv_uint64pow10), ("rollbook/glyph.widths", laid_rollbook_glyph_widths)] }
def ViewCompletesSaid : Prop := viewCompletesRow.holds Tryz.pinned (OpenSpec.ofChange viewCompletesSpec)

/-- ITS FALSE NEIGHBOUR: 'it returns false'. Refute it at one input. -/
def viewCompletesWrong : ChangeSpec := { name := "viewCompletes", fn := fun _ => fun
  | [d1, d2, d3] => { results := [.lit (.bool false)], args := [d1, d2, d3] }
  | _ => none }
def ViewCompletesWrongFalsely : Prop := viewCompletesRow.holds Tryz.pinned (OpenSpec.ofChange viewCompletesWrong)

/-- 'rollbooklaw32.ViewOpens': WHATEVER THE INPUT: true; the input reads as it did. -/
def viewOpensSpec : ChangeSpec := { name := "viewOpens", fn := fun _ => fun
  | [d1, d2] => { results := [.lit (.bool true)], args := [d1, d2] }
  | _ => none }
def viewOpensRow : OpenClaim := { program := "ytegaapiocihcpaagreatdoor", sum := "555daab9bb62c7f82e1653a41e4dd79fadb2595bfc76a16a5af14ab3d05ab61c", func := "rollbook/rollbooklaw32.ViewOpens", spec := "viewOpens", inPlace := ["internal/abi.NoEscape", "internal/bytealg.MakeNoZero"], unfollowed := true, recurses := true, named := ["rollbook/glyph.widths", "internal/strconv.uint64pow10", "math/bits.deBruijn32tab", "math/bits.deBruijn64tab"], apart := false, laid := [("math/bits.deBruijn32tab", laid_math_bits_deBruijn32tab), ("math/bits.deBruijn64tab", laid_math_bits_deBruijn64tab), ("internal/strconv.uint64pow10", laid_internal_strconv_uint64pow10), ("rollbook/glyph.widths", laid_rollbook_glyph_widths)] }
def ViewOpensSaid : Prop := viewOpensRow.holds Tryz.pinned (OpenSpec.ofChange viewOpensSpec)

/-- ITS FALSE NEIGHBOUR: 'it returns false'. Refute it at one input. -/
def viewOpensWrong : ChangeSpec := { name := "viewOpens", fn := fun _ => fun
  | [d1, d2] => { results := [.lit (.bool false)], args := [d1, d2] }
  | _ => none }
def ViewOpensWrongFalsely : Prop := viewOpensRow.holds Tryz.pinned (OpenSpec.ofChange viewOpensWrong)

/-- 'rollbooklaw32.ViewBoxes': WHATEVER THE INPUT: true; the input reads as it did. -/
def viewBoxesSpec : ChangeSpec := { name := "viewBoxes", fn := fun _ => fun
  | [d1, d2] => { results := [.lit (.bool true)], args := [d1, d2] }
  | _ => none }
def viewBoxesRow : OpenClaim := { program := "ytegaapiocihcpaagreatdoor", sum := "555daab9bb62c7f82e1653a41e4dd79fadb2595bfc76a16a5af14ab3d05ab61c", func := "rollbook/rollbooklaw32.ViewBoxes", spec := "viewBoxes", inPlace := ["internal/abi.NoEscape", "internal/bytealg.MakeNoZero"], unfollowed := true, recurses := true, named := ["rollbook/glyph.widths", "internal/strconv.uint64pow10", "math/bits.deBruijn32tab", "math/bits.deBruijn64tab"], apart := false, laid := [("math/bits.deBruijn32tab", laid_math_bits_deBruijn32tab), ("math/bits.deBruijn64tab", laid_math_bits_deBruijn64tab), ("internal/strconv.uint64pow10", laid_internal_strconv_uint64pow10), ("rollbook/glyph.widths", laid_rollbook_glyph_widths)] }
def ViewBoxesSaid : Prop := viewBoxesRow.holds Tryz.pinned (OpenSpec.ofChange viewBoxesSpec)

/-- ITS FALSE NEIGHBOUR: 'it returns false'. Refute it at one input. -/
def viewBoxesWrong : ChangeSpec := { name := "viewBoxes", fn := fun _ => fun
  | [d1, d2] => { results := [.lit (.bool false)], args := [d1, d2] }
  | _ => none }
def ViewBoxesWrongFalsely : Prop := viewBoxesRow.holds Tryz.pinned (OpenSpec.ofChange viewBoxesWrong)

/-- 'rollbooklaw32.ViewShapes': WHATEVER THE INPUT: true; the input reads as it did. -/
def viewShapesSpec : ChangeSpec := { name := "viewShapes", fn := fun _ => fun
  | [d1, d2, d3, d4] => { results := [.lit (.bool true)], args := [d1, d2, d3, d4] }
  | _ => none }
def viewShapesRow : OpenClaim := { program := "ytegaapiocihcpaagreatdoor", sum := "555daab9bb62c7f82e1653a41e4dd79fadb2595bfc76a16a5af14ab3d05ab61c", func := "rollbook/rollbooklaw32.ViewShapes", spec := "viewShapes", inPlace := ["internal/abi.NoEscape", "internal/bytealg.MakeNoZero"], unfollowed := true, recurses := true, named := ["rollbook/glyph.widths", "internal/strconv.uint64pow10", "math/bits.deBruijn32tab", "math/bits.deBruijn64tab"], apart := false, laid := [("math/bits.deBruijn32tab", laid_math_bits_deBruijn32tab), ("math/bits.deBruijn64tab", laid_math_bits_deBruijn64tab), ("internal/strconv.uint64pow10", laid_internal_strconv_uint64pow10), ("rollbook/glyph.widths", laid_rollbook_glyph_widths)] }
def ViewShapesSaid : Prop := viewShapesRow.holds Tryz.pinned (OpenSpec.ofChange viewShapesSpec)

/-- ITS FALSE NEIGHBOUR: 'it returns false'. Refute it at one input. -/
def viewShapesWrong : ChangeSpec := { name := "viewShapes", fn := fun _ => fun
  | [d1, d2, d3, d4] => { results := [.lit (.bool false)], args := [d1, d2, d3, d4] }
  | _ => none }
def ViewShapesWrongFalsely : Prop := viewShapesRow.holds Tryz.pinned (OpenSpec.ofChange viewShapesWrong)

/-- 'rollbooklaw32.ViewWidths': WHATEVER THE INPUT: true; the input reads as it did. -/
def viewWidthsSpec : ChangeSpec := { name := "viewWidths", fn := fun _ => fun
  | [d1, d2, d3, d4, d5] => { results := [.lit (.bool true)], args := [d1, d2, d3, d4, d5] }
  | _ => none }
def viewWidthsRow : OpenClaim := { program := "ytegaapiocihcpaagreatdoor", sum := "555daab9bb62c7f82e1653a41e4dd79fadb2595bfc76a16a5af14ab3d05ab61c", func := "rollbook/rollbooklaw32.ViewWidths", spec := "viewWidths", inPlace := ["internal/abi.NoEscape", "internal/bytealg.MakeNoZero"], unfollowed := true, recurses := true, named := ["rollbook/glyph.widths", "internal/strconv.uint64pow10", "math/bits.deBruijn32tab", "math/bits.deBruijn64tab"], apart := false, laid := [("math/bits.deBruijn32tab", laid_math_bits_deBruijn32tab), ("math/bits.deBruijn64tab", laid_math_bits_deBruijn64tab), ("internal/strconv.uint64pow10", laid_internal_strconv_uint64pow10), ("rollbook/glyph.widths", laid_rollbook_glyph_widths)] }
def ViewWidthsSaid : Prop := viewWidthsRow.holds Tryz.pinned (OpenSpec.ofChange viewWidthsSpec)

/-- ITS FALSE NEIGHBOUR: 'it returns false'. Refute it at one input. -/
def viewWidthsWrong : ChangeSpec := { name := "viewWidths", fn := fun _ => fun
  | [d1, d2, d3, d4, d5] => { results := [.lit (.bool false)], args := [d1, d2, d3, d4, d5] }
  | _ => none }
def ViewWidthsWrongFalsely : Prop := viewWidthsRow.holds Tryz.pinned (OpenSpec.ofChange viewWidthsWrong)

/-- 'rollbooklaw32.ViewSame': WHATEVER THE INPUT: true; the input reads as it did. -/
def viewSameSpec : ChangeSpec := { name := "viewSame", fn := fun _ => fun
  | [d1, d2, d3] => { results := [.lit (.bool true)], args := [d1, d2, d3] }
  | _ => none }
def viewSameRow : OpenClaim := { program := "ytegaapiocihcpaagreatdoor", sum := "555daab9bb62c7f82e1653a41e4dd79fadb2595bfc76a16a5af14ab3d05ab61c", func := "rollbook/rollbooklaw32.ViewSame", spec := "viewSame", inPlace := ["internal/abi.NoEscape", "internal/bytealg.MakeNoZero"], unfollowed := true, recurses := true, named := ["rollbook/glyph.widths", "internal/strconv.uint64pow10", "math/bits.deBruijn32tab", "math/bits.deBruijn64tab"], apart := false, laid := [("math/bits.deBruijn32tab", laid_math_bits_deBruijn32tab), ("math/bits.deBruijn64tab", laid_math_bits_deBruijn64tab), ("internal/strconv.uint64pow10", laid_internal_strconv_uint64pow10), ("rollbook/glyph.widths", laid_rollbook_glyph_widths)] }
def ViewSameSaid : Prop := viewSameRow.holds Tryz.pinned (OpenSpec.ofChange viewSameSpec)

/-- ITS FALSE NEIGHBOUR: 'it returns false'. Refute it at one input. -/
def viewSameWrong : ChangeSpec := { name := "viewSame", fn := fun _ => fun
  | [d1, d2, d3] => { results := [.lit (.bool false)], args := [d1, d2, d3] }
  | _ => none }
def ViewSameWrongFalsely : Prop := viewSameRow.holds Tryz.pinned (OpenSpec.ofChange viewSameWrong)

/-- 'rollbooklaw34.CertifyBooks': WHATEVER THE INPUT: true; the input reads as it did. -/
def certifyBooksSpec : ChangeSpec := { name := "certifyBooks", fn := fun _ => fun
  | [d1, d2, d3, d4] => { results := [.lit (.bool true)], args := [d1, d2, d3, d4] }
  | _ => none }
def certifyBooksRow : OpenClaim := { program := "ytegaapiocihcpaagreatdoor", sum := "555daab9bb62c7f82e1653a41e4dd79fadb2595bfc76a16a5af14ab3d05ab61c", func := "rollbook/rollbooklaw34.CertifyBooks", spec := "certifyBooks", inPlace := ["internal/abi.NoEscape", "internal/bytealg.MakeNoZero"], unfollowed := true, recurses := true, named := ["rollbook/glyph.widths", "internal/strconv.uint64pow10", "math/bits.deBruijn32tab", "math/bits.deBruijn64tab", "rollbook/digest.rounds"], apart := false, laid := [("math/bits.deBruijn32tab", laid_math_bits_deBruijn32tab), ("math/bits.deBruijn64tab", laid_math_bits_deBruijn64tab), ("internal/strconv.uint64pow10", laid_internal_strconv_uint64pow10), ("rollbook/digest.rounds", laid_rollbook_digest_rounds), ("rollbook/glyph.widths", laid_rollbook_glyph_widths)] }
def CertifyBooksSaid : Prop := certifyBooksRow.holds Tryz.pinned (OpenSpec.ofChange certifyBooksSpec)

/-- ITS FALSE NEIGHBOUR: 'it returns false'. Refute it at one input. -/
def certifyBooksWrong : ChangeSpec := { name := "certifyBooks", fn := fun _ => fun
  | [d1, d2, d3, d4] => { results := [.lit (.bool false)], args := [d1, d2, d3, d4] }
  | _ => none }
def CertifyBooksWrongFalsely : Prop := certifyBooksRow.holds Tryz.pinned (OpenSpec.ofChange certifyBooksWrong)

/- THE SECOND FORM. 'bulk': how many values and letters a reading holds, each counted each time it is reached (what is shared counts as often as it is met; a slice's spare places count too). A statement '..UptoSaid' is the law's where the arguments, and the package variables that the reading takes, are together of bulk at most 1048576: NARROWER than '..Said'. Prove '..Said' where nothing that the law and all that it calls make is longer than what came in: it says more and counts as full. Else prove '..UptoSaid'. A law counts once. -/
mutual
def uptoBulk {H : Type} : DataW H → Nat
  | .lit (.string bytes) => bytes.length + 1
  | .lit _ => 1
  | .nil => 1
  | .ptr d => uptoBulk d + 1
  | .slice elems spare => uptoBulkAll elems + uptoBulkAll spare + 1
  | .agg parts => uptoBulkAll parts + 1
  | .iface _ d => uptoBulk d + 1
  | .map entries => uptoBulkEntries entries + 1
  | .held _ => 1
def uptoBulkAll {H : Type} : List (DataW H) → Nat
  | [] => 0
  | d :: r => uptoBulk d + uptoBulkAll r
def uptoBulkEntries {H : Type} : List (Lit × DataW H) → Nat
  | [] => 0
  | x :: r => uptoBulkEntry x + uptoBulkEntries r
def uptoBulkEntry {H : Type} : Lit × DataW H → Nat
  | (.string bytes, d) => bytes.length + uptoBulk d + 1
  | (_, d) => uptoBulk d + 1
 end
def uptoSmall : (H : Type) → List (DataW H) → Bool := fun _ ds => decide (uptoBulkAll ds ≤ 1048576)
def OpenSpec.upto (s : _root_.Go.ChangeSpec) : _root_.Go.OpenSpec := { _root_.Go.OpenSpec.ofChange s with cond := some uptoSmall }

/-- 'rollbooklaw32.ViewSheets', WHERE WHAT IT READS IS OF BULK AT MOST 1048576: true; the input reads as it did. -/
def viewSheetsUptoRow : OpenClaim := { program := "ytegaapiocihcpaagreatdoor", sum := "555daab9bb62c7f82e1653a41e4dd79fadb2595bfc76a16a5af14ab3d05ab61c", func := "rollbook/rollbooklaw32.ViewSheets", spec := "viewSheets", inPlace := ["internal/abi.NoEscape", "internal/bytealg.MakeNoZero"], unfollowed := true, recurses := true, named := ["rollbook/glyph.widths", "internal/strconv.uint64pow10", "math/bits.deBruijn32tab", "math/bits.deBruijn64tab"], apart := false, laid := [("math/bits.deBruijn32tab", laid_math_bits_deBruijn32tab), ("math/bits.deBruijn64tab", laid_math_bits_deBruijn64tab), ("internal/strconv.uint64pow10", laid_internal_strconv_uint64pow10), ("rollbook/glyph.widths", laid_rollbook_glyph_widths)], narrowed := true }
def ViewSheetsUptoSaid : Prop := viewSheetsUptoRow.holds Tryz.pinned (OpenSpec.upto viewSheetsSpec)

/-- 'rollbooklaw32.ViewAnnexes', WHERE WHAT IT READS IS OF BULK AT MOST 1048576: true; the input reads as it did. -/
def viewAnnexesUptoRow : OpenClaim := { program := "ytegaapiocihcpaagreatdoor", sum := "555daab9bb62c7f82e1653a41e4dd79fadb2595bfc76a16a5af14ab3d05ab61c", func := "rollbook/rollbooklaw32.ViewAnnexes", spec := "viewAnnexes", inPlace := ["internal/abi.NoEscape", "internal/bytealg.MakeNoZero"], unfollowed := true, recurses := true, named := ["rollbook/glyph.widths", "internal/strconv.uint64pow10", "math/bits.deBruijn32tab", "math/bits.deBruijn64tab"], apart := false, laid := [("math/bits.deBruijn32tab", laid_math_bits_deBruijn32tab), ("math/bits.deBruijn64tab", laid_math_bits_deBruijn64tab), ("internal/strconv.uint64pow10", laid_internal_strconv_uint64pow10), ("rollbook/glyph.widths", laid_rollbook_glyph_widths)], narrowed := true }
def ViewAnnexesUptoSaid : Prop := viewAnnexesUptoRow.holds Tryz.pinned (OpenSpec.upto viewAnnexesSpec)

/-- 'rollbooklaw32.ViewLines', WHERE WHAT IT READS IS OF BULK AT MOST 1048576: true; the input reads as it did. -/
def viewLinesUptoRow : OpenClaim := { program := "ytegaapiocihcpaagreatdoor", sum := "555daab9bb62c7f82e1653a41e4dd79fadb2595bfc76a16a5af14ab3d05ab61c", func := "rollbook/rollbooklaw32.ViewLines", spec := "viewLines", inPlace := ["internal/abi.NoEscape", "internal/bytealg.MakeNoZero"], unfollowed := true, recurses := true, named := ["rollbook/glyph.widths", "internal/strconv.uint64pow10", "math/bits.deBruijn32tab", "math/bits.deBruijn64tab"], apart := false, laid := [("math/bits.deBruijn32tab", laid_math_bits_deBruijn32tab), ("math/bits.deBruijn64tab", laid_math_bits_deBruijn64tab), ("internal/strconv.uint64pow10", laid_internal_strconv_uint64pow10), ("rollbook/glyph.widths", laid_rollbook_glyph_widths)], narrowed := true }
def ViewLinesUptoSaid : Prop := viewLinesUptoRow.holds Tryz.pinned (OpenSpec.upto viewLinesSpec)

/-- 'rollbooklaw32.ViewCompletes', WHERE WHAT IT READS IS OF BULK AT MOST 1048576: true; the input reads as it did. -/
def viewCompletesUptoRow : OpenClaim := { program := "ytegaapiocihcpaagreatdoor", sum := "555daab9bb62c7f82e1653a41e4dd79fadb2595bfc76a16a5af14ab3d05ab61c", func := "rollbook/rollbooklaw32.ViewCompletes", spec := "viewCompletes", inPlace := ["internal/abi.NoEscape", "internal/bytealg.MakeNoZero"], unfollowed := true, recurses := true, named := ["rollbook/glyph.widths", "internal/strconv.uint64pow10", "math/bits.deBruijn32tab", "math/bits.deBruijn64tab"], apart := false, laid := [("math/bits.deBruijn32tab", laid_math_bits_deBruijn32tab), ("math/bits.deBruijn64tab", laid_math_bits_deBruijn64tab), ("internal/strconv.uint64pow10", laid_internal_strconv_uint64pow10), ("rollbook/glyph.widths", laid_rollbook_glyph_widths)], narrowed := true }
def ViewCompletesUptoSaid : Prop := viewCompletesUptoRow.holds Tryz.pinned (OpenSpec.upto viewCompletesSpec)

/-- 'rollbooklaw32.ViewOpens', WHERE WHAT IT READS IS OF BULK AT MOST 1048576: true; the input reads as it did. -/
def viewOpensUptoRow : OpenClaim := { program := "ytegaapiocihcpaagreatdoor", sum := "555daab9bb62c7f82e1653a41e4dd79fadb2595bfc76a16a5af14ab3d05ab61c", func := "rollbook/rollbooklaw32.ViewOpens", spec := "viewOpens", inPlace := ["internal/abi.NoEscape", "internal/bytealg.MakeNoZero"], unfollowed := true, recurses := true, named := ["rollbook/glyph.widths", "internal/strconv.uint64pow10", "math/bits.deBruijn32tab", "math/bits.deBruijn64tab"], apart := false, laid := [("math/bits.deBruijn32tab", laid_math_bits_deBruijn32tab), ("math/bits.deBruijn64tab", laid_math_bits_deBruijn64tab), ("internal/strconv.uint64pow10", laid_internal_strconv_uint64pow10), ("rollbook/glyph.widths", laid_rollbook_glyph_widths)], narrowed := true }
def ViewOpensUptoSaid : Prop := viewOpensUptoRow.holds Tryz.pinned (OpenSpec.upto viewOpensSpec)

/-- 'rollbooklaw32.ViewBoxes', WHERE WHAT IT READS IS OF BULK AT MOST 1048576: true; the input reads as it did. -/
def viewBoxesUptoRow : OpenClaim := { program := "ytegaapiocihcpaagreatdoor", sum := "555daab9bb62c7f82e1653a41e4dd79fadb2595bfc76a16a5af14ab3d05ab61c", func := "rollbook/rollbooklaw32.ViewBoxes", spec := "viewBoxes", inPlace := ["internal/abi.NoEscape", "internal/bytealg.MakeNoZero"], unfollowed := true, recurses := true, named := ["rollbook/glyph.widths", "internal/strconv.uint64pow10", "math/bits.deBruijn32tab", "math/bits.deBruijn64tab"], apart := false, laid := [("math/bits.deBruijn32tab", laid_math_bits_deBruijn32tab), ("math/bits.deBruijn64tab", laid_math_bits_deBruijn64tab), ("internal/strconv.uint64pow10", laid_internal_strconv_uint64pow10), ("rollbook/glyph.widths", laid_rollbook_glyph_widths)], narrowed := true }
def ViewBoxesUptoSaid : Prop := viewBoxesUptoRow.holds Tryz.pinned (OpenSpec.upto viewBoxesSpec)

/-- 'rollbooklaw32.ViewShapes', WHERE WHAT IT READS IS OF BULK AT MOST 1048576: true; the input reads as it did. -/
def viewShapesUptoRow : OpenClaim := { program := "ytegaapiocihcpaagreatdoor", sum := "555daab9bb62c7f82e1653a41e4dd79fadb2595bfc76a16a5af14ab3d05ab61c", func := "rollbook/rollbooklaw32.ViewShapes", spec := "viewShapes", inPlace := ["internal/abi.NoEscape", "internal/bytealg.MakeNoZero"], unfollowed := true, recurses := true, named := ["rollbook/glyph.widths", "internal/strconv.uint64pow10", "math/bits.deBruijn32tab", "math/bits.deBruijn64tab"], apart := false, laid := [("math/bits.deBruijn32tab", laid_math_bits_deBruijn32tab), ("math/bits.deBruijn64tab", laid_math_bits_deBruijn64tab), ("internal/strconv.uint64pow10", laid_internal_strconv_uint64pow10), ("rollbook/glyph.widths", laid_rollbook_glyph_widths)], narrowed := true }
def ViewShapesUptoSaid : Prop := viewShapesUptoRow.holds Tryz.pinned (OpenSpec.upto viewShapesSpec)

/-- 'rollbooklaw32.ViewWidths', WHERE WHAT IT READS IS OF BULK AT MOST 1048576: true; the input reads as it did. -/
def viewWidthsUptoRow : OpenClaim := { program := "ytegaapiocihcpaagreatdoor", sum := "555daab9bb62c7f82e1653a41e4dd79fadb2595bfc76a16a5af14ab3d05ab61c", func := "rollbook/rollbooklaw32.ViewWidths", spec := "viewWidths", inPlace := ["internal/abi.NoEscape", "internal/bytealg.MakeNoZero"], unfollowed := true, recurses := true, named := ["rollbook/glyph.widths", "internal/strconv.uint64pow10", "math/bits.deBruijn32tab", "math/bits.deBruijn64tab"], apart := false, laid := [("math/bits.deBruijn32tab", laid_math_bits_deBruijn32tab), ("math/bits.deBruijn64tab", laid_math_bits_deBruijn64tab), ("internal/strconv.uint64pow10", laid_internal_strconv_uint64pow10), ("rollbook/glyph.widths", laid_rollbook_glyph_widths)], narrowed := true }
def ViewWidthsUptoSaid : Prop := viewWidthsUptoRow.holds Tryz.pinned (OpenSpec.upto viewWidthsSpec)

/-- 'rollbooklaw32.ViewSame', WHERE WHAT IT READS IS OF BULK AT MOST 1048576: true; the input reads as it did. -/
def viewSameUptoRow : OpenClaim := { program := "ytegaapiocihcpaagreatdoor", sum := "555daab9bb62c7f82e1653a41e4dd79fadb2595bfc76a16a5af14ab3d05ab61c", func := "rollbook/rollbooklaw32.ViewSame", spec := "viewSame", inPlace := ["internal/abi.NoEscape", "internal/bytealg.MakeNoZero"], unfollowed := true, recurses := true, named := ["rollbook/glyph.widths", "internal/strconv.uint64pow10", "math/bits.deBruijn32tab", "math/bits.deBruijn64tab"], apart := false, laid := [("math/bits.deBruijn32tab", laid_math_bits_deBruijn32tab), ("math/bits.deBruijn64tab", laid_math_bits_deBruijn64tab), ("internal/strconv.uint64pow10", laid_internal_strconv_uint64pow10), ("rollbook/glyph.widths", laid_rollbook_glyph_widths)], narrowed := true }
def ViewSameUptoSaid : Prop := viewSameUptoRow.holds Tryz.pinned (OpenSpec.upto viewSameSpec)

/-- 'rollbooklaw34.CertifyBooks', WHERE WHAT IT READS IS OF BULK AT MOST 1048576: true; the input reads as it did. -/
def certifyBooksUptoRow : OpenClaim := { program := "ytegaapiocihcpaagreatdoor", sum := "555daab9bb62c7f82e1653a41e4dd79fadb2595bfc76a16a5af14ab3d05ab61c", func := "rollbook/rollbooklaw34.CertifyBooks", spec := "certifyBooks", inPlace := ["internal/abi.NoEscape", "internal/bytealg.MakeNoZero"], unfollowed := true, recurses := true, named := ["rollbook/glyph.widths", "internal/strconv.uint64pow10", "math/bits.deBruijn32tab", "math/bits.deBruijn64tab", "rollbook/digest.rounds"], apart := false, laid := [("math/bits.deBruijn32tab", laid_math_bits_deBruijn32tab), ("math/bits.deBruijn64tab", laid_math_bits_deBruijn64tab), ("internal/strconv.uint64pow10", laid_internal_strconv_uint64pow10), ("rollbook/digest.rounds", laid_rollbook_digest_rounds), ("rollbook/glyph.widths", laid_rollbook_glyph_widths)], narrowed := true }
def CertifyBooksUptoSaid : Prop := certifyBooksUptoRow.holds Tryz.pinned (OpenSpec.upto certifyBooksSpec)

end Rows
end Go.Proofs.YtegaapiocihcpaaGreatDoor
