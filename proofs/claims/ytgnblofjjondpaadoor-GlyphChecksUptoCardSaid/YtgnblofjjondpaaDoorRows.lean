/-
  NARROWER THAN 'FOR EVERY INPUT', by the rows' own cells (each row's printed sentence says how): GlyphWords: laid · GlyphStands: laid · GlyphChecks: laid · GlyphCounts: laid · GlyphSplits: laid · GlyphSums: laid · GlyphFillers: laid · GlyphShapes: laid · GlyphJoins: laid.
  DERIVED. THE GIVEN ROWS OF THIS SEAT. 9 by the template 'for every input the law returns true; each argument reads behind the call as it read before'; 0 by the template 'total and deterministic' (their statements: YtgnblofjjondpaaDoorTotals.lean).
  GIVEN WITH THE SEED: the statements are not yours to turn. If you find one false, say at which input.
  Laid BY PROGRAM, IN A SANDBOX (cutbox-rows.mjs): the forced cells as the released guide's own fill.sh prints them over the translation a645f2bd03b7b22d… (all of the seat's roots in one cut). By AI agents, Wed Nov 11 2026. No macro, syntax, notation, axiom, sorry.
-/
import Derived.Test.YtgnblofjjondpaaDoorChecked
import GoSem.Claim
import GoSem.ClaimJoined
import GoSem.ClaimMapViews
import Derived.JoinedTies
import Derived.KernelRfl
namespace Go.Proofs.YtgnblofjjondpaaDoor
/- THE CELL 'sum', in the pinned program and in every row, IS THE sha256 OF THE DUMP (.gsa) THAT YtgnblofjjondpaaDoorProg.lean LOADS. Nothing in Lean hashes anything: it is a label: what it is worth is what the hold of that sum in a sandbox is worth. -/
noncomputable def Tryd.pinned : Pinned := { name := "ytgnblofjjondpaadoor", sum := "a645f2bd03b7b22d9f7e833aadd9035babb9c812ea869fba834bbdb854d8f550", checked := Tryd.checked }
namespace Rows
def none {H : Type} : Left H := { results := [], args := [] }

/- WHAT THE LISTED PACKAGE-LEVEL VARIABLES READ AS WHEN THE CALL BEGINS. Each datum BY PROGRAM (the guide's laid-datum.mjs) off the statement by which the dump's own 'gosem.cut.vars' lays the variable. In a bare row this is a premise. The card (YtgnblofjjondpaaDoorCards.lean) ties it to the program's text. -/
def laid_math_bits_deBruijn32tab {H : Type} : DataW H := .agg [.lit (.int .u8 0), .lit (.int .u8 1), .lit (.int .u8 28), .lit (.int .u8 2), .lit (.int .u8 29), .lit (.int .u8 14), .lit (.int .u8 24), .lit (.int .u8 3), .lit (.int .u8 30), .lit (.int .u8 22), .lit (.int .u8 20), .lit (.int .u8 15), .lit (.int .u8 25), .lit (.int .u8 17), .lit (.int .u8 4), .lit (.int .u8 8), .lit (.int .u8 31), .lit (.int .u8 27), .lit (.int .u8 13), .lit (.int .u8 23), .lit (.int .u8 21), .lit (.int .u8 19), .lit (.int .u8 16), .lit (.int .u8 7), .lit (.int .u8 26), .lit (.int .u8 12), .lit (.int .u8 18), .lit (.int .u8 6), .lit (.int .u8 11), .lit (.int .u8 5), .lit (.int .u8 10), .lit (.int .u8 9)]
def laid_math_bits_deBruijn64tab {H : Type} : DataW H := .agg [.lit (.int .u8 0), .lit (.int .u8 1), .lit (.int .u8 56), .lit (.int .u8 2), .lit (.int .u8 57), .lit (.int .u8 49), .lit (.int .u8 28), .lit (.int .u8 3), .lit (.int .u8 61), .lit (.int .u8 58), .lit (.int .u8 42), .lit (.int .u8 50), .lit (.int .u8 38), .lit (.int .u8 29), .lit (.int .u8 17), .lit (.int .u8 4), .lit (.int .u8 62), .lit (.int .u8 47), .lit (.int .u8 59), .lit (.int .u8 36), .lit (.int .u8 45), .lit (.int .u8 43), .lit (.int .u8 51), .lit (.int .u8 22), .lit (.int .u8 53), .lit (.int .u8 39), .lit (.int .u8 33), .lit (.int .u8 30), .lit (.int .u8 24), .lit (.int .u8 18), .lit (.int .u8 12), .lit (.int .u8 5), .lit (.int .u8 63), .lit (.int .u8 55), .lit (.int .u8 48), .lit (.int .u8 27), .lit (.int .u8 60), .lit (.int .u8 41), .lit (.int .u8 37), .lit (.int .u8 16), .lit (.int .u8 46), .lit (.int .u8 35), .lit (.int .u8 44), .lit (.int .u8 21), .lit (.int .u8 52), .lit (.int .u8 32), .lit (.int .u8 23), .lit (.int .u8 11), .lit (.int .u8 54), .lit (.int .u8 26), .lit (.int .u8 40), .lit (.int .u8 15), .lit (.int .u8 34), .lit (.int .u8 20), .lit (.int .u8 31), .lit (.int .u8 10), .lit (.int .u8 25), .lit (.int .u8 14), .lit (.int .u8 19), .lit (.int .u8 9), .lit (.int .u8 13), .lit (.int .u8 8), .lit (.int .u8 7), .lit (.int .u8 6)]
def laid_internal_strconv_uint64pow10 {H : Type} : DataW H := .agg [.lit (.int .u64 1), .lit (.int .u64 10), .lit (.int .u64 100), .lit (.int .u64 1000), .lit (.int .u64 10000), .lit (.int .u64 100000), .lit (.int .u64 1000000), .lit (.int .u64 10000000), .lit (.int .u64 100000000), .lit (.int .u64 1000000000), .lit (.int .u64 10000000000), .lit (.int .u64 100000000000), .lit (.int .u64 1000000000000), .lit (.int .u64 10000000000000), .lit (.int .u64 100000000000000), .lit (.int .u64 1000000000000000), .lit (.int .u64 10000000000000000), .lit (.int .u64 100000000000000000), .lit (.int .u64 1000000000000000000), .lit (.int .u64 10000000000000000000)]
def laid_rollbook_glyph_widths {H : Type} : DataW H := .agg [.lit (.int .u8 4), .lit (.int .u8 6), .lit (.int .u8 8), .lit (.int .u8 8), .lit (.int .u8 12), .lit (.int .u8 10), .lit (.int .u8 4), .lit (.int .u8 6), .lit (.int .u8 6), .lit (.int .u8 8), .lit (.int .u8 8), .lit (.int .u8 4), .lit (.int .u8 6), .lit (.int .u8 4), .lit (.int .u8 6), .lit (.int .u8 8), .lit (.int .u8 8), .lit (.int .u8 8), .lit (.int .u8 8), .lit (.int .u8 8), .lit (.int .u8 8), .lit (.int .u8 8), .lit (.int .u8 8), .lit (.int .u8 8), .lit (.int .u8 8), .lit (.int .u8 4), .lit (.int .u8 4), .lit (.int .u8 8), .lit (.int .u8 8), .lit (.int .u8 8), .lit (.int .u8 8), .lit (.int .u8 12), .lit (.int .u8 10), .lit (.int .u8 10), .lit (.int .u8 10), .lit (.int .u8 10), .lit (.int .u8 10), .lit (.int .u8 10), .lit (.int .u8 10), .lit (.int .u8 10), .lit (.int .u8 6), .lit (.int .u8 10), .lit (.int .u8 10), .lit (.int .u8 10), .lit (.int .u8 12), .lit (.int .u8 10), .lit (.int .u8 10), .lit (.int .u8 10), .lit (.int .u8 10), .lit (.int .u8 10), .lit (.int .u8 10), .lit (.int .u8 10), .lit (.int .u8 10), .lit (.int .u8 10), .lit (.int .u8 12), .lit (.int .u8 10), .lit (.int .u8 10), .lit (.int .u8 10), .lit (.int .u8 0), .lit (.int .u8 6), .lit (.int .u8 0), .lit (.int .u8 8), .lit (.int .u8 8), .lit (.int .u8 4), .lit (.int .u8 8), .lit (.int .u8 8), .lit (.int .u8 8), .lit (.int .u8 8), .lit (.int .u8 8), .lit (.int .u8 6), .lit (.int .u8 8), .lit (.int .u8 8), .lit (.int .u8 4), .lit (.int .u8 4), .lit (.int .u8 8), .lit (.int .u8 4), .lit (.int .u8 12), .lit (.int .u8 8), .lit (.int .u8 8), .lit (.int .u8 8), .lit (.int .u8 8), .lit (.int .u8 6), .lit (.int .u8 8), .lit (.int .u8 6), .lit (.int .u8 8), .lit (.int .u8 8), .lit (.int .u8 12), .lit (.int .u8 8), .lit (.int .u8 8), .lit (.int .u8 8), .lit (.int .u8 6), .lit (.int .u8 4), .lit (.int .u8 6), .lit (.int .u8 8)]

/-- 'rollbooklaw25.GlyphWords': WHATEVER THE INPUT: true; the input reads as it did. -/
def glyphWordsSpec : ChangeSpec := { name := "glyphWords", fn := fun _ => fun
  | [d1, d2] => { results := [.lit (.bool true)], args := [d1, d2] }
  | _ => none }
def glyphWordsRow : OpenClaim := { program := "ytgnblofjjondpaadoor", sum := "a645f2bd03b7b22d9f7e833aadd9035babb9c812ea869fba834bbdb854d8f550", func := "rollbook/rollbooklaw25.GlyphWords", spec := "glyphWords", inPlace := ["internal/abi.NoEscape", "internal/bytealg.MakeNoZero"], unfollowed := true, recurses := true, named := ["rollbook/glyph.widths", "internal/strconv.uint64pow10", "math/bits.deBruijn32tab", "math/bits.deBruijn64tab"], apart := false, laid := [("math/bits.deBruijn32tab", laid_math_bits_deBruijn32tab), ("math/bits.deBruijn64tab", laid_math_bits_deBruijn64tab), ("internal/strconv.uint64pow10", laid_internal_strconv_uint64pow10), ("rollbook/glyph.widths", laid_rollbook_glyph_widths)] }
def GlyphWordsSaid : Prop := glyphWordsRow.holds Tryd.pinned (OpenSpec.ofChange glyphWordsSpec)

/-- ITS FALSE NEIGHBOUR: 'it returns false'. Refute it at one input. -/
def glyphWordsWrong : ChangeSpec := { name := "glyphWords", fn := fun _ => fun
  | [d1, d2] => { results := [.lit (.bool false)], args := [d1, d2] }
  | _ => none }
def GlyphWordsWrongFalsely : Prop := glyphWordsRow.holds Tryd.pinned (OpenSpec.ofChange glyphWordsWrong)

/-- 'rollbooklaw25.GlyphStands': WHATEVER THE INPUT: true; the input reads as it did. -/
def glyphStandsSpec : ChangeSpec := { name := "glyphStands", fn := fun _ => fun
  | [d] => { results := [.lit (.bool true)], args := [d] }
  | _ => none }
def glyphStandsRow : OpenClaim := { program := "ytgnblofjjondpaadoor", sum := "a645f2bd03b7b22d9f7e833aadd9035babb9c812ea869fba834bbdb854d8f550", func := "rollbook/rollbooklaw25.GlyphStands", spec := "glyphStands", inPlace := ["internal/abi.NoEscape", "internal/bytealg.MakeNoZero"], unfollowed := true, recurses := true, named := ["internal/strconv.uint64pow10", "math/bits.deBruijn32tab", "math/bits.deBruijn64tab", "rollbook/glyph.widths"], apart := false, laid := [("math/bits.deBruijn32tab", laid_math_bits_deBruijn32tab), ("math/bits.deBruijn64tab", laid_math_bits_deBruijn64tab), ("internal/strconv.uint64pow10", laid_internal_strconv_uint64pow10), ("rollbook/glyph.widths", laid_rollbook_glyph_widths)] }
def GlyphStandsSaid : Prop := glyphStandsRow.holds Tryd.pinned (OpenSpec.ofChange glyphStandsSpec)

/-- ITS FALSE NEIGHBOUR: 'it returns false'. Refute it at one input. -/
def glyphStandsWrong : ChangeSpec := { name := "glyphStands", fn := fun _ => fun
  | [d] => { results := [.lit (.bool false)], args := [d] }
  | _ => none }
def GlyphStandsWrongFalsely : Prop := glyphStandsRow.holds Tryd.pinned (OpenSpec.ofChange glyphStandsWrong)

/-- 'rollbooklaw25.GlyphChecks': WHATEVER THE INPUT: true; the input reads as it did. -/
def glyphChecksSpec : ChangeSpec := { name := "glyphChecks", fn := fun _ => fun
  | [d1, d2, d3] => { results := [.lit (.bool true)], args := [d1, d2, d3] }
  | _ => none }
def glyphChecksRow : OpenClaim := { program := "ytgnblofjjondpaadoor", sum := "a645f2bd03b7b22d9f7e833aadd9035babb9c812ea869fba834bbdb854d8f550", func := "rollbook/rollbooklaw25.GlyphChecks", spec := "glyphChecks", inPlace := ["internal/abi.NoEscape", "internal/bytealg.MakeNoZero"], unfollowed := true, recurses := true, named := ["rollbook/glyph.widths", "internal/strconv.uint64pow10", "math/bits.deBruijn32tab", "math/bits.deBruijn64tab"], apart := false, laid := [("math/bits.deBruijn32tab", laid_math_bits_deBruijn32tab), ("math/bits.deBruijn64tab", laid_math_bits_deBruijn64tab), ("internal/strconv.uint64pow10", laid_internal_strconv_uint64pow10), ("rollbook/glyph.widths", laid_rollbook_glyph_widths)] }
def GlyphChecksSaid : Prop := glyphChecksRow.holds Tryd.pinned (OpenSpec.ofChange glyphChecksSpec)

/-- ITS FALSE NEIGHBOUR: 'it returns false'. Refute it at one input. -/
def glyphChecksWrong : ChangeSpec := { name := "glyphChecks", fn := fun _ => fun
  | [d1, d2, d3] => { results := [.lit (.bool false)], args := [d1, d2, d3] }
  | _ => none }
def GlyphChecksWrongFalsely : Prop := glyphChecksRow.holds Tryd.pinned (OpenSpec.ofChange glyphChecksWrong)

/-- 'rollbooklaw25.GlyphCounts': WHATEVER THE INPUT: true; the input reads as it did. -/
def glyphCountsSpec : ChangeSpec := { name := "glyphCounts", fn := fun _ => fun
  | [d1, d2, d3] => { results := [.lit (.bool true)], args := [d1, d2, d3] }
  | _ => none }
def glyphCountsRow : OpenClaim := { program := "ytgnblofjjondpaadoor", sum := "a645f2bd03b7b22d9f7e833aadd9035babb9c812ea869fba834bbdb854d8f550", func := "rollbook/rollbooklaw25.GlyphCounts", spec := "glyphCounts", inPlace := ["internal/abi.NoEscape", "internal/bytealg.MakeNoZero"], unfollowed := true, recurses := true, named := ["rollbook/glyph.widths", "internal/strconv.uint64pow10", "math/bits.deBruijn32tab", "math/bits.deBruijn64tab"], apart := false, laid := [("math/bits.deBruijn32tab", laid_math_bits_deBruijn32tab), ("math/bits.deBruijn64tab", laid_math_bits_deBruijn64tab), ("internal/strconv.uint64pow10", laid_internal_strconv_uint64pow10), ("rollbook/glyph.widths", laid_rollbook_glyph_widths)] }
def GlyphCountsSaid : Prop := glyphCountsRow.holds Tryd.pinned (OpenSpec.ofChange glyphCountsSpec)

/-- ITS FALSE NEIGHBOUR: 'it returns false'. Refute it at one input. -/
def glyphCountsWrong : ChangeSpec := { name := "glyphCounts", fn := fun _ => fun
  | [d1, d2, d3] => { results := [.lit (.bool false)], args := [d1, d2, d3] }
  | _ => none }
def GlyphCountsWrongFalsely : Prop := glyphCountsRow.holds Tryd.pinned (OpenSpec.ofChange glyphCountsWrong)

/-- 'rollbooklaw25.GlyphSplits': WHATEVER THE INPUT: true; the input reads as it did. -/
def glyphSplitsSpec : ChangeSpec := { name := "glyphSplits", fn := fun _ => fun
  | [d] => { results := [.lit (.bool true)], args := [d] }
  | _ => none }
def glyphSplitsRow : OpenClaim := { program := "ytgnblofjjondpaadoor", sum := "a645f2bd03b7b22d9f7e833aadd9035babb9c812ea869fba834bbdb854d8f550", func := "rollbook/rollbooklaw25.GlyphSplits", spec := "glyphSplits", inPlace := ["internal/abi.NoEscape", "internal/bytealg.MakeNoZero"], unfollowed := true, recurses := true, named := ["rollbook/glyph.widths", "internal/strconv.uint64pow10", "math/bits.deBruijn32tab", "math/bits.deBruijn64tab"], apart := false, laid := [("math/bits.deBruijn32tab", laid_math_bits_deBruijn32tab), ("math/bits.deBruijn64tab", laid_math_bits_deBruijn64tab), ("internal/strconv.uint64pow10", laid_internal_strconv_uint64pow10), ("rollbook/glyph.widths", laid_rollbook_glyph_widths)] }
def GlyphSplitsSaid : Prop := glyphSplitsRow.holds Tryd.pinned (OpenSpec.ofChange glyphSplitsSpec)

/-- ITS FALSE NEIGHBOUR: 'it returns false'. Refute it at one input. -/
def glyphSplitsWrong : ChangeSpec := { name := "glyphSplits", fn := fun _ => fun
  | [d] => { results := [.lit (.bool false)], args := [d] }
  | _ => none }
def GlyphSplitsWrongFalsely : Prop := glyphSplitsRow.holds Tryd.pinned (OpenSpec.ofChange glyphSplitsWrong)

/-- 'rollbooklaw25.GlyphSums': WHATEVER THE INPUT: true; the input reads as it did. -/
def glyphSumsSpec : ChangeSpec := { name := "glyphSums", fn := fun _ => fun
  | [d1, d2] => { results := [.lit (.bool true)], args := [d1, d2] }
  | _ => none }
def glyphSumsRow : OpenClaim := { program := "ytgnblofjjondpaadoor", sum := "a645f2bd03b7b22d9f7e833aadd9035babb9c812ea869fba834bbdb854d8f550", func := "rollbook/rollbooklaw25.GlyphSums", spec := "glyphSums", inPlace := ["internal/abi.NoEscape", "internal/bytealg.MakeNoZero"], unfollowed := true, recurses := true, named := ["rollbook/glyph.widths", "internal/strconv.uint64pow10", "math/bits.deBruijn32tab", "math/bits.deBruijn64tab"], apart := false, laid := [("math/bits.deBruijn32tab", laid_math_bits_deBruijn32tab), ("math/bits.deBruijn64tab", laid_math_bits_deBruijn64tab), ("internal/strconv.uint64pow10", laid_internal_strconv_uint64pow10), ("rollbook/glyph.widths", laid_rollbook_glyph_widths)] }
def GlyphSumsSaid : Prop := glyphSumsRow.holds Tryd.pinned (OpenSpec.ofChange glyphSumsSpec)

/-- ITS FALSE NEIGHBOUR: 'it returns false'. Refute it at one input. -/
def glyphSumsWrong : ChangeSpec := { name := "glyphSums", fn := fun _ => fun
  | [d1, d2] => { results := [.lit (.bool false)], args := [d1, d2] }
  | _ => none }
def GlyphSumsWrongFalsely : Prop := glyphSumsRow.holds Tryd.pinned (OpenSpec.ofChange glyphSumsWrong)

/-- 'rollbooklaw25.GlyphFillers': WHATEVER THE INPUT: true; the input reads as it did. -/
def glyphFillersSpec : ChangeSpec := { name := "glyphFillers", fn := fun _ => fun
  | [d1, d2] => { results := [.lit (.bool true)], args := [d1, d2] }
  | _ => none }
def glyphFillersRow : OpenClaim := { program := "ytgnblofjjondpaadoor", sum := "a645f2bd03b7b22d9f7e833aadd9035babb9c812ea869fba834bbdb854d8f550", func := "rollbook/rollbooklaw25.GlyphFillers", spec := "glyphFillers", inPlace := ["internal/abi.NoEscape", "internal/bytealg.MakeNoZero"], unfollowed := true, recurses := true, named := ["rollbook/glyph.widths", "internal/strconv.uint64pow10", "math/bits.deBruijn32tab", "math/bits.deBruijn64tab"], apart := false, laid := [("math/bits.deBruijn32tab", laid_math_bits_deBruijn32tab), ("math/bits.deBruijn64tab", laid_math_bits_deBruijn64tab), ("internal/strconv.uint64pow10", laid_internal_strconv_uint64pow10), ("rollbook/glyph.widths", laid_rollbook_glyph_widths)] }
def GlyphFillersSaid : Prop := glyphFillersRow.holds Tryd.pinned (OpenSpec.ofChange glyphFillersSpec)

/-- ITS FALSE NEIGHBOUR: 'it returns false'. Refute it at one input. -/
def glyphFillersWrong : ChangeSpec := { name := "glyphFillers", fn := fun _ => fun
  | [d1, d2] => { results := [.lit (.bool false)], args := [d1, d2] }
  | _ => none }
def GlyphFillersWrongFalsely : Prop := glyphFillersRow.holds Tryd.pinned (OpenSpec.ofChange glyphFillersWrong)

/-- 'rollbooklaw25.GlyphShapes': WHATEVER THE INPUT: true; the input reads as it did. -/
def glyphShapesSpec : ChangeSpec := { name := "glyphShapes", fn := fun _ => fun
  | [d] => { results := [.lit (.bool true)], args := [d] }
  | _ => none }
def glyphShapesRow : OpenClaim := { program := "ytgnblofjjondpaadoor", sum := "a645f2bd03b7b22d9f7e833aadd9035babb9c812ea869fba834bbdb854d8f550", func := "rollbook/rollbooklaw25.GlyphShapes", spec := "glyphShapes", inPlace := ["internal/abi.NoEscape", "internal/bytealg.MakeNoZero"], unfollowed := true, recurses := true, named := ["rollbook/glyph.widths", "internal/strconv.uint64pow10", "math/bits.deBruijn32tab", "math/bits.deBruijn64tab"], apart := false, laid := [("math/bits.deBruijn32tab", laid_math_bits_deBruijn32tab), ("math/bits.deBruijn64tab", laid_math_bits_deBruijn64tab), ("internal/strconv.uint64pow10", laid_internal_strconv_uint64pow10), ("rollbook/glyph.widths", laid_rollbook_glyph_widths)] }
def GlyphShapesSaid : Prop := glyphShapesRow.holds Tryd.pinned (OpenSpec.ofChange glyphShapesSpec)

/-- ITS FALSE NEIGHBOUR: 'it returns false'. Refute it at one input. -/
def glyphShapesWrong : ChangeSpec := { name := "glyphShapes", fn := fun _ => fun
  | [d] => { results := [.lit (.bool false)], args := [d] }
  | _ => none }
def GlyphShapesWrongFalsely : Prop := glyphShapesRow.holds Tryd.pinned (OpenSpec.ofChange glyphShapesWrong)

/-- 'rollbooklaw25.GlyphJoins': WHATEVER THE INPUT: true; the input reads as it did. -/
def glyphJoinsSpec : ChangeSpec := { name := "glyphJoins", fn := fun _ => fun
  | [d1, d2] => { results := [.lit (.bool true)], args := [d1, d2] }
  | _ => none }
def glyphJoinsRow : OpenClaim := { program := "ytgnblofjjondpaadoor", sum := "a645f2bd03b7b22d9f7e833aadd9035babb9c812ea869fba834bbdb854d8f550", func := "rollbook/rollbooklaw25.GlyphJoins", spec := "glyphJoins", inPlace := ["internal/abi.NoEscape", "internal/bytealg.MakeNoZero"], unfollowed := true, recurses := true, named := ["rollbook/glyph.widths", "internal/strconv.uint64pow10", "math/bits.deBruijn32tab", "math/bits.deBruijn64tab"], apart := false, laid := [("math/bits.deBruijn32tab", laid_math_bits_deBruijn32tab), ("math/bits.deBruijn64tab", laid_math_bits_deBruijn64tab), ("internal/strconv.uint64pow10", laid_internal_strconv_uint64pow10), ("rollbook/glyph.widths", laid_rollbook_glyph_widths)] }
def GlyphJoinsSaid : Prop := glyphJoinsRow.holds Tryd.pinned (OpenSpec.ofChange glyphJoinsSpec)

/-- ITS FALSE NEIGHBOUR: 'it returns false'. Refute it at one input. -/
def glyphJoinsWrong : ChangeSpec := { name := "glyphJoins", fn := fun _ => fun
  | [d1, d2] => { results := [.lit (.bool false)], args := [d1, d2] }
  | _ => none }
def GlyphJoinsWrongFalsely : Prop := glyphJoinsRow.holds Tryd.pinned (OpenSpec.ofChange glyphJoinsWrong)

/- THE SECOND FORM. 'bulk': how many values and letters a reading holds, each counted each time it is reached (what is shared counts as often as it is met; a slice's spare places count too). A statement '..UptoSaid' is the law's where the arguments, and the package variables that the reading takes, are together of bulk at most 1048576: NARROWER than '..Said'. Prove '..Said' where nothing that the law and all that it calls make is longer than what came in: it says more and counts as full. Else prove '..UptoSaid'. A law counts once. -/
mutual
def uptoBulk {H : Type} : DataW H → Nat
  | .lit (.string bytes) => bytes.length + 1
  | .lit _ => 1
  | .nil => 1
  | .ptr d => uptoBulk d + 1
  | .slice elems spare => uptoBulkAll elems + uptoBulkAll spare + 1
  | .agg parts => uptoBulkAll parts + 1
  | .iface _ d => uptoBulk d + 1
  | .map entries => uptoBulkEntries entries + 1
  | .held _ => 1
def uptoBulkAll {H : Type} : List (DataW H) → Nat
  | [] => 0
  | d :: r => uptoBulk d + uptoBulkAll r
def uptoBulkEntries {H : Type} : List (Lit × DataW H) → Nat
  | [] => 0
  | x :: r => uptoBulkEntry x + uptoBulkEntries r
def uptoBulkEntry {H : Type} : Lit × DataW H → Nat
  | (.string bytes, d) => bytes.length + uptoBulk d + 1
  | (_, d) => uptoBulk d + 1
 end
def uptoSmall : (H : Type) → List (DataW H) → Bool := fun _ ds => decide (uptoBulkAll ds ≤ 1048576)
def OpenSpec.upto (s : _root_.Go.ChangeSpec) : _root_.Go.OpenSpec := { _root_.Go.OpenSpec.ofChange s with cond := some uptoSmall }

/-- 'rollbooklaw25.GlyphWords', WHERE WHAT IT READS IS OF BULK AT MOST 1048576: true; the input reads as it did. -/
def glyphWordsUptoRow : OpenClaim := { program := "ytgnblofjjondpaadoor", sum := "a645f2bd03b7b22d9f7e833aadd9035babb9c812ea869fba834bbdb854d8f550", func := "rollbook/rollbooklaw25.GlyphWords", spec := "glyphWords", inPlace := ["internal/abi.NoEscape", "internal/bytealg.MakeNoZero"], unfollowed := true, recurses := true, named := ["rollbook/glyph.widths", "internal/strconv.uint64pow10", "math/bits.deBruijn32tab", "math/bits.deBruijn64tab"], apart := false, laid := [("math/bits.deBruijn32tab", laid_math_bits_deBruijn32tab), ("math/bits.deBruijn64tab", laid_math_bits_deBruijn64tab), ("internal/strconv.uint64pow10", laid_internal_strconv_uint64pow10), ("rollbook/glyph.widths", laid_rollbook_glyph_widths)], narrowed := true }
def GlyphWordsUptoSaid : Prop := glyphWordsUptoRow.holds Tryd.pinned (OpenSpec.upto glyphWordsSpec)

/-- 'rollbooklaw25.GlyphStands', WHERE WHAT IT READS IS OF BULK AT MOST 1048576: true; the input reads as it did. -/
def glyphStandsUptoRow : OpenClaim := { program := "ytgnblofjjondpaadoor", sum := "a645f2bd03b7b22d9f7e833aadd9035babb9c812ea869fba834bbdb854d8f550", func := "rollbook/rollbooklaw25.GlyphStands", spec := "glyphStands", inPlace := ["internal/abi.NoEscape", "internal/bytealg.MakeNoZero"], unfollowed := true, recurses := true, named := ["internal/strconv.uint64pow10", "math/bits.deBruijn32tab", "math/bits.deBruijn64tab", "rollbook/glyph.widths"], apart := false, laid := [("math/bits.deBruijn32tab", laid_math_bits_deBruijn32tab), ("math/bits.deBruijn64tab", laid_math_bits_deBruijn64tab), ("internal/strconv.uint64pow10", laid_internal_strconv_uint64pow10), ("rollbook/glyph.widths", laid_rollbook_glyph_widths)], narrowed := true }
def GlyphStandsUptoSaid : Prop := glyphStandsUptoRow.holds Tryd.pinned (OpenSpec.upto glyphStandsSpec)

/-- 'rollbooklaw25.GlyphChecks', WHERE WHAT IT READS IS OF BULK AT MOST 1048576: true; the input reads as it did. -/
def glyphChecksUptoRow : OpenClaim := { program := "ytgnblofjjondpaadoor", sum := "a645f2bd03b7b22d9f7e833aadd9035babb9c812ea869fba834bbdb854d8f550", func := "rollbook/rollbooklaw25.GlyphChecks", spec := "glyphChecks", inPlace := ["internal/abi.NoEscape", "internal/bytealg.MakeNoZero"], unfollowed := true, recurses := true, named := ["rollbook/glyph.widths", "internal/strconv.uint64pow10", "math/bits.deBruijn32tab", "math/bits.deBruijn64tab"], apart := false, laid := [("math/bits.deBruijn32tab", laid_math_bits_deBruijn32tab), ("math/bits.deBruijn64tab", laid_math_bits_deBruijn64tab), ("internal/strconv.uint64pow10", laid_internal_strconv_uint64pow10), ("rollbook/glyph.widths", laid_rollbook_glyph_widths)], narrowed := true }
def GlyphChecksUptoSaid : Prop := glyphChecksUptoRow.holds Tryd.pinned (OpenSpec.upto glyphChecksSpec)

/-- 'rollbooklaw25.GlyphCounts', WHERE WHAT IT READS IS OF BULK AT MOST 1048576: true; the input reads as it did. -/
def glyphCountsUptoRow : OpenClaim := { program := "ytgnblofjjondpaadoor", sum := "a645f2bd03b7b22d9f7e833aadd9035babb9c812ea869fba834bbdb854d8f550", func := "rollbook/rollbooklaw25.GlyphCounts", spec := "glyphCounts", inPlace := ["internal/abi.NoEscape", "internal/bytealg.MakeNoZero"], unfollowed := true, recurses := true, named := ["rollbook/glyph.widths", "internal/strconv.uint64pow10", "math/bits.deBruijn32tab", "math/bits.deBruijn64tab"], apart := false, laid := [("math/bits.deBruijn32tab", laid_math_bits_deBruijn32tab), ("math/bits.deBruijn64tab", laid_math_bits_deBruijn64tab), ("internal/strconv.uint64pow10", laid_internal_strconv_uint64pow10), ("rollbook/glyph.widths", laid_rollbook_glyph_widths)], narrowed := true }
def GlyphCountsUptoSaid : Prop := glyphCountsUptoRow.holds Tryd.pinned (OpenSpec.upto glyphCountsSpec)

/-- 'rollbooklaw25.GlyphSplits', WHERE WHAT IT READS IS OF BULK AT MOST 1048576: true; the input reads as it did. -/
def glyphSplitsUptoRow : OpenClaim := { program := "ytgnblofjjondpaadoor", sum := "a645f2bd03b7b22d9f7e833aadd9035babb9c812ea869fba834bbdb854d8f550", func := "rollbook/rollbooklaw25.GlyphSplits", spec := "glyphSplits", inPlace := ["internal/abi.NoEscape", "internal/bytealg.MakeNoZero"], unfollowed := true, recurses := true, named := ["rollbook/glyph.widths", "internal/strconv.uint64pow10", "math/bits.deBruijn32tab", "math/bits.deBruijn64tab"], apart := false, laid := [("math/bits.deBruijn32tab", laid_math_bits_deBruijn32tab), ("math/bits.deBruijn64tab", laid_math_bits_deBruijn64tab), ("internal/strconv.uint64pow10", laid_internal_strconv_uint64pow10), ("rollbook/glyph.widths", laid_rollbook_glyph_widths)], narrowed := true }
def GlyphSplitsUptoSaid : Prop := glyphSplitsUptoRow.holds Tryd.pinned (OpenSpec.upto glyphSplitsSpec)

/-- 'rollbooklaw25.GlyphSums', WHERE WHAT IT READS IS OF BULK AT MOST 1048576: true; the input reads as it did. -/
def glyphSumsUptoRow : OpenClaim := { program := "ytgnblofjjondpaadoor", sum := "a645f2bd03b7b22d9f7e833aadd9035babb9c812ea869fba834bbdb854d8f550", func := "rollbook/rollbooklaw25.GlyphSums", spec := "glyphSums", inPlace := ["internal/abi.NoEscape", "internal/bytealg.MakeNoZero"], unfollowed := true, recurses := true, named := ["rollbook/glyph.widths", "internal/strconv.uint64pow10", "math/bits.deBruijn32tab", "math/bits.deBruijn64tab"], apart := false, laid := [("math/bits.deBruijn32tab", laid_math_bits_deBruijn32tab), ("math/bits.deBruijn64tab", laid_math_bits_deBruijn64tab), ("internal/strconv.uint64pow10", laid_internal_strconv_uint64pow10), ("rollbook/glyph.widths", laid_rollbook_glyph_widths)], narrowed := true }
def GlyphSumsUptoSaid : Prop := glyphSumsUptoRow.holds Tryd.pinned (OpenSpec.upto glyphSumsSpec)

/-- 'rollbooklaw25.GlyphFillers', WHERE WHAT IT READS IS OF BULK AT MOST 1048576: true; the input reads as it did. -/
def glyphFillersUptoRow : OpenClaim := { program := "ytgnblofjjondpaadoor", sum := "a645f2bd03b7b22d9f7e833aadd9035babb9c812ea869fba834bbdb854d8f550", func := "rollbook/rollbooklaw25.GlyphFillers", spec := "glyphFillers", inPlace := ["internal/abi.NoEscape", "internal/bytealg.MakeNoZero"], unfollowed := true, recurses := true, named := ["rollbook/glyph.widths", "internal/strconv.uint64pow10", "math/bits.deBruijn32tab", "math/bits.deBruijn64tab"], apart := false, laid := [("math/bits.deBruijn32tab", laid_math_bits_deBruijn32tab), ("math/bits.deBruijn64tab", laid_math_bits_deBruijn64tab), ("internal/strconv.uint64pow10", laid_internal_strconv_uint64pow10), ("rollbook/glyph.widths", laid_rollbook_glyph_widths)], narrowed := true }
def GlyphFillersUptoSaid : Prop := glyphFillersUptoRow.holds Tryd.pinned (OpenSpec.upto glyphFillersSpec)

/-- 'rollbooklaw25.GlyphShapes', WHERE WHAT IT READS IS OF BULK AT MOST 1048576: true; the input reads as it did. -/
def glyphShapesUptoRow : OpenClaim := { program := "ytgnblofjjondpaadoor", sum := "a645f2bd03b7b22d9f7e833aadd9035babb9c812ea869fba834bbdb854d8f550", func := "rollbook/rollbooklaw25.GlyphShapes", spec := "glyphShapes", inPlace := ["internal/abi.NoEscape", "internal/bytealg.MakeNoZero"], unfollowed := true, recurses := true, named := ["rollbook/glyph.widths", "internal/strconv.uint64pow10", "math/bits.deBruijn32tab", "math/bits.deBruijn64tab"], apart := false, laid := [("math/bits.deBruijn32tab", laid_math_bits_deBruijn32tab), ("math/bits.deBruijn64tab", laid_math_bits_deBruijn64tab), ("internal/strconv.uint64pow10", laid_internal_strconv_uint64pow10), ("rollbook/glyph.widths", laid_rollbook_glyph_widths)], narrowed := true }
def GlyphShapesUptoSaid : Prop := glyphShapesUptoRow.holds Tryd.pinned (OpenSpec.upto glyphShapesSpec)

/-- 'rollbooklaw25.GlyphJoins', WHERE WHAT IT READS IS OF BULK AT MOST 1048576: true; the input reads as it did. -/
def glyphJoinsUptoRow : OpenClaim := { program := "ytgnblofjjondpaadoor", sum := "a645f2bd03b7b22d9f7e833aadd9035babb9c812ea869fba834bbdb854d8f550", func := "rollbook/rollbooklaw25.GlyphJoins", spec := "glyphJoins", inPlace := ["internal/abi.NoEscape", "internal/bytealg.MakeNoZero"], unfollowed := true, recurses := true, named := ["rollbook/glyph.widths", "internal/strconv.uint64pow10", "math/bits.deBruijn32tab", "math/bits.deBruijn64tab"], apart := false, laid := [("math/bits.deBruijn32tab", laid_math_bits_deBruijn32tab), ("math/bits.deBruijn64tab", laid_math_bits_deBruijn64tab), ("internal/strconv.uint64pow10", laid_internal_strconv_uint64pow10), ("rollbook/glyph.widths", laid_rollbook_glyph_widths)], narrowed := true }
def GlyphJoinsUptoSaid : Prop := glyphJoinsUptoRow.holds Tryd.pinned (OpenSpec.upto glyphJoinsSpec)

end Rows
end Go.Proofs.YtgnblofjjondpaaDoor
