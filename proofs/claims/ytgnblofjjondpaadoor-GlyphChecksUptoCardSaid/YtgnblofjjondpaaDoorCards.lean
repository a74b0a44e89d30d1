/-
  DERIVED. GIVEN WITH THE SEED: THE CARDS: each row of YtgnblofjjondpaaDoorRows.lean that lists a variable, with what it lists TIED to the program's text (the seventh form; the later family's looks); each row that meets fmt, with fmt's text TOLD by the authors' own Lean function (tested against real Go, not proved from fmt's source: count such statements apart). THE CARD IS WHAT COUNTS. Prove the row's statement (the work); the ties are given (YtgnblofjjondpaaDoorTie.lean); close each card by the builder's one call (the guide's Derived/Test/ToyasCard.lean, 'card_holds'). Laid BY PROGRAM, IN A SANDBOX (cutbox-door.mjs). By AI agents, Wed Nov 11 2026. No macro, syntax, notation, axiom, sorry.
-/
import Derived.Test.YtgnblofjjondpaaDoorRows
import GoSem.ClaimSeven
namespace Go.Proofs.YtgnblofjjondpaaDoor
namespace Rows

/-- THE TIED CARD OF 'rollbooklaw25.GlyphWords'. -/
def glyphWordsCard : Claim7 := { stood := { row := glyphWordsRow, standIns := [], harness := (true, "6c762bce678b3d18bf8b8716734cd37eb8b0dbf35a600533e250b8b5378a4952"), looks := false }, kinds := [], alts := [], laidByText := true, laidKinds := [.data, .data, .data, .data], laidTests := true, laidLooks := .later }
def GlyphWordsCardSaid : Prop := Claim7.holds Tryd.pinned (.plain (OpenSpec.ofChange glyphWordsSpec)) glyphWordsCard

/-- THE TIED CARD OF 'rollbooklaw25.GlyphStands'. -/
def glyphStandsCard : Claim7 := { stood := { row := glyphStandsRow, standIns := [], harness := (true, "6c762bce678b3d18bf8b8716734cd37eb8b0dbf35a600533e250b8b5378a4952"), looks := false }, kinds := [], alts := [], laidByText := true, laidKinds := [.data, .data, .data, .data], laidTests := true, laidLooks := .later }
def GlyphStandsCardSaid : Prop := Claim7.holds Tryd.pinned (.plain (OpenSpec.ofChange glyphStandsSpec)) glyphStandsCard

/-- THE TIED CARD OF 'rollbooklaw25.GlyphChecks'. -/
def glyphChecksCard : Claim7 := { stood := { row := glyphChecksRow, standIns := [], harness := (true, "6c762bce678b3d18bf8b8716734cd37eb8b0dbf35a600533e250b8b5378a4952"), looks := false }, kinds := [], alts := [], laidByText := true, laidKinds := [.data, .data, .data, .data], laidTests := true, laidLooks := .later }
def GlyphChecksCardSaid : Prop := Claim7.holds Tryd.pinned (.plain (OpenSpec.ofChange glyphChecksSpec)) glyphChecksCard

/-- THE TIED CARD OF 'rollbooklaw25.GlyphCounts'. -/
def glyphCountsCard : Claim7 := { stood := { row := glyphCountsRow, standIns := [], harness := (true, "6c762bce678b3d18bf8b8716734cd37eb8b0dbf35a600533e250b8b5378a4952"), looks := false }, kinds := [], alts := [], laidByText := true, laidKinds := [.data, .data, .data, .data], laidTests := true, laidLooks := .later }
def GlyphCountsCardSaid : Prop := Claim7.holds Tryd.pinned (.plain (OpenSpec.ofChange glyphCountsSpec)) glyphCountsCard

/-- THE TIED CARD OF 'rollbooklaw25.GlyphSplits'. -/
def glyphSplitsCard : Claim7 := { stood := { row := glyphSplitsRow, standIns := [], harness := (true, "6c762bce678b3d18bf8b8716734cd37eb8b0dbf35a600533e250b8b5378a4952"), looks := false }, kinds := [], alts := [], laidByText := true, laidKinds := [.data, .data, .data, .data], laidTests := true, laidLooks := .later }
def GlyphSplitsCardSaid : Prop := Claim7.holds Tryd.pinned (.plain (OpenSpec.ofChange glyphSplitsSpec)) glyphSplitsCard

/-- THE TIED CARD OF 'rollbooklaw25.GlyphSums'. -/
def glyphSumsCard : Claim7 := { stood := { row := glyphSumsRow, standIns := [], harness := (true, "6c762bce678b3d18bf8b8716734cd37eb8b0dbf35a600533e250b8b5378a4952"), looks := false }, kinds := [], alts := [], laidByText := true, laidKinds := [.data, .data, .data, .data], laidTests := true, laidLooks := .later }
def GlyphSumsCardSaid : Prop := Claim7.holds Tryd.pinned (.plain (OpenSpec.ofChange glyphSumsSpec)) glyphSumsCard

/-- THE TIED CARD OF 'rollbooklaw25.GlyphFillers'. -/
def glyphFillersCard : Claim7 := { stood := { row := glyphFillersRow, standIns := [], harness := (true, "6c762bce678b3d18bf8b8716734cd37eb8b0dbf35a600533e250b8b5378a4952"), looks := false }, kinds := [], alts := [], laidByText := true, laidKinds := [.data, .data, .data, .data], laidTests := true, laidLooks := .later }
def GlyphFillersCardSaid : Prop := Claim7.holds Tryd.pinned (.plain (OpenSpec.ofChange glyphFillersSpec)) glyphFillersCard

/-- THE TIED CARD OF 'rollbooklaw25.GlyphShapes'. -/
def glyphShapesCard : Claim7 := { stood := { row := glyphShapesRow, standIns := [], harness := (true, "6c762bce678b3d18bf8b8716734cd37eb8b0dbf35a600533e250b8b5378a4952"), looks := false }, kinds := [], alts := [], laidByText := true, laidKinds := [.data, .data, .data, .data], laidTests := true, laidLooks := .later }
def GlyphShapesCardSaid : Prop := Claim7.holds Tryd.pinned (.plain (OpenSpec.ofChange glyphShapesSpec)) glyphShapesCard

/-- THE TIED CARD OF 'rollbooklaw25.GlyphJoins'. -/
def glyphJoinsCard : Claim7 := { stood := { row := glyphJoinsRow, standIns := [], harness := (true, "6c762bce678b3d18bf8b8716734cd37eb8b0dbf35a600533e250b8b5378a4952"), looks := false }, kinds := [], alts := [], laidByText := true, laidKinds := [.data, .data, .data, .data], laidTests := true, laidLooks := .later }
def GlyphJoinsCardSaid : Prop := Claim7.holds Tryd.pinned (.plain (OpenSpec.ofChange glyphJoinsSpec)) glyphJoinsCard

/-- THE SECOND FORM's CARD OF 'rollbooklaw25.GlyphWords'. -/
def glyphWordsUptoCard : Claim7 := { stood := { row := glyphWordsUptoRow, standIns := [], harness := (true, "6c762bce678b3d18bf8b8716734cd37eb8b0dbf35a600533e250b8b5378a4952"), looks := false }, kinds := [], alts := [], laidByText := true, laidKinds := [.data, .data, .data, .data], laidTests := true, laidLooks := .later }
def GlyphWordsUptoCardSaid : Prop := Claim7.holds Tryd.pinned (.plain (OpenSpec.upto glyphWordsSpec)) glyphWordsUptoCard

/-- THE SECOND FORM's CARD OF 'rollbooklaw25.GlyphStands'. -/
def glyphStandsUptoCard : Claim7 := { stood := { row := glyphStandsUptoRow, standIns := [], harness := (true, "6c762bce678b3d18bf8b8716734cd37eb8b0dbf35a600533e250b8b5378a4952"), looks := false }, kinds := [], alts := [], laidByText := true, laidKinds := [.data, .data, .data, .data], laidTests := true, laidLooks := .later }
def GlyphStandsUptoCardSaid : Prop := Claim7.holds Tryd.pinned (.plain (OpenSpec.upto glyphStandsSpec)) glyphStandsUptoCard

/-- THE SECOND FORM's CARD OF 'rollbooklaw25.GlyphChecks'. -/
def glyphChecksUptoCard : Claim7 := { stood := { row := glyphChecksUptoRow, standIns := [], harness := (true, "6c762bce678b3d18bf8b8716734cd37eb8b0dbf35a600533e250b8b5378a4952"), looks := false }, kinds := [], alts := [], laidByText := true, laidKinds := [.data, .data, .data, .data], laidTests := true, laidLooks := .later }
def GlyphChecksUptoCardSaid : Prop := Claim7.holds Tryd.pinned (.plain (OpenSpec.upto glyphChecksSpec)) glyphChecksUptoCard

/-- THE SECOND FORM's CARD OF 'rollbooklaw25.GlyphCounts'. -/
def glyphCountsUptoCard : Claim7 := { stood := { row := glyphCountsUptoRow, standIns := [], harness := (true, "6c762bce678b3d18bf8b8716734cd37eb8b0dbf35a600533e250b8b5378a4952"), looks := false }, kinds := [], alts := [], laidByText := true, laidKinds := [.data, .data, .data, .data], laidTests := true, laidLooks := .later }
def GlyphCountsUptoCardSaid : Prop := Claim7.holds Tryd.pinned (.plain (OpenSpec.upto glyphCountsSpec)) glyphCountsUptoCard

/-- THE SECOND FORM's CARD OF 'rollbooklaw25.GlyphSplits'. -/
def glyphSplitsUptoCard : Claim7 := { stood := { row := glyphSplitsUptoRow, standIns := [], harness := (true, "6c762bce678b3d18bf8b8716734cd37eb8b0dbf35a600533e250b8b5378a4952"), looks := false }, kinds := [], alts := [], laidByText := true, laidKinds := [.data, .data, .data, .data], laidTests := true, laidLooks := .later }
def GlyphSplitsUptoCardSaid : Prop := Claim7.holds Tryd.pinned (.plain (OpenSpec.upto glyphSplitsSpec)) glyphSplitsUptoCard

/-- THE SECOND FORM's CARD OF 'rollbooklaw25.GlyphSums'. -/
def glyphSumsUptoCard : Claim7 := { stood := { row := glyphSumsUptoRow, standIns := [], harness := (true, "6c762bce678b3d18bf8b8716734cd37eb8b0dbf35a600533e250b8b5378a4952"), looks := false }, kinds := [], alts := [], laidByText := true, laidKinds := [.data, .data, .data, .data], laidTests := true, laidLooks := .later }
def GlyphSumsUptoCardSaid : Prop := Claim7.holds Tryd.pinned (.plain (OpenSpec.upto glyphSumsSpec)) glyphSumsUptoCard

/-- THE SECOND FORM's CARD OF 'rollbooklaw25.GlyphFillers'. -/
def glyphFillersUptoCard : Claim7 := { stood := { row := glyphFillersUptoRow, standIns := [], harness := (true, "6c762bce678b3d18bf8b8716734cd37eb8b0dbf35a600533e250b8b5378a4952"), looks := false }, kinds := [], alts := [], laidByText := true, laidKinds := [.data, .data, .data, .data], laidTests := true, laidLooks := .later }
def GlyphFillersUptoCardSaid : Prop := Claim7.holds Tryd.pinned (.plain (OpenSpec.upto glyphFillersSpec)) glyphFillersUptoCard

/-- THE SECOND FORM's CARD OF 'rollbooklaw25.GlyphShapes'. -/
def glyphShapesUptoCard : Claim7 := { stood := { row := glyphShapesUptoRow, standIns := [], harness := (true, "6c762bce678b3d18bf8b8716734cd37eb8b0dbf35a600533e250b8b5378a4952"), looks := false }, kinds := [], alts := [], laidByText := true, laidKinds := [.data, .data, .data, .data], laidTests := true, laidLooks := .later }
def GlyphShapesUptoCardSaid : Prop := Claim7.holds Tryd.pinned (.plain (OpenSpec.upto glyphShapesSpec)) glyphShapesUptoCard

/-- THE SECOND FORM's CARD OF 'rollbooklaw25.GlyphJoins'. -/
def glyphJoinsUptoCard : Claim7 := { stood := { row := glyphJoinsUptoRow, standIns := [], harness := (true, "6c762bce678b3d18bf8b8716734cd37eb8b0dbf35a600533e250b8b5378a4952"), looks := false }, kinds := [], alts := [], laidByText := true, laidKinds := [.data, .data, .data, .data], laidTests := true, laidLooks := .later }
def GlyphJoinsUptoCardSaid : Prop := Claim7.holds Tryd.pinned (.plain (OpenSpec.upto glyphJoinsSpec)) glyphJoinsUptoCard
end Rows
end Go.Proofs.YtgnblofjjondpaaDoor
