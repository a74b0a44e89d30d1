/-
  DERIVED. GIVEN WITH THE SEED: THE CARDS: each row of YtegaapiocihcpaaGreatDoorRows.lean that lists a variable, with what it lists TIED to the program's text (the seventh form; the later family's looks); each row that meets fmt, with fmt's text TOLD by the authors' own Lean function (tested against real Go, not proved from fmt's source: count such statements apart). THE CARD IS WHAT COUNTS. Prove the row's statement (the work); the ties are given (YtegaapiocihcpaaGreatDoorTie.lean); close each card by the builder's one call (the guide's Derived/Test/ToyasCard.lean, 'card_holds'). Laid BY PROGRAM, IN A SANDBOX (cutbox-door.mjs). By AI agents, Wed Nov 11 2026. No macro, syntax, notation, axiom, sorry.
-/
import Derived.Test.YtegaapiocihcpaaGreatDoorRows
import GoSem.ClaimSeven
namespace Go.Proofs.YtegaapiocihcpaaGreatDoor
namespace Rows

/-- THE TIED CARD OF 'rollbooklaw32.ViewSheets'. -/
def viewSheetsCard : Claim7 := { stood := { row := viewSheetsRow, standIns := [], harness := (true, "20a6d3652a9349a62b432aa20ded506281030ff090e61c0c3b0713ffc9e664e0"), looks := false }, kinds := [], alts := [], laidByText := true, laidKinds := [.data, .data, .data, .data], laidTests := true, laidLooks := .later }
def ViewSheetsCardSaid : Prop := Claim7.holds Tryz.pinned (.plain (OpenSpec.ofChange viewSheetsSpec)) viewSheetsCard

/-- THE TIED CARD OF 'rollbooklaw32.ViewAnnexes'. -/
def viewAnnexesCard : Claim7 := { stood := { row := viewAnnexesRow, standIns := [], harness := (true, "20a6d3652a9349a62b432aa20ded506281030ff090e61c0c3b0713ffc9e664e0"), looks := false }, kinds := [], alts := [], laidByText := true, laidKinds := [.data, .data, .data, .data], laidTests := true, laidLooks := .later }
def ViewAnnexesCardSaid : Prop := Claim7.holds Tryz.pinned (.plain (OpenSpec.ofChange viewAnnexesSpec)) viewAnnexesCard

/-- THE TIED CARD OF 'rollbooklaw32.ViewLines'. -/
def viewLinesCard : Claim7 := { stood := { row := viewLinesRow, standIns := [], harness := (true, "20a6d3652a9349a62b432aa20ded506281030ff090e61c0c3b0713ffc9e664e0"), looks := false }, kinds := [], alts := [], laidByText := true, laidKinds := [.data, .data, .data, .data], laidTests := true, laidLooks := .later }
def ViewLinesCardSaid : Prop := Claim7.holds Tryz.pinned (.plain (OpenSpec.ofChange viewLinesSpec)) viewLinesCard

/-- THE TIED CARD OF 'rollbooklaw32.ViewCompletes'. -/
def viewCompletesCard : Claim7 := { stood := { row := viewCompletesRow, standIns := [], harness := (true, "20a6d3652a9349a62b432aa20ded506281030ff090e61c0c3b0713ffc9e664e0"), looks := false }, kinds := [], alts := [], laidByText := true, laidKinds := [.data, .data, .data, .data], laidTests := true, laidLooks := .later }
def ViewCompletesCardSaid : Prop := Claim7.holds Tryz.pinned (.plain (OpenSpec.ofChange viewCompletesSpec)) viewCompletesCard

/-- THE TIED CARD OF 'rollbooklaw32.ViewOpens'. -/
def viewOpensCard : Claim7 := { stood := { row := viewOpensRow, standIns := [], harness := (true, "20a6d3652a9349a62b432aa20ded506281030ff090e61c0c3b0713ffc9e664e0"), looks := false }, kinds := [], alts := [], laidByText := true, laidKinds := [.data, .data, .data, .data], laidTests := true, laidLooks := .later }
def ViewOpensCardSaid : Prop := Claim7.holds Tryz.pinned (.plain (OpenSpec.ofChange viewOpensSpec)) viewOpensCard

/-- THE TIED CARD OF 'rollbooklaw32.ViewBoxes'. -/
def viewBoxesCard : Claim7 := { stood := { row := viewBoxesRow, standIns := [], harness := (true, "20a6d3652a9349a62b432aa20ded506281030ff090e61c0c3b0713ffc9e664e0"), looks := false }, kinds := [], alts := [], laidByText := true, laidKinds := [.data, .data, .data, .data], laidTests := true, laidLooks := .later }
def ViewBoxesCardSaid : Prop := Claim7.holds Tryz.pinned (.plain (OpenSpec.ofChange viewBoxesSpec)) viewBoxesCard

/-- THE TIED CARD OF 'rollbooklaw32.ViewShapes'. -/
def viewShapesCard : Claim7 := { stood := { row := viewShapesRow, standIns := [], harness := (true, "20a6d3652a9349a62b432aa20ded506281030ff090e61c0c3b0713ffc9e664e0"), looks := false }, kinds := [], alts := [], laidByText := true, laidKinds := [.data, .data, .data, .data], laidTests := true, laidLooks := .later }
def ViewShapesCardSaid : Prop := Claim7.holds Tryz.pinned (.plain (OpenSpec.ofChange viewShapesSpec)) viewShapesCard

/-- THE TIED CARD OF 'rollbooklaw32.ViewWidths'. -/
def viewWidthsCard : Claim7 := { stood := { row := viewWidthsRow, standIns := [], harness := (true, "20a6d3652a9349a62b432aa20ded506281030ff090e61c0c3b0713ffc9e664e0"), looks := false }, kinds := [], alts := [], laidByText := true, laidKinds := [.data, .data, .data, .data], laidTests := true, laidLooks := .later }
def ViewWidthsCardSaid : Prop := Claim7.holds Tryz.pinned (.plain (OpenSpec.ofChange viewWidthsSpec)) viewWidthsCard

/-- THE TIED CARD OF 'rollbooklaw32.ViewSame'. -/
def viewSameCard : Claim7 := { stood := { row := viewSameRow, standIns := [], harness := (true, "20a6d3652a9349a62b432aa20ded506281030ff090e61c0c3b0713ffc9e664e0"), looks := false }, kinds := [], alts := [], laidByText := true, laidKinds := [.data, .data, .data, .data], laidTests := true, laidLooks := .later }
def ViewSameCardSaid : Prop := Claim7.holds Tryz.pinned (.plain (OpenSpec.ofChange viewSameSpec)) viewSameCard

/-- THE TIED CARD OF 'rollbooklaw34.CertifyBooks'. -/
def certifyBooksCard : Claim7 := { stood := { row := certifyBooksRow, standIns := [], harness := (true, "20a6d3652a9349a62b432aa20ded506281030ff090e61c0c3b0713ffc9e664e0"), looks := false }, kinds := [], alts := [], laidByText := true, laidKinds := [.data, .data, .data, .data, .data], laidTests := true, laidLooks := .later }
def CertifyBooksCardSaid : Prop := Claim7.holds Tryz.pinned (.plain (OpenSpec.ofChange certifyBooksSpec)) certifyBooksCard

/-- THE SECOND FORM's CARD OF 'rollbooklaw32.ViewSheets'. -/
def viewSheetsUptoCard : Claim7 := { stood := { row := viewSheetsUptoRow, standIns := [], harness := (true, "20a6d3652a9349a62b432aa20ded506281030ff090e61c0c3b0713ffc9e664e0"), looks := false }, kinds := [], alts := [], laidByText := true, laidKinds := [.data, .data, .data, .data], laidTests := true, laidLooks := .later }
def ViewSheetsUptoCardSaid : Prop := Claim7.holds Tryz.pinned (.plain (OpenSpec.upto viewSheetsSpec)) viewSheetsUptoCard

/-- THE SECOND FORM's CARD OF 'rollbooklaw32.ViewAnnexes'. -/
def viewAnnexesUptoCard : Claim7 := { stood := { row := viewAnnexesUptoRow, standIns := [], harness := (true, "20a6d3652a9349a62b432aa20ded506281030ff090e61c0c3b0713ffc9e664e0"), looks := false }, kinds := [], alts := [], laidByText := true, laidKinds := [.data, .data, .data, .data], laidTests := true, laidLooks := .later }
def ViewAnnexesUptoCardSaid : Prop := Claim7.holds Tryz.pinned (.plain (OpenSpec.upto viewAnnexesSpec)) viewAnnexesUptoCard

/-- THE SECOND FORM's CARD OF 'rollbooklaw32.ViewLines'. -/
def viewLinesUptoCard : Claim7 := { stood := { row := viewLinesUptoRow, standIns := [], harness := (true, "20a6d3652a9349a62b432aa20ded506281030ff090e61c0c3b0713ffc9e664e0"), looks := false }, kinds := [], alts := [], laidByText := true, laidKinds := [.data, .data, .data, .data], laidTests := true, laidLooks := .later }
def ViewLinesUptoCardSaid : Prop := Claim7.holds Tryz.pinned (.plain (OpenSpec.upto viewLinesSpec)) viewLinesUptoCard

/-- THE SECOND FORM's CARD OF 'rollbooklaw32.ViewCompletes'. -/
def viewCompletesUptoCard : Claim7 := { stood := { row := viewCompletesUptoRow, standIns := [], harness := (true, "20a6d3652a9349a62b432aa20ded506281030ff090e61c0c3b0713ffc9e664e0"), looks := false }, kinds := [], alts := [], laidByText := true, laidKinds := [.data, .data, .data, .data], laidTests := true, laidLooks := .later }
def ViewCompletesUptoCardSaid : Prop := Claim7.holds Tryz.pinned (.plain (OpenSpec.upto viewCompletesSpec)) viewCompletesUptoCard

/-- THE SECOND FORM's CARD OF 'rollbooklaw32.ViewOpens'. -/
def viewOpensUptoCard : Claim7 := { stood := { row := viewOpensUptoRow, standIns := [], harness := (true, "20a6d3652a9349a62b432aa20ded506281030ff090e61c0c3b0713ffc9e664e0"), looks := false }, kinds := [], alts := [], laidByText := true, laidKinds := [.data, .data, .data, .data], laidTests := true, laidLooks := .later }
def ViewOpensUptoCardSaid : Prop := Claim7.holds Tryz.pinned (.plain (OpenSpec.upto viewOpensSpec)) viewOpensUptoCard

/-- THE SECOND FORM's CARD OF 'rollbooklaw32.ViewBoxes'. -/
def viewBoxesUptoCard : Claim7 := { stood := { row := viewBoxesUptoRow, standIns := [], harness := (true, "20a6d3652a9349a62b432aa20ded506281030ff090e61c0c3b0713ffc9e664e0"), looks := false }, kinds := [], alts := [], laidByText := true, laidKinds := [.data, .data, .data, .data], laidTests := true, laidLooks := .later }
def ViewBoxesUptoCardSaid : Prop := Claim7.holds Tryz.pinned (.plain (OpenSpec.upto viewBoxesSpec)) viewBoxesUptoCard

/-- THE SECOND FORM's CARD OF 'rollbooklaw32.ViewShapes'. -/
def viewShapesUptoCard : Claim7 := { stood := { row := viewShapesUptoRow, standIns := [], harness := (true, "20a6d3652a9349a62b432aa20ded506281030ff090e61c0c3b0713ffc9e664e0"), looks := false }, kinds := [], alts := [], laidByText := true, laidKinds := [.data, .data, .data, .data], laidTests := true, laidLooks := .later }
def ViewShapesUptoCardSaid : Prop := Claim7.holds Tryz.pinned (.plain (OpenSpec.upto viewShapesSpec)) viewShapesUptoCard

/-- THE SECOND FORM's CARD OF 'rollbooklaw32.ViewWidths'. -/
def viewWidthsUptoCard : Claim7 := { stood := { row := viewWidthsUptoRow, standIns := [], harness := (true, "20a6d3652a9349a62b432aa20ded506281030ff090e61c0c3b0713ffc9e664e0"), looks := false }, kinds := [], alts := [], laidByText := true, laidKinds := [.data, .data, .data, .data], laidTests := true, laidLooks := .later }
def ViewWidthsUptoCardSaid : Prop := Claim7.holds Tryz.pinned (.plain (OpenSpec.upto viewWidthsSpec)) viewWidthsUptoCard

/-- THE SECOND FORM's CARD OF 'rollbooklaw32.ViewSame'. -/
def viewSameUptoCard : Claim7 := { stood := { row := viewSameUptoRow, standIns := [], harness := (true, "20a6d3652a9349a62b432aa20ded506281030ff090e61c0c3b0713ffc9e664e0"), looks := false }, kinds := [], alts := [], laidByText := true, laidKinds := [.data, .data, .data, .data], laidTests := true, laidLooks := .later }
def ViewSameUptoCardSaid : Prop := Claim7.holds Tryz.pinned (.plain (OpenSpec.upto viewSameSpec)) viewSameUptoCard

/-- THE SECOND FORM's CARD OF 'rollbooklaw34.CertifyBooks'. -/
def certifyBooksUptoCard : Claim7 := { stood := { row := certifyBooksUptoRow, standIns := [], harness := (true, "20a6d3652a9349a62b432aa20ded506281030ff090e61c0c3b0713ffc9e664e0"), looks := false }, kinds := [], alts := [], laidByText := true, laidKinds := [.data, .data, .data, .data, .data], laidTests := true, laidLooks := .later }
def CertifyBooksUptoCardSaid : Prop := Claim7.holds Tryz.pinned (.plain (OpenSpec.upto certifyBooksSpec)) certifyBooksUptoCard
end Rows
end Go.Proofs.YtegaapiocihcpaaGreatDoor
