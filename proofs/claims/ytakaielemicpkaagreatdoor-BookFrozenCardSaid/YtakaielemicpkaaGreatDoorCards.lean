/-
  DERIVED. GIVEN WITH THE SEED: THE CARDS: each row of YtakaielemicpkaaGreatDoorRows.lean that lists a variable, with what it lists TIED to the program's text (the seventh form; the later family's looks); each row that meets fmt, with fmt's text TOLD by the authors' own Lean function (tested against real Go, not proved from fmt's source: count such statements apart). THE CARD IS WHAT COUNTS. Prove the row's statement (the work); the ties are given (YtakaielemicpkaaGreatDoorTie.lean); close each card by the builder's one call (the guide's Derived/Test/ToyasCard.lean, 'card_holds'). Laid BY PROGRAM, IN A SANDBOX (cutbox-door.mjs). By AI agents, Wed Nov 11 2026. No macro, syntax, notation, axiom, sorry.
-/
import Derived.Test.YtakaielemicpkaaGreatDoorRows
import GoSem.ClaimSeven
namespace Go.Proofs.YtakaielemicpkaaGreatDoor
namespace Rows

/-- THE TIED CARD OF 'rollbooklaw28.BookPages'. -/
def bookPagesCard : Claim7 := { stood := { row := bookPagesRow, standIns := [], harness := (true, "eef266880c6b00122c5d8994dfd75877109eaac15abeaba5ede1de5f33d68e9f"), looks := false }, kinds := [], alts := [], laidByText := true, laidKinds := [.data, .data, .data, .data], laidTests := true, laidLooks := .later }
def BookPagesCardSaid : Prop := Claim7.holds Tryz.pinned (.plain (OpenSpec.ofChange bookPagesSpec)) bookPagesCard

/-- THE TIED CARD OF 'rollbooklaw28.BookFinds'. -/
def bookFindsCard : Claim7 := { stood := { row := bookFindsRow, standIns := [], harness := (true, "eef266880c6b00122c5d8994dfd75877109eaac15abeaba5ede1de5f33d68e9f"), looks := false }, kinds := [], alts := [], laidByText := true, laidKinds := [.data, .data, .data, .data], laidTests := true, laidLooks := .later }
def BookFindsCardSaid : Prop := Claim7.holds Tryz.pinned (.plain (OpenSpec.ofChange bookFindsSpec)) bookFindsCard

/-- THE TIED CARD OF 'rollbooklaw28.BookChecks'. -/
def bookChecksCard : Claim7 := { stood := { row := bookChecksRow, standIns := [], harness := (true, "eef266880c6b00122c5d8994dfd75877109eaac15abeaba5ede1de5f33d68e9f"), looks := false }, kinds := [], alts := [], laidByText := true, laidKinds := [.data, .data, .data, .data], laidTests := true, laidLooks := .later }
def BookChecksCardSaid : Prop := Claim7.holds Tryz.pinned (.plain (OpenSpec.ofChange bookChecksSpec)) bookChecksCard

/-- THE TIED CARD OF 'rollbooklaw28.BookChanges'. -/
def bookChangesCard : Claim7 := { stood := { row := bookChangesRow, standIns := [], harness := (true, "eef266880c6b00122c5d8994dfd75877109eaac15abeaba5ede1de5f33d68e9f"), looks := false }, kinds := [], alts := [], laidByText := true, laidKinds := [.data, .data, .data, .data], laidTests := true, laidLooks := .later }
def BookChangesCardSaid : Prop := Claim7.holds Tryz.pinned (.plain (OpenSpec.ofChange bookChangesSpec)) bookChangesCard

/-- THE TIED CARD OF 'rollbooklaw28.BookFrozen'. -/
def bookFrozenCard : Claim7 := { stood := { row := bookFrozenRow, standIns := [], harness := (true, "eef266880c6b00122c5d8994dfd75877109eaac15abeaba5ede1de5f33d68e9f"), looks := false }, kinds := [], alts := [], laidByText := true, laidKinds := [.data, .data, .data, .data], laidTests := true, laidLooks := .later }
def BookFrozenCardSaid : Prop := Claim7.holds Tryz.pinned (.plain (OpenSpec.ofChange bookFrozenSpec)) bookFrozenCard

/-- THE TIED CARD OF 'rollbooklaw28.BookShapes'. -/
def bookShapesCard : Claim7 := { stood := { row := bookShapesRow, standIns := [], harness := (true, "eef266880c6b00122c5d8994dfd75877109eaac15abeaba5ede1de5f33d68e9f"), looks := false }, kinds := [], alts := [], laidByText := true, laidKinds := [.data, .data, .data, .data], laidTests := true, laidLooks := .later }
def BookShapesCardSaid : Prop := Claim7.holds Tryz.pinned (.plain (OpenSpec.ofChange bookShapesSpec)) bookShapesCard

/-- THE SECOND FORM's CARD OF 'rollbooklaw28.BookPages'. -/
def bookPagesUptoCard : Claim7 := { stood := { row := bookPagesUptoRow, standIns := [], harness := (true, "eef266880c6b00122c5d8994dfd75877109eaac15abeaba5ede1de5f33d68e9f"), looks := false }, kinds := [], alts := [], laidByText := true, laidKinds := [.data, .data, .data, .data], laidTests := true, laidLooks := .later }
def BookPagesUptoCardSaid : Prop := Claim7.holds Tryz.pinned (.plain (OpenSpec.upto bookPagesSpec)) bookPagesUptoCard

/-- THE SECOND FORM's CARD OF 'rollbooklaw28.BookFinds'. -/
def bookFindsUptoCard : Claim7 := { stood := { row := bookFindsUptoRow, standIns := [], harness := (true, "eef266880c6b00122c5d8994dfd75877109eaac15abeaba5ede1de5f33d68e9f"), looks := false }, kinds := [], alts := [], laidByText := true, laidKinds := [.data, .data, .data, .data], laidTests := true, laidLooks := .later }
def BookFindsUptoCardSaid : Prop := Claim7.holds Tryz.pinned (.plain (OpenSpec.upto bookFindsSpec)) bookFindsUptoCard

/-- THE SECOND FORM's CARD OF 'rollbooklaw28.BookChecks'. -/
def bookChecksUptoCard : Claim7 := { stood := { row := bookChecksUptoRow, standIns := [], harness := (true, "eef266880c6b00122c5d8994dfd75877109eaac15abeaba5ede1de5f33d68e9f"), looks := false }, kinds := [], alts := [], laidByText := true, laidKinds := [.data, .data, .data, .data], laidTests := true, laidLooks := .later }
def BookChecksUptoCardSaid : Prop := Claim7.holds Tryz.pinned (.plain (OpenSpec.upto bookChecksSpec)) bookChecksUptoCard

/-- THE SECOND FORM's CARD OF 'rollbooklaw28.BookChanges'. -/
def bookChangesUptoCard : Claim7 := { stood := { row := bookChangesUptoRow, standIns := [], harness := (true, "eef266880c6b00122c5d8994dfd75877109eaac15abeaba5ede1de5f33d68e9f"), looks := false }, kinds := [], alts := [], laidByText := true, laidKinds := [.data, .data, .data, .data], laidTests := true, laidLooks := .later }
def BookChangesUptoCardSaid : Prop := Claim7.holds Tryz.pinned (.plain (OpenSpec.upto bookChangesSpec)) bookChangesUptoCard

/-- THE SECOND FORM's CARD OF 'rollbooklaw28.BookFrozen'. -/
def bookFrozenUptoCard : Claim7 := { stood := { row := bookFrozenUptoRow, standIns := [], harness := (true, "eef266880c6b00122c5d8994dfd75877109eaac15abeaba5ede1de5f33d68e9f"), looks := false }, kinds := [], alts := [], laidByText := true, laidKinds := [.data, .data, .data, .data], laidTests := true, laidLooks := .later }
def BookFrozenUptoCardSaid : Prop := Claim7.holds Tryz.pinned (.plain (OpenSpec.upto bookFrozenSpec)) bookFrozenUptoCard

/-- THE SECOND FORM's CARD OF 'rollbooklaw28.BookShapes'. -/
def bookShapesUptoCard : Claim7 := { stood := { row := bookShapesUptoRow, standIns := [], harness := (true, "eef266880c6b00122c5d8994dfd75877109eaac15abeaba5ede1de5f33d68e9f"), looks := false }, kinds := [], alts := [], laidByText := true, laidKinds := [.data, .data, .data, .data], laidTests := true, laidLooks := .later }
def BookShapesUptoCardSaid : Prop := Claim7.holds Tryz.pinned (.plain (OpenSpec.upto bookShapesSpec)) bookShapesUptoCard
end Rows
end Go.Proofs.YtakaielemicpkaaGreatDoor
