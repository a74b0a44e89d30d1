/-
  DERIVED. GIVEN WITH THE SEED: THE CARDS: each row of YtakaielemicpkaaDoorRows.lean that lists a variable, with what it lists TIED to the program's text (the seventh form; the later family's looks); each row that meets fmt, with fmt's text TOLD by the authors' own Lean function (tested against real Go, not proved from fmt's source: count such statements apart). THE CARD IS WHAT COUNTS. Prove the row's statement (the work); the ties are given (YtakaielemicpkaaDoorTie.lean); close each card by the builder's one call (the guide's Derived/Test/ToyasCard.lean, 'card_holds'). Laid BY PROGRAM, IN A SANDBOX (cutbox-door.mjs). By AI agents, Wed Nov 11 2026. No macro, syntax, notation, axiom, sorry.
-/
import Derived.Test.YtakaielemicpkaaDoorRows
import GoSem.ClaimSeven
namespace Go.Proofs.YtakaielemicpkaaDoor
namespace Rows

/-- THE TIED CARD OF 'rollbooklaw28.BookWords'. -/
def bookWordsCard : Claim7 := { stood := { row := bookWordsRow, standIns := [], harness := (true, "a8ff58c2d1c2f03cd6b72ff7a2111e0fb7a8a1d1cba1782db22efc9fc51743c8"), looks := false }, kinds := [], alts := [], laidByText := true, laidKinds := [.data, .data, .data, .data], laidTests := true, laidLooks := .later }
def BookWordsCardSaid : Prop := Claim7.holds Tryd.pinned (.plain (OpenSpec.ofChange bookWordsSpec)) bookWordsCard

/-- THE TIED CARD OF 'rollbooklaw28.BookSets'. -/
def bookSetsCard : Claim7 := { stood := { row := bookSetsRow, standIns := [], harness := (true, "a8ff58c2d1c2f03cd6b72ff7a2111e0fb7a8a1d1cba1782db22efc9fc51743c8"), looks := false }, kinds := [], alts := [], laidByText := true, laidKinds := [.data, .data, .data, .data], laidTests := true, laidLooks := .later }
def BookSetsCardSaid : Prop := Claim7.holds Tryd.pinned (.plain (OpenSpec.ofChange bookSetsSpec)) bookSetsCard

/-- THE TIED CARD OF 'rollbooklaw28.BookFresh'. -/
def bookFreshCard : Claim7 := { stood := { row := bookFreshRow, standIns := [], harness := (true, "a8ff58c2d1c2f03cd6b72ff7a2111e0fb7a8a1d1cba1782db22efc9fc51743c8"), looks := false }, kinds := [], alts := [], laidByText := true, laidKinds := [.data, .data, .data, .data], laidTests := true, laidLooks := .later }
def BookFreshCardSaid : Prop := Claim7.holds Tryd.pinned (.plain (OpenSpec.ofChange bookFreshSpec)) bookFreshCard

/-- THE TIED CARD OF 'rollbooklaw28.BookLabels'. -/
def bookLabelsCard : Claim7 := { stood := { row := bookLabelsRow, standIns := [], harness := (true, "a8ff58c2d1c2f03cd6b72ff7a2111e0fb7a8a1d1cba1782db22efc9fc51743c8"), looks := false }, kinds := [], alts := [], laidByText := true, laidKinds := [.data, .data, .data, .data], laidTests := true, laidLooks := .later }
def BookLabelsCardSaid : Prop := Claim7.holds Tryd.pinned (.plain (OpenSpec.ofChange bookLabelsSpec)) bookLabelsCard

/-- THE SECOND FORM's CARD OF 'rollbooklaw28.BookWords'. -/
def bookWordsUptoCard : Claim7 := { stood := { row := bookWordsUptoRow, standIns := [], harness := (true, "a8ff58c2d1c2f03cd6b72ff7a2111e0fb7a8a1d1cba1782db22efc9fc51743c8"), looks := false }, kinds := [], alts := [], laidByText := true, laidKinds := [.data, .data, .data, .data], laidTests := true, laidLooks := .later }
def BookWordsUptoCardSaid : Prop := Claim7.holds Tryd.pinned (.plain (OpenSpec.upto bookWordsSpec)) bookWordsUptoCard

/-- THE SECOND FORM's CARD OF 'rollbooklaw28.BookSets'. -/
def bookSetsUptoCard : Claim7 := { stood := { row := bookSetsUptoRow, standIns := [], harness := (true, "a8ff58c2d1c2f03cd6b72ff7a2111e0fb7a8a1d1cba1782db22efc9fc51743c8"), looks := false }, kinds := [], alts := [], laidByText := true, laidKinds := [.data, .data, .data, .data], laidTests := true, laidLooks := .later }
def BookSetsUptoCardSaid : Prop := Claim7.holds Tryd.pinned (.plain (OpenSpec.upto bookSetsSpec)) bookSetsUptoCard

/-- THE SECOND FORM's CARD OF 'rollbooklaw28.BookFresh'. -/
def bookFreshUptoCard : Claim7 := { stood := { row := bookFreshUptoRow, standIns := [], harness := (true, "a8ff58c2d1c2f03cd6b72ff7a2111e0fb7a8a1d1cba1782db22efc9fc51743c8"), looks := false }, kinds := [], alts := [], laidByText := true, laidKinds := [.data, .data, .data, .data], laidTests := true, laidLooks := .later }
def BookFreshUptoCardSaid : Prop := Claim7.holds Tryd.pinned (.plain (OpenSpec.upto bookFreshSpec)) bookFreshUptoCard

/-- THE SECOND FORM's CARD OF 'rollbooklaw28.BookLabels'. -/
def bookLabelsUptoCard : Claim7 := { stood := { row := bookLabelsUptoRow, standIns := [], harness := (true, "a8ff58c2d1c2f03cd6b72ff7a2111e0fb7a8a1d1cba1782db22efc9fc51743c8"), looks := false }, kinds := [], alts := [], laidByText := true, laidKinds := [.data, .data, .data, .data], laidTests := true, laidLooks := .later }
def BookLabelsUptoCardSaid : Prop := Claim7.holds Tryd.pinned (.plain (OpenSpec.upto bookLabelsSpec)) bookLabelsUptoCard
end Rows
end Go.Proofs.YtakaielemicpkaaDoor
