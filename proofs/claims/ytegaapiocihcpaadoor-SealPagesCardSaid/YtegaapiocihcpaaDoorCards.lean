/-
  DERIVED. GIVEN WITH THE SEED: THE CARDS: each row of YtegaapiocihcpaaDoorRows.lean that lists a variable, with what it lists TIED to the program's text (the seventh form; the later family's looks); each row that meets fmt, with fmt's text TOLD by the authors' own Lean function (tested against real Go, not proved from fmt's source: count such statements apart). THE CARD IS WHAT COUNTS. Prove the row's statement (the work); the ties are given (YtegaapiocihcpaaDoorTie.lean); close each card by the builder's one call (the guide's Derived/Test/ToyasCard.lean, 'card_holds'). Laid BY PROGRAM, IN A SANDBOX (cutbox-door.mjs). By AI agents, Wed Nov 11 2026. No macro, syntax, notation, axiom, sorry.
-/
import Derived.Test.YtegaapiocihcpaaDoorRows
import GoSem.ClaimSeven
namespace Go.Proofs.YtegaapiocihcpaaDoor
namespace Rows

/-- THE TIED CARD OF 'rollbooklaw30.SealPages'. -/
def sealPagesCard : Claim7 := { stood := { row := sealPagesRow, standIns := [], harness := (true, "99bf9668adbd92a9ab542d4affd5d41faa4c6dc48c8bce19c70b523c82b6796c"), looks := false }, kinds := [], alts := [], laidByText := true, laidKinds := [.data], laidTests := true, laidLooks := .later }
def SealPagesCardSaid : Prop := Claim7.holds Tryd.pinned (.plain (OpenSpec.ofChange sealPagesSpec)) sealPagesCard

/-- THE SECOND FORM's CARD OF 'rollbooklaw30.SealPages'. -/
def sealPagesUptoCard : Claim7 := { stood := { row := sealPagesUptoRow, standIns := [], harness := (true, "99bf9668adbd92a9ab542d4affd5d41faa4c6dc48c8bce19c70b523c82b6796c"), looks := false }, kinds := [], alts := [], laidByText := true, laidKinds := [.data], laidTests := true, laidLooks := .later }
def SealPagesUptoCardSaid : Prop := Claim7.holds Tryd.pinned (.plain (OpenSpec.upto sealPagesSpec)) sealPagesUptoCard
end Rows
end Go.Proofs.YtegaapiocihcpaaDoor
