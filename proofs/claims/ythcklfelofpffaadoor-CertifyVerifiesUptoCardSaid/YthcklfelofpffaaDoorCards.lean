/-
  DERIVED. GIVEN WITH THE SEED: THE CARDS: each row of YthcklfelofpffaaDoorRows.lean that lists a variable, with what it lists TIED to the program's text (the seventh form; the later family's looks); each row that meets fmt, with fmt's text TOLD by the authors' own Lean function (tested against real Go, not proved from fmt's source: count such statements apart). THE CARD IS WHAT COUNTS. Prove the row's statement (the work); the ties are given (YthcklfelofpffaaDoorTie.lean); close each card by the builder's one call (the guide's Derived/Test/ToyasCard.lean, 'card_holds'). Laid BY PROGRAM, IN A SANDBOX (cutbox-door.mjs). By AI agents, Wed Nov 11 2026. No macro, syntax, notation, axiom, sorry.
-/
import Derived.Test.YthcklfelofpffaaDoorRows
import GoSem.ClaimSeven
namespace Go.Proofs.YthcklfelofpffaaDoor
namespace Rows

/-- THE TIED CARD OF 'rollbooklaw34.CertifyLeaves'. -/
def certifyLeavesCard : Claim7 := { stood := { row := certifyLeavesRow, standIns := [], harness := (true, "1f1d8e4488c82636fc921f804efc5b0eaa515813fa86eb6440e4dc9c0aa7cecd"), looks := false }, kinds := [], alts := [], laidByText := true, laidKinds := [.data], laidTests := true, laidLooks := .later }
def CertifyLeavesCardSaid : Prop := Claim7.holds Tryd.pinned (.plain (OpenSpec.ofChange certifyLeavesSpec)) certifyLeavesCard

/-- THE TIED CARD OF 'rollbooklaw34.CertifyAdds'. -/
def certifyAddsCard : Claim7 := { stood := { row := certifyAddsRow, standIns := [], harness := (true, "1f1d8e4488c82636fc921f804efc5b0eaa515813fa86eb6440e4dc9c0aa7cecd"), looks := false }, kinds := [], alts := [], laidByText := true, laidKinds := [.data], laidTests := true, laidLooks := .later }
def CertifyAddsCardSaid : Prop := Claim7.holds Tryd.pinned (.plain (OpenSpec.ofChange certifyAddsSpec)) certifyAddsCard

/-- THE TIED CARD OF 'rollbooklaw34.CertifyIncludes'. -/
def certifyIncludesCard : Claim7 := { stood := { row := certifyIncludesRow, standIns := [], harness := (true, "1f1d8e4488c82636fc921f804efc5b0eaa515813fa86eb6440e4dc9c0aa7cecd"), looks := false }, kinds := [], alts := [], laidByText := true, laidKinds := [.data], laidTests := true, laidLooks := .later }
def CertifyIncludesCardSaid : Prop := Claim7.holds Tryd.pinned (.plain (OpenSpec.ofChange certifyIncludesSpec)) certifyIncludesCard

/-- THE TIED CARD OF 'rollbooklaw34.CertifyProofs'. -/
def certifyProofsCard : Claim7 := { stood := { row := certifyProofsRow, standIns := [], harness := (true, "1f1d8e4488c82636fc921f804efc5b0eaa515813fa86eb6440e4dc9c0aa7cecd"), looks := false }, kinds := [], alts := [], laidByText := true, laidKinds := [.data], laidTests := true, laidLooks := .later }
def CertifyProofsCardSaid : Prop := Claim7.holds Tryd.pinned (.plain (OpenSpec.ofChange certifyProofsSpec)) certifyProofsCard

/-- THE TIED CARD OF 'rollbooklaw34.CertifyVerifies'. -/
def certifyVerifiesCard : Claim7 := { stood := { row := certifyVerifiesRow, standIns := [], harness := (true, "1f1d8e4488c82636fc921f804efc5b0eaa515813fa86eb6440e4dc9c0aa7cecd"), looks := false }, kinds := [], alts := [], laidByText := true, laidKinds := [.data], laidTests := true, laidLooks := .later }
def CertifyVerifiesCardSaid : Prop := Claim7.holds Tryd.pinned (.plain (OpenSpec.ofChange certifyVerifiesSpec)) certifyVerifiesCard

/-- THE TIED CARD OF 'rollbooklaw34.CertifyGrows'. -/
def certifyGrowsCard : Claim7 := { stood := { row := certifyGrowsRow, standIns := [], harness := (true, "1f1d8e4488c82636fc921f804efc5b0eaa515813fa86eb6440e4dc9c0aa7cecd"), looks := false }, kinds := [], alts := [], laidByText := true, laidKinds := [.data], laidTests := true, laidLooks := .later }
def CertifyGrowsCardSaid : Prop := Claim7.holds Tryd.pinned (.plain (OpenSpec.ofChange certifyGrowsSpec)) certifyGrowsCard

/-- THE TIED CARD OF 'rollbooklaw34.CertifyEncodes'. -/
def certifyEncodesCard : Claim7 := { stood := { row := certifyEncodesRow, standIns := [], harness := (true, "1f1d8e4488c82636fc921f804efc5b0eaa515813fa86eb6440e4dc9c0aa7cecd"), looks := false }, kinds := [], alts := [], laidByText := true, laidKinds := [.data], laidTests := true, laidLooks := .later }
def CertifyEncodesCardSaid : Prop := Claim7.holds Tryd.pinned (.plain (OpenSpec.ofChange certifyEncodesSpec)) certifyEncodesCard

/-- THE SECOND FORM's CARD OF 'rollbooklaw34.CertifyLeaves'. -/
def certifyLeavesUptoCard : Claim7 := { stood := { row := certifyLeavesUptoRow, standIns := [], harness := (true, "1f1d8e4488c82636fc921f804efc5b0eaa515813fa86eb6440e4dc9c0aa7cecd"), looks := false }, kinds := [], alts := [], laidByText := true, laidKinds := [.data], laidTests := true, laidLooks := .later }
def CertifyLeavesUptoCardSaid : Prop := Claim7.holds Tryd.pinned (.plain (OpenSpec.upto certifyLeavesSpec)) certifyLeavesUptoCard

/-- THE SECOND FORM's CARD OF 'rollbooklaw34.CertifyAdds'. -/
def certifyAddsUptoCard : Claim7 := { stood := { row := certifyAddsUptoRow, standIns := [], harness := (true, "1f1d8e4488c82636fc921f804efc5b0eaa515813fa86eb6440e4dc9c0aa7cecd"), looks := false }, kinds := [], alts := [], laidByText := true, laidKinds := [.data], laidTests := true, laidLooks := .later }
def CertifyAddsUptoCardSaid : Prop := Claim7.holds Tryd.pinned (.plain (OpenSpec.upto certifyAddsSpec)) certifyAddsUptoCard

/-- THE SECOND FORM's CARD OF 'rollbooklaw34.CertifyIncludes'. -/
def certifyIncludesUptoCard : Claim7 := { stood := { row := certifyIncludesUptoRow, standIns := [], harness := (true, "1f1d8e4488c82636fc921f804efc5b0eaa515813fa86eb6440e4dc9c0aa7cecd"), looks := false }, kinds := [], alts := [], laidByText := true, laidKinds := [.data], laidTests := true, laidLooks := .later }
def CertifyIncludesUptoCardSaid : Prop := Claim7.holds Tryd.pinned (.plain (OpenSpec.upto certifyIncludesSpec)) certifyIncludesUptoCard

/-- THE SECOND FORM's CARD OF 'rollbooklaw34.CertifyProofs'. -/
def certifyProofsUptoCard : Claim7 := { stood := { row := certifyProofsUptoRow, standIns := [], harness := (true, "1f1d8e4488c82636fc921f804efc5b0eaa515813fa86eb6440e4dc9c0aa7cecd"), looks := false }, kinds := [], alts := [], laidByText := true, laidKinds := [.data], laidTests := true, laidLooks := .later }
def CertifyProofsUptoCardSaid : Prop := Claim7.holds Tryd.pinned (.plain (OpenSpec.upto certifyProofsSpec)) certifyProofsUptoCard

/-- THE SECOND FORM's CARD OF 'rollbooklaw34.CertifyVerifies'. -/
def certifyVerifiesUptoCard : Claim7 := { stood := { row := certifyVerifiesUptoRow, standIns := [], harness := (true, "1f1d8e4488c82636fc921f804efc5b0eaa515813fa86eb6440e4dc9c0aa7cecd"), looks := false }, kinds := [], alts := [], laidByText := true, laidKinds := [.data], laidTests := true, laidLooks := .later }
def CertifyVerifiesUptoCardSaid : Prop := Claim7.holds Tryd.pinned (.plain (OpenSpec.upto certifyVerifiesSpec)) certifyVerifiesUptoCard

/-- THE SECOND FORM's CARD OF 'rollbooklaw34.CertifyGrows'. -/
def certifyGrowsUptoCard : Claim7 := { stood := { row := certifyGrowsUptoRow, standIns := [], harness := (true, "1f1d8e4488c82636fc921f804efc5b0eaa515813fa86eb6440e4dc9c0aa7cecd"), looks := false }, kinds := [], alts := [], laidByText := true, laidKinds := [.data], laidTests := true, laidLooks := .later }
def CertifyGrowsUptoCardSaid : Prop := Claim7.holds Tryd.pinned (.plain (OpenSpec.upto certifyGrowsSpec)) certifyGrowsUptoCard

/-- THE SECOND FORM's CARD OF 'rollbooklaw34.CertifyEncodes'. -/
def certifyEncodesUptoCard : Claim7 := { stood := { row := certifyEncodesUptoRow, standIns := [], harness := (true, "1f1d8e4488c82636fc921f804efc5b0eaa515813fa86eb6440e4dc9c0aa7cecd"), looks := false }, kinds := [], alts := [], laidByText := true, laidKinds := [.data], laidTests := true, laidLooks := .later }
def CertifyEncodesUptoCardSaid : Prop := Claim7.holds Tryd.pinned (.plain (OpenSpec.upto certifyEncodesSpec)) certifyEncodesUptoCard
end Rows
end Go.Proofs.YthcklfelofpffaaDoor
