/-
  No cell of these rows narrows 'for every input' (looked for: loops, veiled, ifaces, maps, wideKeys, modest, calm, conditions, laid).
  DERIVED. THE GIVEN ROWS OF THIS SEAT. 9 by the template 'for every input the law returns true; each argument reads behind the call as it read before'; 0 by the template 'total and deterministic' (their statements: YtfncpofcgalllaaTotals.lean).
  GIVEN WITH THE SEED: the statements are not yours to turn. If you find one false, say at which input.
  Laid BY PROGRAM, IN A SANDBOX (cutbox-rows.mjs): the forced cells as the released guide's own fill.sh prints them over the translation c79b05d299ce7758… (all of the seat's roots in one cut). By AI agents, Wed Nov 11 2026. No macro, syntax, notation, axiom, sorry.
-/
import Derived.Test.YtfncpofcgalllaaChecked
import GoSem.Claim
import GoSem.ClaimJoined
import GoSem.ClaimMapViews
import Derived.JoinedTies
import Derived.KernelRfl
namespace Go.Proofs.Ytfncpofcgalllaa
/- THE CELL 'sum', in the pinned program and in every row, IS THE sha256 OF THE DUMP (.gsa) THAT YtfncpofcgalllaaProg.lean LOADS. Nothing in Lean hashes anything: it is a label: what it is worth is what the hold of that sum in a sandbox is worth. -/
noncomputable def Try.pinned : Pinned := { name := "ytfncpofcgalllaa", sum := "c79b05d299ce77584c8646b0d9fa9d7cc54010da73e348dfae086ee468430e78", checked := Try.checked }
namespace Rows
def none {H : Type} : Left H := { results := [], args := [] }

/-- 'rollbooklaw30.SealChecks': WHATEVER THE INPUT: true; the input reads as it did. -/
def sealChecksSpec : ChangeSpec := { name := "sealChecks", fn := fun _ => fun
  | [d1, d2, d3] => { results := [.lit (.bool true)], args := [d1, d2, d3] }
  | _ => none }
def sealChecksRow : OpenClaim := { program := "ytfncpofcgalllaa", sum := "c79b05d299ce77584c8646b0d9fa9d7cc54010da73e348dfae086ee468430e78", func := "rollbook/rollbooklaw30.SealChecks", spec := "sealChecks", unfollowed := true, recurses := true, plainKeys := false, apart := false }
def SealChecksSaid : Prop := sealChecksRow.holds Try.pinned (OpenSpec.ofChange sealChecksSpec)

/-- ITS FALSE NEIGHBOUR: 'it returns false'. Refute it at one input. -/
def sealChecksWrong : ChangeSpec := { name := "sealChecks", fn := fun _ => fun
  | [d1, d2, d3] => { results := [.lit (.bool false)], args := [d1, d2, d3] }
  | _ => none }
def SealChecksWrongFalsely : Prop := sealChecksRow.holds Try.pinned (OpenSpec.ofChange sealChecksWrong)

/-- 'rollbooklaw30.SealSees': WHATEVER THE INPUT: true; the input reads as it did. -/
def sealSeesSpec : ChangeSpec := { name := "sealSees", fn := fun _ => fun
  | [d1, d2, d3, d4, d5] => { results := [.lit (.bool true)], args := [d1, d2, d3, d4, d5] }
  | _ => none }
def sealSeesRow : OpenClaim := { program := "ytfncpofcgalllaa", sum := "c79b05d299ce77584c8646b0d9fa9d7cc54010da73e348dfae086ee468430e78", func := "rollbook/rollbooklaw30.SealSees", spec := "sealSees", unfollowed := true, recurses := true, plainKeys := false, apart := false }
def SealSeesSaid : Prop := sealSeesRow.holds Try.pinned (OpenSpec.ofChange sealSeesSpec)

/-- ITS FALSE NEIGHBOUR: 'it returns false'. Refute it at one input. -/
def sealSeesWrong : ChangeSpec := { name := "sealSees", fn := fun _ => fun
  | [d1, d2, d3, d4, d5] => { results := [.lit (.bool false)], args := [d1, d2, d3, d4, d5] }
  | _ => none }
def SealSeesWrongFalsely : Prop := sealSeesRow.holds Try.pinned (OpenSpec.ofChange sealSeesWrong)

/-- 'rollbooklaw30.SealHides': WHATEVER THE INPUT: true; the input reads as it did. -/
def sealHidesSpec : ChangeSpec := { name := "sealHides", fn := fun _ => fun
  | [d1, d2] => { results := [.lit (.bool true)], args := [d1, d2] }
  | _ => none }
def sealHidesRow : OpenClaim := { program := "ytfncpofcgalllaa", sum := "c79b05d299ce77584c8646b0d9fa9d7cc54010da73e348dfae086ee468430e78", func := "rollbook/rollbooklaw30.SealHides", spec := "sealHides", unfollowed := true, recurses := true, plainKeys := false, apart := false }
def SealHidesSaid : Prop := sealHidesRow.holds Try.pinned (OpenSpec.ofChange sealHidesSpec)

/-- ITS FALSE NEIGHBOUR: 'it returns false'. Refute it at one input. -/
def sealHidesWrong : ChangeSpec := { name := "sealHides", fn := fun _ => fun
  | [d1, d2] => { results := [.lit (.bool false)], args := [d1, d2] }
  | _ => none }
def SealHidesWrongFalsely : Prop := sealHidesRow.holds Try.pinned (OpenSpec.ofChange sealHidesWrong)

/-- 'rollbooklaw30.SealOrder': WHATEVER THE INPUT: true; the input reads as it did. -/
def sealOrderSpec : ChangeSpec := { name := "sealOrder", fn := fun _ => fun
  | [d1, d2] => { results := [.lit (.bool true)], args := [d1, d2] }
  | _ => none }
def sealOrderRow : OpenClaim := { program := "ytfncpofcgalllaa", sum := "c79b05d299ce77584c8646b0d9fa9d7cc54010da73e348dfae086ee468430e78", func := "rollbook/rollbooklaw30.SealOrder", spec := "sealOrder", unfollowed := true, recurses := true, plainKeys := false, apart := false }
def SealOrderSaid : Prop := sealOrderRow.holds Try.pinned (OpenSpec.ofChange sealOrderSpec)

/-- ITS FALSE NEIGHBOUR: 'it returns false'. Refute it at one input. -/
def sealOrderWrong : ChangeSpec := { name := "sealOrder", fn := fun _ => fun
  | [d1, d2] => { results := [.lit (.bool false)], args := [d1, d2] }
  | _ => none }
def SealOrderWrongFalsely : Prop := sealOrderRow.holds Try.pinned (OpenSpec.ofChange sealOrderWrong)

/-- 'rollbooklaw30.SealElsewhere': WHATEVER THE INPUT: true; the input reads as it did. -/
def sealElsewhereSpec : ChangeSpec := { name := "sealElsewhere", fn := fun _ => fun
  | [d1, d2] => { results := [.lit (.bool true)], args := [d1, d2] }
  | _ => none }
def sealElsewhereRow : OpenClaim := { program := "ytfncpofcgalllaa", sum := "c79b05d299ce77584c8646b0d9fa9d7cc54010da73e348dfae086ee468430e78", func := "rollbook/rollbooklaw30.SealElsewhere", spec := "sealElsewhere", unfollowed := true, recurses := true, plainKeys := false, apart := false }
def SealElsewhereSaid : Prop := sealElsewhereRow.holds Try.pinned (OpenSpec.ofChange sealElsewhereSpec)

/-- ITS FALSE NEIGHBOUR: 'it returns false'. Refute it at one input. -/
def sealElsewhereWrong : ChangeSpec := { name := "sealElsewhere", fn := fun _ => fun
  | [d1, d2] => { results := [.lit (.bool false)], args := [d1, d2] }
  | _ => none }
def SealElsewhereWrongFalsely : Prop := sealElsewhereRow.holds Try.pinned (OpenSpec.ofChange sealElsewhereWrong)

/-- 'rollbooklaw30.SealRanges': WHATEVER THE INPUT: true; the input reads as it did. -/
def sealRangesSpec : ChangeSpec := { name := "sealRanges", fn := fun _ => fun
  | [d1, d2] => { results := [.lit (.bool true)], args := [d1, d2] }
  | _ => none }
def sealRangesRow : OpenClaim := { program := "ytfncpofcgalllaa", sum := "c79b05d299ce77584c8646b0d9fa9d7cc54010da73e348dfae086ee468430e78", func := "rollbook/rollbooklaw30.SealRanges", spec := "sealRanges", unfollowed := true, recurses := true, plainKeys := false, apart := false }
def SealRangesSaid : Prop := sealRangesRow.holds Try.pinned (OpenSpec.ofChange sealRangesSpec)

/-- ITS FALSE NEIGHBOUR: 'it returns false'. Refute it at one input. -/
def sealRangesWrong : ChangeSpec := { name := "sealRanges", fn := fun _ => fun
  | [d1, d2] => { results := [.lit (.bool false)], args := [d1, d2] }
  | _ => none }
def SealRangesWrongFalsely : Prop := sealRangesRow.holds Try.pinned (OpenSpec.ofChange sealRangesWrong)

/-- 'rollbooklaw30.SealChanges': WHATEVER THE INPUT: true; the input reads as it did. -/
def sealChangesSpec : ChangeSpec := { name := "sealChanges", fn := fun _ => fun
  | [d1, d2, d3, d4] => { results := [.lit (.bool true)], args := [d1, d2, d3, d4] }
  | _ => none }
def sealChangesRow : OpenClaim := { program := "ytfncpofcgalllaa", sum := "c79b05d299ce77584c8646b0d9fa9d7cc54010da73e348dfae086ee468430e78", func := "rollbook/rollbooklaw30.SealChanges", spec := "sealChanges", unfollowed := true, recurses := true, plainKeys := false, apart := false }
def SealChangesSaid : Prop := sealChangesRow.holds Try.pinned (OpenSpec.ofChange sealChangesSpec)

/-- ITS FALSE NEIGHBOUR: 'it returns false'. Refute it at one input. -/
def sealChangesWrong : ChangeSpec := { name := "sealChanges", fn := fun _ => fun
  | [d1, d2, d3, d4] => { results := [.lit (.bool false)], args := [d1, d2, d3, d4] }
  | _ => none }
def SealChangesWrongFalsely : Prop := sealChangesRow.holds Try.pinned (OpenSpec.ofChange sealChangesWrong)

/-- 'rollbooklaw30.SealParts': WHATEVER THE INPUT: true; the input reads as it did. -/
def sealPartsSpec : ChangeSpec := { name := "sealParts", fn := fun _ => fun
  | [d1, d2, d3] => { results := [.lit (.bool true)], args := [d1, d2, d3] }
  | _ => none }
def sealPartsRow : OpenClaim := { program := "ytfncpofcgalllaa", sum := "c79b05d299ce77584c8646b0d9fa9d7cc54010da73e348dfae086ee468430e78", func := "rollbook/rollbooklaw30.SealParts", spec := "sealParts", unfollowed := true, recurses := true, plainKeys := false, apart := false }
def SealPartsSaid : Prop := sealPartsRow.holds Try.pinned (OpenSpec.ofChange sealPartsSpec)

/-- ITS FALSE NEIGHBOUR: 'it returns false'. Refute it at one input. -/
def sealPartsWrong : ChangeSpec := { name := "sealParts", fn := fun _ => fun
  | [d1, d2, d3] => { results := [.lit (.bool false)], args := [d1, d2, d3] }
  | _ => none }
def SealPartsWrongFalsely : Prop := sealPartsRow.holds Try.pinned (OpenSpec.ofChange sealPartsWrong)

/-- 'rollbooklaw30.SealRemoves': WHATEVER THE INPUT: true; the input reads as it did. -/
def sealRemovesSpec : ChangeSpec := { name := "sealRemoves", fn := fun _ => fun
  | [d1, d2, d3, d4] => { results := [.lit (.bool true)], args := [d1, d2, d3, d4] }
  | _ => none }
def sealRemovesRow : OpenClaim := { program := "ytfncpofcgalllaa", sum := "c79b05d299ce77584c8646b0d9fa9d7cc54010da73e348dfae086ee468430e78", func := "rollbook/rollbooklaw30.SealRemoves", spec := "sealRemoves", unfollowed := true, recurses := true, plainKeys := false, apart := false }
def SealRemovesSaid : Prop := sealRemovesRow.holds Try.pinned (OpenSpec.ofChange sealRemovesSpec)

/-- ITS FALSE NEIGHBOUR: 'it returns false'. Refute it at one input. -/
def sealRemovesWrong : ChangeSpec := { name := "sealRemoves", fn := fun _ => fun
  | [d1, d2, d3, d4] => { results := [.lit (.bool false)], args := [d1, d2, d3, d4] }
  | _ => none }
def SealRemovesWrongFalsely : Prop := sealRemovesRow.holds Try.pinned (OpenSpec.ofChange sealRemovesWrong)

/- THE SECOND FORM. 'bulk': how many values and letters a reading holds, each counted each time it is reached (what is shared counts as often as it is met; a slice's spare places count too). A statement '..UptoSaid' is the law's where the arguments, and the package variables that the reading takes, are together of bulk at most 1048576: NARROWER than '..Said'. Prove '..Said' where nothing that the law and all that it calls make is longer than what came in: it says more and counts as full. Else prove '..UptoSaid'. A law counts once. -/
mutual
def uptoBulk {H : Type} : DataW H → Nat
  | .lit (.string bytes) => bytes.length + 1
  | .lit _ => 1
  | .nil => 1
  | .ptr d => uptoBulk d + 1
  | .slice elems spare => uptoBulkAll elems + uptoBulkAll spare + 1
  | .agg parts => uptoBulkAll parts + 1
  | .iface _ d => uptoBulk d + 1
  | .map entries => uptoBulkEntries entries + 1
  | .held _ => 1
def uptoBulkAll {H : Type} : List (DataW H) → Nat
  | [] => 0
  | d :: r => uptoBulk d + uptoBulkAll r
def uptoBulkEntries {H : Type} : List (Lit × DataW H) → Nat
  | [] => 0
  | x :: r => uptoBulkEntry x + uptoBulkEntries r
def uptoBulkEntry {H : Type} : Lit × DataW H → Nat
  | (.string bytes, d) => bytes.length + uptoBulk d + 1
  | (_, d) => uptoBulk d + 1
 end
def uptoSmall : (H : Type) → List (DataW H) → Bool := fun _ ds => decide (uptoBulkAll ds ≤ 1048576)
def OpenSpec.upto (s : _root_.Go.ChangeSpec) : _root_.Go.OpenSpec := { _root_.Go.OpenSpec.ofChange s with cond := some uptoSmall }

/-- 'rollbooklaw30.SealChecks', WHERE WHAT IT READS IS OF BULK AT MOST 1048576: true; the input reads as it did. -/
def sealChecksUptoRow : OpenClaim := { program := "ytfncpofcgalllaa", sum := "c79b05d299ce77584c8646b0d9fa9d7cc54010da73e348dfae086ee468430e78", func := "rollbook/rollbooklaw30.SealChecks", spec := "sealChecks", unfollowed := true, recurses := true, plainKeys := false, apart := false, narrowed := true }
def SealChecksUptoSaid : Prop := sealChecksUptoRow.holds Try.pinned (OpenSpec.upto sealChecksSpec)

/-- 'rollbooklaw30.SealSees', WHERE WHAT IT READS IS OF BULK AT MOST 1048576: true; the input reads as it did. -/
def sealSeesUptoRow : OpenClaim := { program := "ytfncpofcgalllaa", sum := "c79b05d299ce77584c8646b0d9fa9d7cc54010da73e348dfae086ee468430e78", func := "rollbook/rollbooklaw30.SealSees", spec := "sealSees", unfollowed := true, recurses := true, plainKeys := false, apart := false, narrowed := true }
def SealSeesUptoSaid : Prop := sealSeesUptoRow.holds Try.pinned (OpenSpec.upto sealSeesSpec)

/-- 'rollbooklaw30.SealHides', WHERE WHAT IT READS IS OF BULK AT MOST 1048576: true; the input reads as it did. -/
def sealHidesUptoRow : OpenClaim := { program := "ytfncpofcgalllaa", sum := "c79b05d299ce77584c8646b0d9fa9d7cc54010da73e348dfae086ee468430e78", func := "rollbook/rollbooklaw30.SealHides", spec := "sealHides", unfollowed := true, recurses := true, plainKeys := false, apart := false, narrowed := true }
def SealHidesUptoSaid : Prop := sealHidesUptoRow.holds Try.pinned (OpenSpec.upto sealHidesSpec)

/-- 'rollbooklaw30.SealOrder', WHERE WHAT IT READS IS OF BULK AT MOST 1048576: true; the input reads as it did. -/
def sealOrderUptoRow : OpenClaim := { program := "ytfncpofcgalllaa", sum := "c79b05d299ce77584c8646b0d9fa9d7cc54010da73e348dfae086ee468430e78", func := "rollbook/rollbooklaw30.SealOrder", spec := "sealOrder", unfollowed := true, recurses := true, plainKeys := false, apart := false, narrowed := true }
def SealOrderUptoSaid : Prop := sealOrderUptoRow.holds Try.pinned (OpenSpec.upto sealOrderSpec)

/-- 'rollbooklaw30.SealElsewhere', WHERE WHAT IT READS IS OF BULK AT MOST 1048576: true; the input reads as it did. -/
def sealElsewhereUptoRow : OpenClaim := { program := "ytfncpofcgalllaa", sum := "c79b05d299ce77584c8646b0d9fa9d7cc54010da73e348dfae086ee468430e78", func := "rollbook/rollbooklaw30.SealElsewhere", spec := "sealElsewhere", unfollowed := true, recurses := true, plainKeys := false, apart := false, narrowed := true }
def SealElsewhereUptoSaid : Prop := sealElsewhereUptoRow.holds Try.pinned (OpenSpec.upto sealElsewhereSpec)

/-- 'rollbooklaw30.SealRanges', WHERE WHAT IT READS IS OF BULK AT MOST 1048576: true; the input reads as it did. -/
def sealRangesUptoRow : OpenClaim := { program := "ytfncpofcgalllaa", sum := "c79b05d299ce77584c8646b0d9fa9d7cc54010da73e348dfae086ee468430e78", func := "rollbook/rollbooklaw30.SealRanges", spec := "sealRanges", unfollowed := true, recurses := true, plainKeys := false, apart := false, narrowed := true }
def SealRangesUptoSaid : Prop := sealRangesUptoRow.holds Try.pinned (OpenSpec.upto sealRangesSpec)

/-- 'rollbooklaw30.SealChanges', WHERE WHAT IT READS IS OF BULK AT MOST 1048576: true; the input reads as it did. -/
def sealChangesUptoRow : OpenClaim := { program := "ytfncpofcgalllaa", sum := "c79b05d299ce77584c8646b0d9fa9d7cc54010da73e348dfae086ee468430e78", func := "rollbook/rollbooklaw30.SealChanges", spec := "sealChanges", unfollowed := true, recurses := true, plainKeys := false, apart := false, narrowed := true }
def SealChangesUptoSaid : Prop := sealChangesUptoRow.holds Try.pinned (OpenSpec.upto sealChangesSpec)

/-- 'rollbooklaw30.SealParts', WHERE WHAT IT READS IS OF BULK AT MOST 1048576: true; the input reads as it did. -/
def sealPartsUptoRow : OpenClaim := { program := "ytfncpofcgalllaa", sum := "c79b05d299ce77584c8646b0d9fa9d7cc54010da73e348dfae086ee468430e78", func := "rollbook/rollbooklaw30.SealParts", spec := "sealParts", unfollowed := true, recurses := true, plainKeys := false, apart := false, narrowed := true }
def SealPartsUptoSaid : Prop := sealPartsUptoRow.holds Try.pinned (OpenSpec.upto sealPartsSpec)

/-- 'rollbooklaw30.SealRemoves', WHERE WHAT IT READS IS OF BULK AT MOST 1048576: true; the input reads as it did. -/
def sealRemovesUptoRow : OpenClaim := { program := "ytfncpofcgalllaa", sum := "c79b05d299ce77584c8646b0d9fa9d7cc54010da73e348dfae086ee468430e78", func := "rollbook/rollbooklaw30.SealRemoves", spec := "sealRemoves", unfollowed := true, recurses := true, plainKeys := false, apart := false, narrowed := true }
def SealRemovesUptoSaid : Prop := sealRemovesUptoRow.holds Try.pinned (OpenSpec.upto sealRemovesSpec)

end Rows
end Go.Proofs.Ytfncpofcgalllaa
