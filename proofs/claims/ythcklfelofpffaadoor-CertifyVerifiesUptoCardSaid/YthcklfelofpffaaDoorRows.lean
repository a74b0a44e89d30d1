/-
  NARROWER THAN 'FOR EVERY INPUT', by the rows' own cells (each row's printed sentence says how): CertifyLeaves: laid · CertifyAdds: laid · CertifyIncludes: laid · CertifyProofs: laid · CertifyVerifies: laid · CertifyGrows: laid · CertifyEncodes: laid.
  DERIVED. THE GIVEN ROWS OF THIS SEAT. 7 by the template 'for every input the law returns true; each argument reads behind the call as it read before'; 0 by the template 'total and deterministic' (their statements: YthcklfelofpffaaDoorTotals.lean).
  GIVEN WITH THE SEED: the statements are not yours to turn. If you find one false, say at which input.
  Laid BY PROGRAM, IN A SANDBOX (cutbox-rows.mjs): the forced cells as the released guide's own fill.sh prints them over the translation 2290f305a8928a7d… (all of the seat's roots in one cut). By AI agents, Wed Nov 11 2026. No macro, syntax, notation, axiom, sorry.
-/
import Derived.Test.YthcklfelofpffaaDoorChecked
import GoSem.Claim
import GoSem.ClaimJoined
import GoSem.ClaimMapViews
import Derived.JoinedTies
import Derived.KernelRfl
namespace Go.Proofs.YthcklfelofpffaaDoor
/- THE CELL 'sum', in the pinned program and in every row, IS THE sha256 OF THE DUMP (.gsa) THAT YthcklfelofpffaaDoorProg.lean LOADS. Nothing in Lean hashes anything: it is a label: what it is worth is what the hold of that sum in a sandbox is worth. -/
noncomputable def Tryd.pinned : Pinned := { name := "ythcklfelofpffaadoor", sum := "2290f305a8928a7de28595fa1bc3c01983c1477d2964ee65a06d2817a8a88270", checked := Tryd.checked }
namespace Rows
def none {H : Type} : Left H := { results := [], args := [] }

/- WHAT THE LISTED PACKAGE-LEVEL VARIABLES READ AS WHEN THE CALL BEGINS. Each datum BY PROGRAM (the guide's laid-datum.mjs) off the statement by which the dump's own 'gosem.cut.vars' lays the variable. In a bare row this is a premise. The card (YthcklfelofpffaaDoorCards.lean) ties it to the program's text. -/
def laid_rollbook_digest_rounds {H : Type} : DataW H := .agg [.lit (.int .u32 1116352408), .lit (.int .u32 1899447441), .lit (.int .u32 3049323471), .lit (.int .u32 3921009573), .lit (.int .u32 961987163), .lit (.int .u32 1508970993), .lit (.int .u32 2453635748), .lit (.int .u32 2870763221), .lit (.int .u32 3624381080), .lit (.int .u32 310598401), .lit (.int .u32 607225278), .lit (.int .u32 1426881987), .lit (.int .u32 1925078388), .lit (.int .u32 2162078206), .lit (.int .u32 2614888103), .lit (.int .u32 3248222580), .lit (.int .u32 3835390401), .lit (.int .u32 4022224774), .lit (.int .u32 264347078), .lit (.int .u32 604807628), .lit (.int .u32 770255983), .lit (.int .u32 1249150122), .lit (.int .u32 1555081692), .lit (.int .u32 1996064986), .lit (.int .u32 2554220882), .lit (.int .u32 2821834349), .lit (.int .u32 2952996808), .lit (.int .u32 3210313671), .lit (.int .u32 3336571891), .lit (.int .u32 3584528711), .lit (.int .u32 113926993), .lit (.int .u32 338241895), .lit (.int .u32 666307205), .lit (.int .u32 773529912), .lit (.int .u32 1294757372), .lit (.int .u32 1396182291), .lit (.int .u32 1695183700), .lit (.int .u32 1986661051), .lit (.int .u32 2177026350), .lit (.int .u32 2456956037), .lit (.int .u32 2730485921), .lit (.int .u32 2820302411), .lit (.int .u32 3259730800), .lit (.int .u32 3345764771), .lit (.int .u32 3516065817), .lit (.int .u32 3600352804), .lit (.int .u32 4094571909), .lit (.int .u32 275423344), .lit (.int .u32 430227734), .lit (.int .u32 506948616), .lit (.int .u32 659060556), .lit (.int .u32 883997877), .lit (.int .u32 958139571), .lit (.int .u32 1322822218), .lit (.int .u32 1537002063), .lit (.int .u32 1747873779), .lit (.int .u32 1955562222), .lit (.int .u32 2024104815), .lit (.int .u32 2227730452), .lit (.int .u32 2361852424), .lit (.int .u32 2428436474), .lit (.int .u32 2756734187), .lit (.int .u32 3204031479), .lit (.int .u32 3329325298)]

/-- 'rollbooklaw34.CertifyLeaves': WHATEVER THE INPUT: true; the input reads as it did. -/
def certifyLeavesSpec : ChangeSpec := { name := "certifyLeaves", fn := fun _ => fun
  | [d1, d2, d3] => { results := [.lit (.bool true)], args := [d1, d2, d3] }
  | _ => none }
def certifyLeavesRow : OpenClaim := { program := "ythcklfelofpffaadoor", sum := "2290f305a8928a7de28595fa1bc3c01983c1477d2964ee65a06d2817a8a88270", func := "rollbook/rollbooklaw34.CertifyLeaves", spec := "certifyLeaves", unfollowed := true, recurses := true, named := ["rollbook/digest.rounds"], apart := false, laid := [("rollbook/digest.rounds", laid_rollbook_digest_rounds)] }
def CertifyLeavesSaid : Prop := certifyLeavesRow.holds Tryd.pinned (OpenSpec.ofChange certifyLeavesSpec)

/-- ITS FALSE NEIGHBOUR: 'it returns false'. Refute it at one input. -/
def certifyLeavesWrong : ChangeSpec := { name := "certifyLeaves", fn := fun _ => fun
  | [d1, d2, d3] => { results := [.lit (.bool false)], args := [d1, d2, d3] }
  | _ => none }
def CertifyLeavesWrongFalsely : Prop := certifyLeavesRow.holds Tryd.pinned (OpenSpec.ofChange certifyLeavesWrong)

/-- 'rollbooklaw34.CertifyAdds': WHATEVER THE INPUT: true; the input reads as it did. -/
def certifyAddsSpec : ChangeSpec := { name := "certifyAdds", fn := fun _ => fun
  | [d1, d2] => { results := [.lit (.bool true)], args := [d1, d2] }
  | _ => none }
def certifyAddsRow : OpenClaim := { program := "ythcklfelofpffaadoor", sum := "2290f305a8928a7de28595fa1bc3c01983c1477d2964ee65a06d2817a8a88270", func := "rollbook/rollbooklaw34.CertifyAdds", spec := "certifyAdds", unfollowed := true, recurses := true, named := ["rollbook/digest.rounds"], apart := false, laid := [("rollbook/digest.rounds", laid_rollbook_digest_rounds)] }
def CertifyAddsSaid : Prop := certifyAddsRow.holds Tryd.pinned (OpenSpec.ofChange certifyAddsSpec)

/-- ITS FALSE NEIGHBOUR: 'it returns false'. Refute it at one input. -/
def certifyAddsWrong : ChangeSpec := { name := "certifyAdds", fn := fun _ => fun
  | [d1, d2] => { results := [.lit (.bool false)], args := [d1, d2] }
  | _ => none }
def CertifyAddsWrongFalsely : Prop := certifyAddsRow.holds Tryd.pinned (OpenSpec.ofChange certifyAddsWrong)

/-- 'rollbooklaw34.CertifyIncludes': WHATEVER THE INPUT: true; the input reads as it did. -/
def certifyIncludesSpec : ChangeSpec := { name := "certifyIncludes", fn := fun _ => fun
  | [d1, d2, d3] => { results := [.lit (.bool true)], args := [d1, d2, d3] }
  | _ => none }
def certifyIncludesRow : OpenClaim := { program := "ythcklfelofpffaadoor", sum := "2290f305a8928a7de28595fa1bc3c01983c1477d2964ee65a06d2817a8a88270", func := "rollbook/rollbooklaw34.CertifyIncludes", spec := "certifyIncludes", unfollowed := true, recurses := true, named := ["rollbook/digest.rounds"], apart := false, laid := [("rollbook/digest.rounds", laid_rollbook_digest_rounds)] }
def CertifyIncludesSaid : Prop := certifyIncludesRow.holds Tryd.pinned (OpenSpec.ofChange certifyIncludesSpec)

/-- ITS FALSE NEIGHBOUR: 'it returns false'. Refute it at one input. -/
def certifyIncludesWrong : ChangeSpec := { name := "certifyIncludes", fn := fun _ => fun
  | [d1, d2, d3] => { results := [.lit (.bool false)], args := [d1, d2, d3] }
  | _ => none }
def CertifyIncludesWrongFalsely : Prop := certifyIncludesRow.holds Tryd.pinned (OpenSpec.ofChange certifyIncludesWrong)

/-- 'rollbooklaw34.CertifyProofs': WHATEVER THE INPUT: true; the input reads as it did. -/
def certifyProofsSpec : ChangeSpec := { name := "certifyProofs", fn := fun _ => fun
  | [d1, d2, d3] => { results := [.lit (.bool true)], args := [d1, d2, d3] }
  | _ => none }
def certifyProofsRow : OpenClaim := { program := "ythcklfelofpffaadoor", sum := "2290f305a8928a7de28595fa1bc3c01983c1477d2964ee65a06d2817a8a88270", func := "rollbook/rollbooklaw34.CertifyProofs", spec := "certifyProofs", unfollowed := true, recurses := true, named := ["rollbook/digest.rounds"], apart := false, laid := [("rollbook/digest.rounds", laid_rollbook_digest_rounds)] }
def CertifyProofsSaid : Prop := certifyProofsRow.holds Tryd.pinned (OpenSpec.ofChange certifyProofsSpec)

/-- ITS FALSE NEIGHBOUR: 'it returns false'. Refute it at one input. -/
def certifyProofsWrong : ChangeSpec := { name := "certifyProofs", fn := fun _ => fun
  | [d1, d2, d3] => { results := [.lit (.bool false)], args := [d1, d2, d3] }
  | _ => none }
def CertifyProofsWrongFalsely : Prop := certifyProofsRow.holds Tryd.pinned (OpenSpec.ofChange certifyProofsWrong)

/-- 'rollbooklaw34.CertifyVerifies': WHATEVER THE INPUT: true; the input reads as it did. -/
def certifyVerifiesSpec : ChangeSpec := { name := "certifyVerifies", fn := fun _ => fun
  | [d1, d2, d3, d4, d5, d6, d7] => { results := [.lit (.bool true)], args := [d1, d2, d3, d4, d5, d6, d7] }
  | _ => none }
def certifyVerifiesRow : OpenClaim := { program := "ythcklfelofpffaadoor", sum := "2290f305a8928a7de28595fa1bc3c01983c1477d2964ee65a06d2817a8a88270", func := "rollbook/rollbooklaw34.CertifyVerifies", spec := "certifyVerifies", unfollowed := true, recurses := true, named := ["rollbook/digest.rounds"], apart := false, laid := [("rollbook/digest.rounds", laid_rollbook_digest_rounds)] }
def CertifyVerifiesSaid : Prop := certifyVerifiesRow.holds Tryd.pinned (OpenSpec.ofChange certifyVerifiesSpec)

/-- ITS FALSE NEIGHBOUR: 'it returns false'. Refute it at one input. -/
def certifyVerifiesWrong : ChangeSpec := { name := "certifyVerifies", fn := fun _ => fun
  | [d1, d2, d3, d4, d5, d6, d7] => { results := [.lit (.bool false)], args := [d1, d2, d3, d4, d5, d6, d7] }
  | _ => none }
def CertifyVerifiesWrongFalsely : Prop := certifyVerifiesRow.holds Tryd.pinned (OpenSpec.ofChange certifyVerifiesWrong)

/-- 'rollbooklaw34.CertifyGrows': WHATEVER THE INPUT: true; the input reads as it did. -/
def certifyGrowsSpec : ChangeSpec := { name := "certifyGrows", fn := fun _ => fun
  | [d1, d2] => { results := [.lit (.bool true)], args := [d1, d2] }
  | _ => none }
def certifyGrowsRow : OpenClaim := { program := "ythcklfelofpffaadoor", sum := "2290f305a8928a7de28595fa1bc3c01983c1477d2964ee65a06d2817a8a88270", func := "rollbook/rollbooklaw34.CertifyGrows", spec := "certifyGrows", unfollowed := true, recurses := true, named := ["rollbook/digest.rounds"], apart := false, laid := [("rollbook/digest.rounds", laid_rollbook_digest_rounds)] }
def CertifyGrowsSaid : Prop := certifyGrowsRow.holds Tryd.pinned (OpenSpec.ofChange certifyGrowsSpec)

/-- ITS FALSE NEIGHBOUR: 'it returns false'. Refute it at one input. -/
def certifyGrowsWrong : ChangeSpec := { name := "certifyGrows", fn := fun _ => fun
  | [d1, d2] => { results := [.lit (.bool false)], args := [d1, d2] }
  | _ => none }
def CertifyGrowsWrongFalsely : Prop := certifyGrowsRow.holds Tryd.pinned (OpenSpec.ofChange certifyGrowsWrong)

/-- 'rollbooklaw34.CertifyEncodes': WHATEVER THE INPUT: true; the input reads as it did. -/
def certifyEncodesSpec : ChangeSpec := { name := "certifyEncodes", fn := fun _ => fun
  | [d1, d2] => { results := [.lit (.bool true)], args := [d1, d2] }
  | _ => none }
def certifyEncodesRow : OpenClaim := { program := "ythcklfelofpffaadoor", sum := "2290f305a8928a7de28595fa1bc3c01983c1477d2964ee65a06d2817a8a88270", func := "rollbook/rollbooklaw34.CertifyEncodes", spec := "certifyEncodes", unfollowed := true, recurses := true, named := ["rollbook/digest.rounds"], apart := false, laid := [("rollbook/digest.rounds", laid_rollbook_digest_rounds)] }
def CertifyEncodesSaid : Prop := certifyEncodesRow.holds Tryd.pinned (OpenSpec.ofChange certifyEncodesSpec)

/-- ITS FALSE NEIGHBOUR: 'it returns false'. Refute it at one input. -/
def certifyEncodesWrong : ChangeSpec := { name := "certifyEncodes", fn := fun _ => fun
  | [d1, d2] => { results := [.lit (.bool false)], args := [d1, d2] }
  | _ => none }
def CertifyEncodesWrongFalsely : Prop := certifyEncodesRow.holds Tryd.pinned (OpenSpec.ofChange certifyEncodesWrong)

/- THE SECOND FORM. 'bulk': how many values and letters a reading holds, each counted each time it is reached (what is shared counts as often as it is met; a slice's spare places count too). A statement '..UptoSaid' is the law's where the arguments, and the package variables that the reading takes, are together of bulk at most 1048576: NARROWER than '..Said'. Prove '..Said' where nothing that the law and all that it calls make is longer than what came in: it says more and counts as full. Else prove '..UptoSaid'. A law counts once. -/
mutual
def uptoBulk {H : Type} : DataW H → Nat
  | .lit (.string bytes) => bytes.length + 1
  | .lit _ => 1
  | .nil => 1
  | .ptr d => uptoBulk d + 1
  | .slice elems spare => uptoBulkAll elems + uptoBulkAll spare + 1
  | .agg parts => uptoBulkAll parts + 1
  | .iface _ d => uptoBulk d + 1
  | .map entries => uptoBulkEntries entries + 1
  | .held _ => 1
def uptoBulkAll {H : Type} : List (DataW H) → Nat
  | [] => 0
  | d :: r => uptoBulk d + uptoBulkAll r
def uptoBulkEntries {H : Type} : List (Lit × DataW H) → Nat
  | [] => 0
  | x :: r => uptoBulkEntry x + uptoBulkEntries r
def uptoBulkEntry {H : Type} : Lit × DataW H → Nat
  | (.string bytes, d) => bytes.length + uptoBulk d + 1
  | (_, d) => uptoBulk d + 1
 end
def uptoSmall : (H : Type) → List (DataW H) → Bool := fun _ ds => decide (uptoBulkAll ds ≤ 1048576)
def OpenSpec.upto (s : _root_.Go.ChangeSpec) : _root_.Go.OpenSpec := { _root_.Go.OpenSpec.ofChange s with cond := some uptoSmall }

/-- 'rollbooklaw34.CertifyLeaves', WHERE WHAT IT READS IS OF BULK AT MOST 1048576: true; the input reads as it did. -/
def certifyLeavesUptoRow : OpenClaim := { program := "ythcklfelofpffaadoor", sum := "2290f305a8928a7de28595fa1bc3c01983c1477d2964ee65a06d2817a8a88270", func := "rollbook/rollbooklaw34.CertifyLeaves", spec := "certifyLeaves", unfollowed := true, recurses := true, named := ["rollbook/digest.rounds"], apart := false, laid := [("rollbook/digest.rounds", laid_rollbook_digest_rounds)], narrowed := true }
def CertifyLeavesUptoSaid : Prop := certifyLeavesUptoRow.holds Tryd.pinned (OpenSpec.upto certifyLeavesSpec)

/-- 'rollbooklaw34.CertifyAdds', WHERE WHAT IT READS IS OF BULK AT MOST 1048576: true; the input reads as it did. -/
def certifyAddsUptoRow : OpenClaim := { program := "ythcklfelofpffaadoor", sum := "2290f305a8928a7de28595fa1bc3c01983c1477d2964ee65a06d2817a8a88270", func := "rollbook/rollbooklaw34.CertifyAdds", spec := "certifyAdds", unfollowed := true, recurses := true, named := ["rollbook/digest.rounds"], apart := false, laid := [("rollbook/digest.rounds", laid_rollbook_digest_rounds)], narrowed := true }
def CertifyAddsUptoSaid : Prop := certifyAddsUptoRow.holds Tryd.pinned (OpenSpec.upto certifyAddsSpec)

/-- 'rollbooklaw34.CertifyIncludes', WHERE WHAT IT READS IS OF BULK AT MOST 1048576: true; the input reads as it did. -/
def certifyIncludesUptoRow : OpenClaim := { program := "ythcklfelofpffaadoor", sum := "2290f305a8928a7de28595fa1bc3c01983c1477d2964ee65a06d2817a8a88270", func := "rollbook/rollbooklaw34.CertifyIncludes", spec := "certifyIncludes", unfollowed := true, recurses := true, named := ["rollbook/digest.rounds"], apart := false, laid := [("rollbook/digest.rounds", laid_rollbook_digest_rounds)], narrowed := true }
def CertifyIncludesUptoSaid : Prop := certifyIncludesUptoRow.holds Tryd.pinned (OpenSpec.upto certifyIncludesSpec)

/-- 'rollbooklaw34.CertifyProofs', WHERE WHAT IT READS IS OF BULK AT MOST 1048576: true; the input reads as it did. -/
def certifyProofsUptoRow : OpenClaim := { program := "ythcklfelofpffaadoor", sum := "2290f305a8928a7de28595fa1bc3c01983c1477d2964ee65a06d2817a8a88270", func := "rollbook/rollbooklaw34.CertifyProofs", spec := "certifyProofs", unfollowed := true, recurses := true, named := ["rollbook/digest.rounds"], apart := false, laid := [("rollbook/digest.rounds", laid_rollbook_digest_rounds)], narrowed := true }
def CertifyProofsUptoSaid : Prop := certifyProofsUptoRow.holds Tryd.pinned (OpenSpec.upto certifyProofsSpec)

/-- 'rollbooklaw34.CertifyVerifies', WHERE WHAT IT READS IS OF BULK AT MOST 1048576: true; the input reads as it did. -/
def certifyVerifiesUptoRow : OpenClaim := { program := "ythcklfelofpffaadoor", sum := "2290f305a8928a7de28595fa1bc3c01983c1477d2964ee65a06d2817a8a88270", func := "rollbook/rollbooklaw34.CertifyVerifies", spec := "certifyVerifies", unfollowed := true, recurses := true, named := ["rollbook/digest.rounds"], apart := false, laid := [("rollbook/digest.rounds", laid_rollbook_digest_rounds)], narrowed := true }
def CertifyVerifiesUptoSaid : Prop := certifyVerifiesUptoRow.holds Tryd.pinned (OpenSpec.upto certifyVerifiesSpec)

/-- 'rollbooklaw34.CertifyGrows', WHERE WHAT IT READS IS OF BULK AT MOST 1048576: true; the input reads as it did. -/
def certifyGrowsUptoRow : OpenClaim := { program := "ythcklfelofpffaadoor", sum := "2290f305a8928a7de28595fa1bc3c01983c1477d2964ee65a06d2817a8a88270", func := "rollbook/rollbooklaw34.CertifyGrows", spec := "certifyGrows", unfollowed := true, recurses := true, named := ["rollbook/digest.rounds"], apart := false, laid := [("rollbook/digest.rounds", laid_rollbook_digest_rounds)], narrowed := true }
def CertifyGrowsUptoSaid : Prop := certifyGrowsUptoRow.holds Tryd.pinned (OpenSpec.upto certifyGrowsSpec)

/-- 'rollbooklaw34.CertifyEncodes', WHERE WHAT IT READS IS OF BULK AT MOST 1048576: true; the input reads as it did. -/
def certifyEncodesUptoRow : OpenClaim := { program := "ythcklfelofpffaadoor", sum := "2290f305a8928a7de28595fa1bc3c01983c1477d2964ee65a06d2817a8a88270", func := "rollbook/rollbooklaw34.CertifyEncodes", spec := "certifyEncodes", unfollowed := true, recurses := true, named := ["rollbook/digest.rounds"], apart := false, laid := [("rollbook/digest.rounds", laid_rollbook_digest_rounds)], narrowed := true }
def CertifyEncodesUptoSaid : Prop := certifyEncodesUptoRow.holds Tryd.pinned (OpenSpec.upto certifyEncodesSpec)

end Rows
end Go.Proofs.YthcklfelofpffaaDoor
