/-
  NARROWER THAN 'FOR EVERY INPUT', by the rows' own cells (each row's printed sentence says how): GraphDependencies: laid · GraphRemoval: laid · GraphLimits: laid · GraphRelations: laid · GraphInputs: laid · GraphMatchesReference: laid.
  DERIVED. THE GIVEN ROWS OF THIS SEAT. 6 by the template 'for every input the law returns true; each argument reads behind the call as it read before'; 0 by the template 'total and deterministic' (their statements: YtgdnbfijkagodaaGreatDoorTotals.lean).
  GIVEN WITH THE SEED: the statements are not yours to turn. If you find one false, say at which input.
  Laid BY PROGRAM, IN A SANDBOX (cutbox-rows.mjs): the forced cells as the released guide's own fill.sh prints them over the translation f55b636f9ead07e9… (all of the seat's roots in one cut). By AI agents, Wed Nov 11 2026. No macro, syntax, notation, axiom, sorry.
-/
import Derived.Test.YtgdnbfijkagodaaGreatDoorChecked
import GoSem.Claim
import GoSem.ClaimJoined
import GoSem.ClaimMapViews
import Derived.JoinedTies
import Derived.KernelRfl
namespace Go.Proofs.YtgdnbfijkagodaaGreatDoor
/- THE CELL 'sum', in the pinned program and in every row, IS THE sha256 OF THE DUMP (.gsa) THAT YtgdnbfijkagodaaGreatDoorProg.lean LOADS. Nothing in Lean hashes anything: it is a label: what it is worth is what the hold of that sum in a sandbox is worth. -/
noncomputable def Tryz.pinned : Pinned := { name := "ytgdnbfijkagodaagreatdoor", sum := "f55b636f9ead07e90e3c116b5d1749a39bb774b8722c4b95d13f11835ad4f632", checked := Tryz.checked }
namespace Rows
def none {H : Type} : Left H := { results := [], args := [] }

/- WHAT THE LISTED PACKAGE-LEVEL VARIABLES READ AS WHEN THE CALL BEGINS. Each datum BY PROGRAM (the guide's laid-datum.mjs) off the statement by which the dump's own 'gosem.cut.vars' lays the variable. In a bare row this is a premise. The card (YtgdnbfijkagodaaGreatDoorCards.lean) ties it to the program's text. -/
def laid_math_bits_deBruijn32tab {H : Type} : DataW H := .agg [.lit (.int .u8 0), .lit (.int .u8 1), .lit (.int .u8 28), .lit (.int .u8 2), .lit (.int .u8 29), .lit (.int .u8 14), .lit (.int .u8 24), .lit (.int .u8 3), .lit (.int .u8 30), .lit (.int .u8 22), .lit (.int .u8 20), .lit (.int .u8 15), .lit (.int .u8 25), .lit (.int .u8 17), .lit (.int .u8 4), .lit (.int .u8 8), .lit (.int .u8 31), .lit (.int .u8 27), .lit (.int .u8 13), .lit (.int .u8 23), .lit (.int .u8 21), .lit (.int .u8 19), .lit (.int .u8 16), .lit (.int .u8 7), .lit (.int .u8 26), .lit (.int .u8 12), .lit (.int .u8 18), .lit (.int .u8 6), .lit (.int .u8 11), .lit (.int .u8 5), .lit (.int .u8 10), .lit (.int .u8 9)]
def laid_math_bits_deBruijn64tab {H : Type} : DataW H := .agg [.lit (.int .u8 0), .lit (.int .u8 1), .lit (.int .u8 56), .lit (.int .u8 2), .lit (.int .u8 57), .lit (.int .u8 49), .lit (.int .u8 28), .lit (.int .u8 3), .lit (.int .u8 61), .lit (.int .u8 58), .lit (.int .u8 42), .lit (.int .u8 50), .lit (.int .u8 38), .lit (.int .u8 29), .lit (.int .u8 17), .lit (.int .u8 4), .lit (.int .u8 62), .lit (.int .u8 47), .lit (.int .u8 59), .lit (.int .u8 36), .lit (.int .u8 45), .lit (.int .u8 43), .lit (.int .u8 51), .lit (.int .u8 22), .lit (.int .u8 53), .lit (.int .u8 39), .lit (.int .u8 33), .lit (.int .u8 30), .lit (.int .u8 24), .lit (.int .u8 18), .lit (.int .u8 12), .lit (.int .u8 5), .lit (.int .u8 63), .lit (.int .u8 55), .lit (.int .u8 48), .lit (.int .u8 27), .lit (.int .u8 60), .lit (.int .u8 41), .lit (.int .u8 37), .lit (.int .u8 16), .lit (.int .u8 46), .lit (.int .u8 35), .lit (.int .u8 44), .lit (.int .u8 21), .lit (.int .u8 52), .lit (.int .u8 32), .lit (.int .u8 23), .lit (.int .u8 11), .lit (.int .u8 54), .lit (.int .u8 26), .lit (.int .u8 40), .lit (.int .u8 15), .lit (.int .u8 34), .lit (.int .u8 20), .lit (.int .u8 31), .lit (.int .u8 10), .lit (.int .u8 25), .lit (.int .u8 14), .lit (.int .u8 19), .lit (.int .u8 9), .lit (.int .u8 13), .lit (.int .u8 8), .lit (.int .u8 7), .lit (.int .u8 6)]
def laid_internal_strconv_uint64pow10 {H : Type} : DataW H := .agg [.lit (.int .u64 1), .lit (.int .u64 10), .lit (.int .u64 100), .lit (.int .u64 1000), .lit (.int .u64 10000), .lit (.int .u64 100000), .lit (.int .u64 1000000), .lit (.int .u64 10000000), .lit (.int .u64 100000000), .lit (.int .u64 1000000000), .lit (.int .u64 10000000000), .lit (.int .u64 100000000000), .lit (.int .u64 1000000000000), .lit (.int .u64 10000000000000), .lit (.int .u64 100000000000000), .lit (.int .u64 1000000000000000), .lit (.int .u64 10000000000000000), .lit (.int .u64 100000000000000000), .lit (.int .u64 1000000000000000000), .lit (.int .u64 10000000000000000000)]

/-- 'straightedgelaw12.GraphDependencies': WHATEVER THE INPUT: true; the input reads as it did. -/
def graphDependenciesSpec : ChangeSpec := { name := "graphDependencies", fn := fun _ => fun
  | [d] => { results := [.lit (.bool true)], args := [d] }
  | _ => none }
def graphDependenciesRow : OpenClaim := { program := "ytgdnbfijkagodaagreatdoor", sum := "f55b636f9ead07e90e3c116b5d1749a39bb774b8722c4b95d13f11835ad4f632", func := "straightedge/straightedgelaw12.GraphDependencies", spec := "graphDependencies", unfollowed := true, recurses := true, named := ["internal/strconv.uint64pow10", "math/bits.deBruijn32tab", "math/bits.deBruijn64tab"], apart := false, laid := [("math/bits.deBruijn32tab", laid_math_bits_deBruijn32tab), ("math/bits.deBruijn64tab", laid_math_bits_deBruijn64tab), ("internal/strconv.uint64pow10", laid_internal_strconv_uint64pow10)] }
def GraphDependenciesSaid : Prop := graphDependenciesRow.holds Tryz.pinned (OpenSpec.ofChange graphDependenciesSpec)

/-- ITS FALSE NEIGHBOUR: 'it returns false'. Refute it at one input. -/
def graphDependenciesWrong : ChangeSpec := { name := "graphDependencies", fn := fun _ => fun
  | [d] => { results := [.lit (.bool false)], args := [d] }
  | _ => none }
def GraphDependenciesWrongFalsely : Prop := graphDependenciesRow.holds Tryz.pinned (OpenSpec.ofChange graphDependenciesWrong)

/-- 'straightedgelaw12.GraphRemoval': WHATEVER THE INPUT: true; the input reads as it did. -/
def graphRemovalSpec : ChangeSpec := { name := "graphRemoval", fn := fun _ => fun
  | [d1, d2] => { results := [.lit (.bool true)], args := [d1, d2] }
  | _ => none }
def graphRemovalRow : OpenClaim := { program := "ytgdnbfijkagodaagreatdoor", sum := "f55b636f9ead07e90e3c116b5d1749a39bb774b8722c4b95d13f11835ad4f632", func := "straightedge/straightedgelaw12.GraphRemoval", spec := "graphRemoval", unfollowed := true, recurses := true, named := ["internal/strconv.uint64pow10", "math/bits.deBruijn32tab", "math/bits.deBruijn64tab"], apart := false, laid := [("math/bits.deBruijn32tab", laid_math_bits_deBruijn32tab), ("math/bits.deBruijn64tab", laid_math_bits_deBruijn64tab), ("internal/strconv.uint64pow10", laid_internal_strconv_uint64pow10)] }
def GraphRemovalSaid : Prop := graphRemovalRow.holds Tryz.pinned (OpenSpec.ofChange graphRemovalSpec)

/-- ITS FALSE NEIGHBOUR: 'it returns false'. Refute it at one input. -/
def graphRemovalWrong : ChangeSpec := { name := "graphRemoval", fn := fun _ => fun
  | [d1, d2] => { results := [.lit (.bool false)], args := [d1, d2] }
  | _ => none }
def GraphRemovalWrongFalsely : Prop := graphRemovalRow.holds Tryz.pinned (OpenSpec.ofChange graphRemovalWrong)

/-- 'straightedgelaw12.GraphLimits': WHATEVER THE INPUT: true; the input reads as it did. -/
def graphLimitsSpec : ChangeSpec := { name := "graphLimits", fn := fun _ => fun
  | [d1, d2, d3, d4] => { results := [.lit (.bool true)], args := [d1, d2, d3, d4] }
  | _ => none }
def graphLimitsRow : OpenClaim := { program := "ytgdnbfijkagodaagreatdoor", sum := "f55b636f9ead07e90e3c116b5d1749a39bb774b8722c4b95d13f11835ad4f632", func := "straightedge/straightedgelaw12.GraphLimits", spec := "graphLimits", unfollowed := true, recurses := true, named := ["internal/strconv.uint64pow10", "math/bits.deBruijn32tab", "math/bits.deBruijn64tab"], apart := false, laid := [("math/bits.deBruijn32tab", laid_math_bits_deBruijn32tab), ("math/bits.deBruijn64tab", laid_math_bits_deBruijn64tab), ("internal/strconv.uint64pow10", laid_internal_strconv_uint64pow10)] }
def GraphLimitsSaid : Prop := graphLimitsRow.holds Tryz.pinned (OpenSpec.ofChange graphLimitsSpec)

/-- ITS FALSE NEIGHBOUR: 'it returns false'. Refute it at one input. -/
def graphLimitsWrong : ChangeSpec := { name := "graphLimits", fn := fun _ => fun
  | [d1, d2, d3, d4] => { results := [.lit (.bool false)], args := [d1, d2, d3, d4] }
  | _ => none }
def GraphLimitsWrongFalsely : Prop := graphLimitsRow.holds Tryz.pinned (OpenSpec.ofChange graphLimitsWrong)

/-- 'straightedgelaw12.GraphRelations': WHATEVER THE INPUT: true; the input reads as it did. -/
def graphRelationsSpec : ChangeSpec := { name := "graphRelations", fn := fun _ => fun
  | [d1, d2, d3] => { results := [.lit (.bool true)], args := [d1, d2, d3] }
  | _ => none }
def graphRelationsRow : OpenClaim := { program := "ytgdnbfijkagodaagreatdoor", sum := "f55b636f9ead07e90e3c116b5d1749a39bb774b8722c4b95d13f11835ad4f632", func := "straightedge/straightedgelaw12.GraphRelations", spec := "graphRelations", unfollowed := true, recurses := true, named := ["internal/strconv.uint64pow10", "math/bits.deBruijn32tab", "math/bits.deBruijn64tab"], apart := false, laid := [("math/bits.deBruijn32tab", laid_math_bits_deBruijn32tab), ("math/bits.deBruijn64tab", laid_math_bits_deBruijn64tab), ("internal/strconv.uint64pow10", laid_internal_strconv_uint64pow10)] }
def GraphRelationsSaid : Prop := graphRelationsRow.holds Tryz.pinned (OpenSpec.ofChange graphRelationsSpec)

/-- ITS FALSE NEIGHBOUR: 'it returns false'. Refute it at one input. -/
def graphRelationsWrong : ChangeSpec := { name := "graphRelations", fn := fun _ => fun
  | [d1, d2, d3] => { results := [.lit (.bool false)], args := [d1, d2, d3] }
  | _ => none }
def GraphRelationsWrongFalsely : Prop := graphRelationsRow.holds Tryz.pinned (OpenSpec.ofChange graphRelationsWrong)

/-- 'straightedgelaw12.GraphInputs': WHATEVER THE INPUT: true; the input reads as it did. -/
def graphInputsSpec : ChangeSpec := { name := "graphInputs", fn := fun _ => fun
  | [d] => { results := [.lit (.bool true)], args := [d] }
  | _ => none }
def graphInputsRow : OpenClaim := { program := "ytgdnbfijkagodaagreatdoor", sum := "f55b636f9ead07e90e3c116b5d1749a39bb774b8722c4b95d13f11835ad4f632", func := "straightedge/straightedgelaw12.GraphInputs", spec := "graphInputs", unfollowed := true, recurses := true, named := ["internal/strconv.uint64pow10", "math/bits.deBruijn32tab", "math/bits.deBruijn64tab"], apart := false, laid := [("math/bits.deBruijn32tab", laid_math_bits_deBruijn32tab), ("math/bits.deBruijn64tab", laid_math_bits_deBruijn64tab), ("internal/strconv.uint64pow10", laid_internal_strconv_uint64pow10)] }
def GraphInputsSaid : Prop := graphInputsRow.holds Tryz.pinned (OpenSpec.ofChange graphInputsSpec)

/-- ITS FALSE NEIGHBOUR: 'it returns false'. Refute it at one input. -/
def graphInputsWrong : ChangeSpec := { name := "graphInputs", fn := fun _ => fun
  | [d] => { results := [.lit (.bool false)], args := [d] }
  | _ => none }
def GraphInputsWrongFalsely : Prop := graphInputsRow.holds Tryz.pinned (OpenSpec.ofChange graphInputsWrong)

/-- 'straightedgelaw12.GraphMatchesReference': WHATEVER THE INPUT: true; the input reads as it did. -/
def graphMatchesReferenceSpec : ChangeSpec := { name := "graphMatchesReference", fn := fun _ => fun
  | [d1, d2, d3, d4, d5, d6] => { results := [.lit (.bool true)], args := [d1, d2, d3, d4, d5, d6] }
  | _ => none }
def graphMatchesReferenceRow : OpenClaim := { program := "ytgdnbfijkagodaagreatdoor", sum := "f55b636f9ead07e90e3c116b5d1749a39bb774b8722c4b95d13f11835ad4f632", func := "straightedge/straightedgelaw12.GraphMatchesReference", spec := "graphMatchesReference", unfollowed := true, recurses := true, named := ["internal/strconv.uint64pow10", "math/bits.deBruijn32tab", "math/bits.deBruijn64tab"], apart := false, laid := [("math/bits.deBruijn32tab", laid_math_bits_deBruijn32tab), ("math/bits.deBruijn64tab", laid_math_bits_deBruijn64tab), ("internal/strconv.uint64pow10", laid_internal_strconv_uint64pow10)] }
def GraphMatchesReferenceSaid : Prop := graphMatchesReferenceRow.holds Tryz.pinned (OpenSpec.ofChange graphMatchesReferenceSpec)

/-- ITS FALSE NEIGHBOUR: 'it returns false'. Refute it at one input. -/
def graphMatchesReferenceWrong : ChangeSpec := { name := "graphMatchesReference", fn := fun _ => fun
  | [d1, d2, d3, d4, d5, d6] => { results := [.lit (.bool false)], args := [d1, d2, d3, d4, d5, d6] }
  | _ => none }
def GraphMatchesReferenceWrongFalsely : Prop := graphMatchesReferenceRow.holds Tryz.pinned (OpenSpec.ofChange graphMatchesReferenceWrong)

/- THE SECOND FORM. 'bulk': how many values and letters a reading holds, each counted each time it is reached (what is shared counts as often as it is met; a slice's spare places count too). A statement '..UptoSaid' is the law's where the arguments, and the package variables that the reading takes, are together of bulk at most 1048576: NARROWER than '..Said'. Prove '..Said' where nothing that the law and all that it calls make is longer than what came in: it says more and counts as full. Else prove '..UptoSaid'. A law counts once. -/
mutual
def uptoBulk {H : Type} : DataW H → Nat
  | .lit (.string bytes) => bytes.length + 1
  | .lit _ => 1
  | .nil => 1
  | .ptr d => uptoBulk d + 1
  | .slice elems spare => uptoBulkAll elems + uptoBulkAll spare + 1
  | .agg parts => uptoBulkAll parts + 1
  | .iface _ d => uptoBulk d + 1
  | .map entries => uptoBulkEntries entries + 1
  | .held _ => 1
def uptoBulkAll {H : Type} : List (DataW H) → Nat
  | [] => 0
  | d :: r => uptoBulk d + uptoBulkAll r
def uptoBulkEntries {H : Type} : List (Lit × DataW H) → Nat
  | [] => 0
  | x :: r => uptoBulkEntry x + uptoBulkEntries r
def uptoBulkEntry {H : Type} : Lit × DataW H → Nat
  | (.string bytes, d) => bytes.length + uptoBulk d + 1
  | (_, d) => uptoBulk d + 1
 end
def uptoSmall : (H : Type) → List (DataW H) → Bool := fun _ ds => decide (uptoBulkAll ds ≤ 1048576)
def OpenSpec.upto (s : _root_.Go.ChangeSpec) : _root_.Go.OpenSpec := { _root_.Go.OpenSpec.ofChange s with cond := some uptoSmall }

/-- 'straightedgelaw12.GraphDependencies', WHERE WHAT IT READS IS OF BULK AT MOST 1048576: true; the input reads as it did. -/
def graphDependenciesUptoRow : OpenClaim := { program := "ytgdnbfijkagodaagreatdoor", sum := "f55b636f9ead07e90e3c116b5d1749a39bb774b8722c4b95d13f11835ad4f632", func := "straightedge/straightedgelaw12.GraphDependencies", spec := "graphDependencies", unfollowed := true, recurses := true, named := ["internal/strconv.uint64pow10", "math/bits.deBruijn32tab", "math/bits.deBruijn64tab"], apart := false, laid := [("math/bits.deBruijn32tab", laid_math_bits_deBruijn32tab), ("math/bits.deBruijn64tab", laid_math_bits_deBruijn64tab), ("internal/strconv.uint64pow10", laid_internal_strconv_uint64pow10)], narrowed := true }
def GraphDependenciesUptoSaid : Prop := graphDependenciesUptoRow.holds Tryz.pinned (OpenSpec.upto graphDependenciesSpec)

/-- 'straightedgelaw12.GraphRemoval', WHERE WHAT IT READS IS OF BULK AT MOST 1048576: true; the input reads as it did. -/
def graphRemovalUptoRow : OpenClaim := { program := "ytgdnbfijkagodaagreatdoor", sum := "f55b636f9ead07e90e3c116b5d1749a39bb774b8722c4b95d13f11835ad4f632", func := "straightedge/straightedgelaw12.GraphRemoval", spec := "graphRemoval", unfollowed := true, recurses := true, named := ["internal/strconv.uint64pow10", "math/bits.deBruijn32tab", "math/bits.deBruijn64tab"], apart := false, laid := [("math/bits.deBruijn32tab", laid_math_bits_deBruijn32tab), ("math/bits.deBruijn64tab", laid_math_bits_deBruijn64tab), ("internal/strconv.uint64pow10", laid_internal_strconv_uint64pow10)], narrowed := true }
def GraphRemovalUptoSaid : Prop := graphRemovalUptoRow.holds Tryz.pinned (OpenSpec.upto graphRemovalSpec)

/-- 'straightedgelaw12.GraphLimits', WHERE WHAT IT READS IS OF BULK AT MOST 1048576: true; the input reads as it did. -/
def graphLimitsUptoRow : OpenClaim := { program := "ytgdnbfijkagodaagreatdoor", sum := "f55b636f9ead07e90e3c116b5d1749a39bb774b8722c4b95d13f11835ad4f632", func := "straightedge/straightedgelaw12.GraphLimits", spec := "graphLimits", unfollowed := true, recurses := true, named := ["internal/strconv.uint64pow10", "math/bits.deBruijn32tab", "math/bits.deBruijn64tab"], apart := false, laid := [("math/bits.deBruijn32tab", laid_math_bits_deBruijn32tab), ("math/bits.deBruijn64tab", laid_math_bits_deBruijn64tab), ("internal/strconv.uint64pow10", laid_internal_strconv_uint64pow10)], narrowed := true }
def GraphLimitsUptoSaid : Prop := graphLimitsUptoRow.holds Tryz.pinned (OpenSpec.upto graphLimitsSpec)

/-- 'straightedgelaw12.GraphRelations', WHERE WHAT IT READS IS OF BULK AT MOST 1048576: true; the input reads as it did. -/
def graphRelationsUptoRow : OpenClaim := { program := "ytgdnbfijkagodaagreatdoor", sum := "f55b636f9ead07e90e3c116b5d1749a39bb774b8722c4b95d13f11835ad4f632", func := "straightedge/straightedgelaw12.GraphRelations", spec := "graphRelations", unfollowed := true, recurses := true, named := ["internal/strconv.uint64pow10", "math/bits.deBruijn32tab", "math/bits.deBruijn64tab"], apart := false, laid := [("math/bits.deBruijn32tab", laid_math_bits_deBruijn32tab), ("math/bits.deBruijn64tab", laid_math_bits_deBruijn64tab), ("internal/strconv.uint64pow10", laid_internal_strconv_uint64pow10)], narrowed := true }
def GraphRelationsUptoSaid : Prop := graphRelationsUptoRow.holds Tryz.pinned (OpenSpec.upto graphRelationsSpec)

/-- 'straightedgelaw12.GraphInputs', WHERE WHAT IT READS IS OF BULK AT MOST 1048576: true; the input reads as it did. -/
def graphInputsUptoRow : OpenClaim := { program := "ytgdnbfijkagodaagreatdoor", sum := "f55b636f9ead07e90e3c116b5d1749a39bb774b8722c4b95d13f11835ad4f632", func := "straightedge/straightedgelaw12.GraphInputs", spec := "graphInputs", unfollowed := true, recurses := true, named := ["internal/strconv.uint64pow10", "math/bits.deBruijn32tab", "math/bits.deBruijn64tab"], apart := false, laid := [("math/bits.deBruijn32tab", laid_math_bits_deBruijn32tab), ("math/bits.deBruijn64tab", laid_math_bits_deBruijn64tab), ("internal/strconv.uint64pow10", laid_internal_strconv_uint64pow10)], narrowed := true }
def GraphInputsUptoSaid : Prop := graphInputsUptoRow.holds Tryz.pinned (OpenSpec.upto graphInputsSpec)

/-- 'straightedgelaw12.GraphMatchesReference', WHERE WHAT IT READS IS OF BULK AT MOST 1048576: true; the input reads as it did. -/
def graphMatchesReferenceUptoRow : OpenClaim := { program := "ytgdnbfijkagodaagreatdoor", sum := "f55b636f9ead07e90e3c116b5d1749a39bb774b8722c4b95d13f11835ad4f632", func := "straightedge/straightedgelaw12.GraphMatchesReference", spec := "graphMatchesReference", unfollowed := true, recurses := true, named := ["internal/strconv.uint64pow10", "math/bits.deBruijn32tab", "math/bits.deBruijn64tab"], apart := false, laid := [("math/bits.deBruijn32tab", laid_math_bits_deBruijn32tab), ("math/bits.deBruijn64tab", laid_math_bits_deBruijn64tab), ("internal/strconv.uint64pow10", laid_internal_strconv_uint64pow10)], narrowed := true }
def GraphMatchesReferenceUptoSaid : Prop := graphMatchesReferenceUptoRow.holds Tryz.pinned (OpenSpec.upto graphMatchesReferenceSpec)

end Rows
end Go.Proofs.YtgdnbfijkagodaaGreatDoor
