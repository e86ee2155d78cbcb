/-
  NARROWER THAN 'FOR EVERY INPUT', by the rows' own cells (each row's printed sentence says how): SlpCompiles: laid · SlpValues: laid · SlpRuns: laid · SlpTexts: laid · SlpRelates: laid · SlpIncidence: laid · SlpTwice: laid.
  DERIVED. THE GIVEN ROWS OF THIS SEAT. 7 by the template 'for every input the law returns true; each argument reads behind the call as it read before'; 0 by the template 'total and deterministic' (their statements: YtnafklimohmfkaaGreatDoorTotals.lean).
  GIVEN WITH THE SEED: the statements are not yours to turn. If you find one false, say at which input.
  Laid BY PROGRAM, IN A SANDBOX (cutbox-rows.mjs): the forced cells as the released guide's own fill.sh prints them over the translation 7189670d4739c2df… (all of the seat's roots in one cut). By AI agents, Wed Nov 11 2026. No macro, syntax, notation, axiom, sorry.
-/
import Derived.Test.YtnafklimohmfkaaGreatDoorChecked
import GoSem.Claim
import GoSem.ClaimJoined
import GoSem.ClaimMapViews
import Derived.JoinedTies
import Derived.KernelRfl
namespace Go.Proofs.YtnafklimohmfkaaGreatDoor
/- THE CELL 'sum', in the pinned program and in every row, IS THE sha256 OF THE DUMP (.gsa) THAT YtnafklimohmfkaaGreatDoorProg.lean LOADS. Nothing in Lean hashes anything: it is a label: what it is worth is what the hold of that sum in a sandbox is worth. -/
noncomputable def Tryz.pinned : Pinned := { name := "ytnafklimohmfkaagreatdoor", sum := "7189670d4739c2df30068d7943ccb60cc6549ba2c963d12251f89796fa4c5f72", checked := Tryz.checked }
namespace Rows
def none {H : Type} : Left H := { results := [], args := [] }

/- WHAT THE LISTED PACKAGE-LEVEL VARIABLES READ AS WHEN THE CALL BEGINS. Each datum BY PROGRAM (the guide's laid-datum.mjs) off the statement by which the dump's own 'gosem.cut.vars' lays the variable. In a bare row this is a premise. The card (YtnafklimohmfkaaGreatDoorCards.lean) ties it to the program's text. -/
def laid_math_bits_deBruijn32tab {H : Type} : DataW H := .agg [.lit (.int .u8 0), .lit (.int .u8 1), .lit (.int .u8 28), .lit (.int .u8 2), .lit (.int .u8 29), .lit (.int .u8 14), .lit (.int .u8 24), .lit (.int .u8 3), .lit (.int .u8 30), .lit (.int .u8 22), .lit (.int .u8 20), .lit (.int .u8 15), .lit (.int .u8 25), .lit (.int .u8 17), .lit (.int .u8 4), .lit (.int .u8 8), .lit (.int .u8 31), .lit (.int .u8 27), .lit (.int .u8 13), .lit (.int .u8 23), .lit (.int .u8 21), .lit (.int .u8 19), .lit (.int .u8 16), .lit (.int .u8 7), .lit (.int .u8 26), .lit (.int .u8 12), .lit (.int .u8 18), .lit (.int .u8 6), .lit (.int .u8 11), .lit (.int .u8 5), .lit (.int .u8 10), .lit (.int .u8 9)]
def laid_math_bits_deBruijn64tab {H : Type} : DataW H := .agg [.lit (.int .u8 0), .lit (.int .u8 1), .lit (.int .u8 56), .lit (.int .u8 2), .lit (.int .u8 57), .lit (.int .u8 49), .lit (.int .u8 28), .lit (.int .u8 3), .lit (.int .u8 61), .lit (.int .u8 58), .lit (.int .u8 42), .lit (.int .u8 50), .lit (.int .u8 38), .lit (.int .u8 29), .lit (.int .u8 17), .lit (.int .u8 4), .lit (.int .u8 62), .lit (.int .u8 47), .lit (.int .u8 59), .lit (.int .u8 36), .lit (.int .u8 45), .lit (.int .u8 43), .lit (.int .u8 51), .lit (.int .u8 22), .lit (.int .u8 53), .lit (.int .u8 39), .lit (.int .u8 33), .lit (.int .u8 30), .lit (.int .u8 24), .lit (.int .u8 18), .lit (.int .u8 12), .lit (.int .u8 5), .lit (.int .u8 63), .lit (.int .u8 55), .lit (.int .u8 48), .lit (.int .u8 27), .lit (.int .u8 60), .lit (.int .u8 41), .lit (.int .u8 37), .lit (.int .u8 16), .lit (.int .u8 46), .lit (.int .u8 35), .lit (.int .u8 44), .lit (.int .u8 21), .lit (.int .u8 52), .lit (.int .u8 32), .lit (.int .u8 23), .lit (.int .u8 11), .lit (.int .u8 54), .lit (.int .u8 26), .lit (.int .u8 40), .lit (.int .u8 15), .lit (.int .u8 34), .lit (.int .u8 20), .lit (.int .u8 31), .lit (.int .u8 10), .lit (.int .u8 25), .lit (.int .u8 14), .lit (.int .u8 19), .lit (.int .u8 9), .lit (.int .u8 13), .lit (.int .u8 8), .lit (.int .u8 7), .lit (.int .u8 6)]
def laid_internal_strconv_uint64pow10 {H : Type} : DataW H := .agg [.lit (.int .u64 1), .lit (.int .u64 10), .lit (.int .u64 100), .lit (.int .u64 1000), .lit (.int .u64 10000), .lit (.int .u64 100000), .lit (.int .u64 1000000), .lit (.int .u64 10000000), .lit (.int .u64 100000000), .lit (.int .u64 1000000000), .lit (.int .u64 10000000000), .lit (.int .u64 100000000000), .lit (.int .u64 1000000000000), .lit (.int .u64 10000000000000), .lit (.int .u64 100000000000000), .lit (.int .u64 1000000000000000), .lit (.int .u64 10000000000000000), .lit (.int .u64 100000000000000000), .lit (.int .u64 1000000000000000000), .lit (.int .u64 10000000000000000000)]
def laid_strconv_ErrRange {H : Type} : DataW H := .iface "*errors.errorString" (.ptr (.agg [.lit (.string [118, 97, 108, 117, 101, 32, 111, 117, 116, 32, 111, 102, 32, 114, 97, 110, 103, 101])]))
def laid_strconv_ErrSyntax {H : Type} : DataW H := .iface "*errors.errorString" (.ptr (.agg [.lit (.string [105, 110, 118, 97, 108, 105, 100, 32, 115, 121, 110, 116, 97, 120])]))

/-- 'straightedgelaw13.SlpCompiles': WHATEVER THE INPUT: true; the input reads as it did. -/
def slpCompilesSpec : ChangeSpec := { name := "slpCompiles", fn := fun _ => fun
  | [d] => { results := [.lit (.bool true)], args := [d] }
  | _ => none }
def slpCompilesRow : OpenClaim := { program := "ytnafklimohmfkaagreatdoor", sum := "7189670d4739c2df30068d7943ccb60cc6549ba2c963d12251f89796fa4c5f72", func := "straightedge/straightedgelaw13.SlpCompiles", spec := "slpCompiles", unfollowed := true, recurses := true, named := ["internal/strconv.uint64pow10", "math/bits.deBruijn32tab", "math/bits.deBruijn64tab", "strconv.ErrSyntax", "strconv.ErrRange"], apart := false, laid := [("math/bits.deBruijn32tab", laid_math_bits_deBruijn32tab), ("math/bits.deBruijn64tab", laid_math_bits_deBruijn64tab), ("internal/strconv.uint64pow10", laid_internal_strconv_uint64pow10), ("strconv.ErrRange", laid_strconv_ErrRange), ("strconv.ErrSyntax", laid_strconv_ErrSyntax)] }
def SlpCompilesSaid : Prop := slpCompilesRow.holds Tryz.pinned (OpenSpec.ofChange slpCompilesSpec)

/-- ITS FALSE NEIGHBOUR: 'it returns false'. Refute it at one input. -/
def slpCompilesWrong : ChangeSpec := { name := "slpCompiles", fn := fun _ => fun
  | [d] => { results := [.lit (.bool false)], args := [d] }
  | _ => none }
def SlpCompilesWrongFalsely : Prop := slpCompilesRow.holds Tryz.pinned (OpenSpec.ofChange slpCompilesWrong)

/-- 'straightedgelaw13.SlpValues': WHATEVER THE INPUT: true; the input reads as it did. -/
def slpValuesSpec : ChangeSpec := { name := "slpValues", fn := fun _ => fun
  | [d1, d2, d3] => { results := [.lit (.bool true)], args := [d1, d2, d3] }
  | _ => none }
def slpValuesRow : OpenClaim := { program := "ytnafklimohmfkaagreatdoor", sum := "7189670d4739c2df30068d7943ccb60cc6549ba2c963d12251f89796fa4c5f72", func := "straightedge/straightedgelaw13.SlpValues", spec := "slpValues", unfollowed := true, recurses := true, named := ["internal/strconv.uint64pow10", "math/bits.deBruijn32tab", "math/bits.deBruijn64tab", "strconv.ErrSyntax", "strconv.ErrRange"], apart := false, laid := [("math/bits.deBruijn32tab", laid_math_bits_deBruijn32tab), ("math/bits.deBruijn64tab", laid_math_bits_deBruijn64tab), ("internal/strconv.uint64pow10", laid_internal_strconv_uint64pow10), ("strconv.ErrRange", laid_strconv_ErrRange), ("strconv.ErrSyntax", laid_strconv_ErrSyntax)] }
def SlpValuesSaid : Prop := slpValuesRow.holds Tryz.pinned (OpenSpec.ofChange slpValuesSpec)

/-- ITS FALSE NEIGHBOUR: 'it returns false'. Refute it at one input. -/
def slpValuesWrong : ChangeSpec := { name := "slpValues", fn := fun _ => fun
  | [d1, d2, d3] => { results := [.lit (.bool false)], args := [d1, d2, d3] }
  | _ => none }
def SlpValuesWrongFalsely : Prop := slpValuesRow.holds Tryz.pinned (OpenSpec.ofChange slpValuesWrong)

/-- 'straightedgelaw13.SlpRuns': WHATEVER THE INPUT: true; the input reads as it did. -/
def slpRunsSpec : ChangeSpec := { name := "slpRuns", fn := fun _ => fun
  | [d1, d2, d3] => { results := [.lit (.bool true)], args := [d1, d2, d3] }
  | _ => none }
def slpRunsRow : OpenClaim := { program := "ytnafklimohmfkaagreatdoor", sum := "7189670d4739c2df30068d7943ccb60cc6549ba2c963d12251f89796fa4c5f72", func := "straightedge/straightedgelaw13.SlpRuns", spec := "slpRuns", unfollowed := true, recurses := true, named := ["internal/strconv.uint64pow10", "math/bits.deBruijn32tab", "math/bits.deBruijn64tab", "strconv.ErrSyntax", "strconv.ErrRange"], apart := false, laid := [("math/bits.deBruijn32tab", laid_math_bits_deBruijn32tab), ("math/bits.deBruijn64tab", laid_math_bits_deBruijn64tab), ("internal/strconv.uint64pow10", laid_internal_strconv_uint64pow10), ("strconv.ErrRange", laid_strconv_ErrRange), ("strconv.ErrSyntax", laid_strconv_ErrSyntax)] }
def SlpRunsSaid : Prop := slpRunsRow.holds Tryz.pinned (OpenSpec.ofChange slpRunsSpec)

/-- ITS FALSE NEIGHBOUR: 'it returns false'. Refute it at one input. -/
def slpRunsWrong : ChangeSpec := { name := "slpRuns", fn := fun _ => fun
  | [d1, d2, d3] => { results := [.lit (.bool false)], args := [d1, d2, d3] }
  | _ => none }
def SlpRunsWrongFalsely : Prop := slpRunsRow.holds Tryz.pinned (OpenSpec.ofChange slpRunsWrong)

/-- 'straightedgelaw13.SlpTexts': WHATEVER THE INPUT: true; the input reads as it did. -/
def slpTextsSpec : ChangeSpec := { name := "slpTexts", fn := fun _ => fun
  | [d] => { results := [.lit (.bool true)], args := [d] }
  | _ => none }
def slpTextsRow : OpenClaim := { program := "ytnafklimohmfkaagreatdoor", sum := "7189670d4739c2df30068d7943ccb60cc6549ba2c963d12251f89796fa4c5f72", func := "straightedge/straightedgelaw13.SlpTexts", spec := "slpTexts", unfollowed := true, recurses := true, named := ["internal/strconv.uint64pow10", "math/bits.deBruijn32tab", "math/bits.deBruijn64tab", "strconv.ErrSyntax", "strconv.ErrRange"], apart := false, laid := [("math/bits.deBruijn32tab", laid_math_bits_deBruijn32tab), ("math/bits.deBruijn64tab", laid_math_bits_deBruijn64tab), ("internal/strconv.uint64pow10", laid_internal_strconv_uint64pow10), ("strconv.ErrRange", laid_strconv_ErrRange), ("strconv.ErrSyntax", laid_strconv_ErrSyntax)] }
def SlpTextsSaid : Prop := slpTextsRow.holds Tryz.pinned (OpenSpec.ofChange slpTextsSpec)

/-- ITS FALSE NEIGHBOUR: 'it returns false'. Refute it at one input. -/
def slpTextsWrong : ChangeSpec := { name := "slpTexts", fn := fun _ => fun
  | [d] => { results := [.lit (.bool false)], args := [d] }
  | _ => none }
def SlpTextsWrongFalsely : Prop := slpTextsRow.holds Tryz.pinned (OpenSpec.ofChange slpTextsWrong)

/-- 'straightedgelaw13.SlpRelates': WHATEVER THE INPUT: true; the input reads as it did. -/
def slpRelatesSpec : ChangeSpec := { name := "slpRelates", fn := fun _ => fun
  | [d1, d2] => { results := [.lit (.bool true)], args := [d1, d2] }
  | _ => none }
def slpRelatesRow : OpenClaim := { program := "ytnafklimohmfkaagreatdoor", sum := "7189670d4739c2df30068d7943ccb60cc6549ba2c963d12251f89796fa4c5f72", func := "straightedge/straightedgelaw13.SlpRelates", spec := "slpRelates", unfollowed := true, recurses := true, named := ["internal/strconv.uint64pow10", "math/bits.deBruijn32tab", "math/bits.deBruijn64tab", "strconv.ErrSyntax", "strconv.ErrRange"], apart := false, laid := [("math/bits.deBruijn32tab", laid_math_bits_deBruijn32tab), ("math/bits.deBruijn64tab", laid_math_bits_deBruijn64tab), ("internal/strconv.uint64pow10", laid_internal_strconv_uint64pow10), ("strconv.ErrRange", laid_strconv_ErrRange), ("strconv.ErrSyntax", laid_strconv_ErrSyntax)] }
def SlpRelatesSaid : Prop := slpRelatesRow.holds Tryz.pinned (OpenSpec.ofChange slpRelatesSpec)

/-- ITS FALSE NEIGHBOUR: 'it returns false'. Refute it at one input. -/
def slpRelatesWrong : ChangeSpec := { name := "slpRelates", fn := fun _ => fun
  | [d1, d2] => { results := [.lit (.bool false)], args := [d1, d2] }
  | _ => none }
def SlpRelatesWrongFalsely : Prop := slpRelatesRow.holds Tryz.pinned (OpenSpec.ofChange slpRelatesWrong)

/-- 'straightedgelaw13.SlpIncidence': WHATEVER THE INPUT: true; the input reads as it did. -/
def slpIncidenceSpec : ChangeSpec := { name := "slpIncidence", fn := fun _ => fun
  | [d1, d2, d3] => { results := [.lit (.bool true)], args := [d1, d2, d3] }
  | _ => none }
def slpIncidenceRow : OpenClaim := { program := "ytnafklimohmfkaagreatdoor", sum := "7189670d4739c2df30068d7943ccb60cc6549ba2c963d12251f89796fa4c5f72", func := "straightedge/straightedgelaw13.SlpIncidence", spec := "slpIncidence", unfollowed := true, recurses := true, named := ["internal/strconv.uint64pow10", "math/bits.deBruijn32tab", "math/bits.deBruijn64tab", "strconv.ErrSyntax", "strconv.ErrRange"], apart := false, laid := [("math/bits.deBruijn32tab", laid_math_bits_deBruijn32tab), ("math/bits.deBruijn64tab", laid_math_bits_deBruijn64tab), ("internal/strconv.uint64pow10", laid_internal_strconv_uint64pow10), ("strconv.ErrRange", laid_strconv_ErrRange), ("strconv.ErrSyntax", laid_strconv_ErrSyntax)] }
def SlpIncidenceSaid : Prop := slpIncidenceRow.holds Tryz.pinned (OpenSpec.ofChange slpIncidenceSpec)

/-- ITS FALSE NEIGHBOUR: 'it returns false'. Refute it at one input. -/
def slpIncidenceWrong : ChangeSpec := { name := "slpIncidence", fn := fun _ => fun
  | [d1, d2, d3] => { results := [.lit (.bool false)], args := [d1, d2, d3] }
  | _ => none }
def SlpIncidenceWrongFalsely : Prop := slpIncidenceRow.holds Tryz.pinned (OpenSpec.ofChange slpIncidenceWrong)

/-- 'straightedgelaw13.SlpTwice': WHATEVER THE INPUT: true; the input reads as it did. -/
def slpTwiceSpec : ChangeSpec := { name := "slpTwice", fn := fun _ => fun
  | [d1, d2] => { results := [.lit (.bool true)], args := [d1, d2] }
  | _ => none }
def slpTwiceRow : OpenClaim := { program := "ytnafklimohmfkaagreatdoor", sum := "7189670d4739c2df30068d7943ccb60cc6549ba2c963d12251f89796fa4c5f72", func := "straightedge/straightedgelaw13.SlpTwice", spec := "slpTwice", unfollowed := true, recurses := true, named := ["internal/strconv.uint64pow10", "math/bits.deBruijn32tab", "math/bits.deBruijn64tab", "strconv.ErrSyntax", "strconv.ErrRange"], apart := false, laid := [("math/bits.deBruijn32tab", laid_math_bits_deBruijn32tab), ("math/bits.deBruijn64tab", laid_math_bits_deBruijn64tab), ("internal/strconv.uint64pow10", laid_internal_strconv_uint64pow10), ("strconv.ErrRange", laid_strconv_ErrRange), ("strconv.ErrSyntax", laid_strconv_ErrSyntax)] }
def SlpTwiceSaid : Prop := slpTwiceRow.holds Tryz.pinned (OpenSpec.ofChange slpTwiceSpec)

/-- ITS FALSE NEIGHBOUR: 'it returns false'. Refute it at one input. -/
def slpTwiceWrong : ChangeSpec := { name := "slpTwice", fn := fun _ => fun
  | [d1, d2] => { results := [.lit (.bool false)], args := [d1, d2] }
  | _ => none }
def SlpTwiceWrongFalsely : Prop := slpTwiceRow.holds Tryz.pinned (OpenSpec.ofChange slpTwiceWrong)

/- THE SECOND FORM. 'bulk': how many values and letters a reading holds, each counted each time it is reached (what is shared counts as often as it is met; a slice's spare places count too). A statement '..UptoSaid' is the law's where the arguments, and the package variables that the reading takes, are together of bulk at most 1048576: NARROWER than '..Said'. Prove '..Said' where nothing that the law and all that it calls make is longer than what came in: it says more and counts as full. Else prove '..UptoSaid'. A law counts once. -/
mutual
def uptoBulk {H : Type} : DataW H → Nat
  | .lit (.string bytes) => bytes.length + 1
  | .lit _ => 1
  | .nil => 1
  | .ptr d => uptoBulk d + 1
  | .slice elems spare => uptoBulkAll elems + uptoBulkAll spare + 1
  | .agg parts => uptoBulkAll parts + 1
  | .iface _ d => uptoBulk d + 1
  | .map entries => uptoBulkEntries entries + 1
  | .held _ => 1
def uptoBulkAll {H : Type} : List (DataW H) → Nat
  | [] => 0
  | d :: r => uptoBulk d + uptoBulkAll r
def uptoBulkEntries {H : Type} : List (Lit × DataW H) → Nat
  | [] => 0
  | x :: r => uptoBulkEntry x + uptoBulkEntries r
def uptoBulkEntry {H : Type} : Lit × DataW H → Nat
  | (.string bytes, d) => bytes.length + uptoBulk d + 1
  | (_, d) => uptoBulk d + 1
 end
def uptoSmall : (H : Type) → List (DataW H) → Bool := fun _ ds => decide (uptoBulkAll ds ≤ 1048576)
def OpenSpec.upto (s : _root_.Go.ChangeSpec) : _root_.Go.OpenSpec := { _root_.Go.OpenSpec.ofChange s with cond := some uptoSmall }

/-- 'straightedgelaw13.SlpCompiles', WHERE WHAT IT READS IS OF BULK AT MOST 1048576: true; the input reads as it did. -/
def slpCompilesUptoRow : OpenClaim := { program := "ytnafklimohmfkaagreatdoor", sum := "7189670d4739c2df30068d7943ccb60cc6549ba2c963d12251f89796fa4c5f72", func := "straightedge/straightedgelaw13.SlpCompiles", spec := "slpCompiles", unfollowed := true, recurses := true, named := ["internal/strconv.uint64pow10", "math/bits.deBruijn32tab", "math/bits.deBruijn64tab", "strconv.ErrSyntax", "strconv.ErrRange"], apart := false, laid := [("math/bits.deBruijn32tab", laid_math_bits_deBruijn32tab), ("math/bits.deBruijn64tab", laid_math_bits_deBruijn64tab), ("internal/strconv.uint64pow10", laid_internal_strconv_uint64pow10), ("strconv.ErrRange", laid_strconv_ErrRange), ("strconv.ErrSyntax", laid_strconv_ErrSyntax)], narrowed := true }
def SlpCompilesUptoSaid : Prop := slpCompilesUptoRow.holds Tryz.pinned (OpenSpec.upto slpCompilesSpec)

/-- 'straightedgelaw13.SlpValues', WHERE WHAT IT READS IS OF BULK AT MOST 1048576: true; the input reads as it did. -/
def slpValuesUptoRow : OpenClaim := { program := "ytnafklimohmfkaagreatdoor", sum := "7189670d4739c2df30068d7943ccb60cc6549ba2c963d12251f89796fa4c5f72", func := "straightedge/straightedgelaw13.SlpValues", spec := "slpValues", unfollowed := true, recurses := true, named := ["internal/strconv.uint64pow10", "math/bits.deBruijn32tab", "math/bits.deBruijn64tab", "strconv.ErrSyntax", "strconv.ErrRange"], apart := false, laid := [("math/bits.deBruijn32tab", laid_math_bits_deBruijn32tab), ("math/bits.deBruijn64tab", laid_math_bits_deBruijn64tab), ("internal/strconv.uint64pow10", laid_internal_strconv_uint64pow10), ("strconv.ErrRange", laid_strconv_ErrRange), ("strconv.ErrSyntax", laid_strconv_ErrSyntax)], narrowed := true }
def SlpValuesUptoSaid : Prop := slpValuesUptoRow.holds Tryz.pinned (OpenSpec.upto slpValuesSpec)

/-- 'straightedgelaw13.SlpRuns', WHERE WHAT IT READS IS OF BULK AT MOST 1048576: true; the input reads as it did. -/
def slpRunsUptoRow : OpenClaim := { program := "ytnafklimohmfkaagreatdoor", sum := "7189670d4739c2df30068d7943ccb60cc6549ba2c963d12251f89796fa4c5f72", func := "straightedge/straightedgelaw13.SlpRuns", spec := "slpRuns", unfollowed := true, recurses := true, named := ["internal/strconv.uint64pow10", "math/bits.deBruijn32tab", "math/bits.deBruijn64tab", "strconv.ErrSyntax", "strconv.ErrRange"], apart := false, laid := [("math/bits.deBruijn32tab", laid_math_bits_deBruijn32tab), ("math/bits.deBruijn64tab", laid_math_bits_deBruijn64tab), ("internal/strconv.uint64pow10", laid_internal_strconv_uint64pow10), ("strconv.ErrRange", laid_strconv_ErrRange), ("strconv.ErrSyntax", laid_strconv_ErrSyntax)], narrowed := true }
def SlpRunsUptoSaid : Prop := slpRunsUptoRow.holds Tryz.pinned (OpenSpec.upto slpRunsSpec)

/-- 'straightedgelaw13.SlpTexts', WHERE WHAT IT READS IS OF BULK AT MOST 1048576: true; the input reads as it did. -/
def slpTextsUptoRow : OpenClaim := { program := "ytnafklimohmfkaagreatdoor", sum := "7189670d4739c2df30068d7943ccb60cc6549ba2c963d12251f89796fa4c5f72", func := "straightedge/straightedgelaw13.SlpTexts", spec := "slpTexts", unfollowed := true, recurses := true, named := ["internal/strconv.uint64pow10", "math/bits.deBruijn32tab", "math/bits.deBruijn64tab", "strconv.ErrSyntax", "strconv.ErrRange"], apart := false, laid := [("math/bits.deBruijn32tab", laid_math_bits_deBruijn32tab), ("math/bits.deBruijn64tab", laid_math_bits_deBruijn64tab), ("internal/strconv.uint64pow10", laid_internal_strconv_uint64pow10), ("strconv.ErrRange", laid_strconv_ErrRange), ("strconv.ErrSyntax", laid_strconv_ErrSyntax)], narrowed := true }
def SlpTextsUptoSaid : Prop := slpTextsUptoRow.holds Tryz.pinned (OpenSpec.upto slpTextsSpec)

/-- 'straightedgelaw13.SlpRelates', WHERE WHAT IT READS IS OF BULK AT MOST 1048576: true; the input reads as it did. -/
def slpRelatesUptoRow : OpenClaim := { program := "ytnafklimohmfkaagreatdoor", sum := "7189670d4739c2df30068d7943ccb60cc6549ba2c963d12251f89796fa4c5f72", func := "straightedge/straightedgelaw13.SlpRelates", spec := "slpRelates", unfollowed := true, recurses := true, named := ["internal/strconv.uint64pow10", "math/bits.deBruijn32tab", "math/bits.deBruijn64tab", "strconv.ErrSyntax", "strconv.ErrRange"], apart := false, laid := [("math/bits.deBruijn32tab", laid_math_bits_deBruijn32tab), ("math/bits.deBruijn64tab", laid_math_bits_deBruijn64tab), ("internal/strconv.uint64pow10", laid_internal_strconv_uint64pow10), ("strconv.ErrRange", laid_strconv_ErrRange), ("strconv.ErrSyntax", laid_strconv_ErrSyntax)], narrowed := true }
def SlpRelatesUptoSaid : Prop := slpRelatesUptoRow.holds Tryz.pinned (OpenSpec.upto slpRelatesSpec)

/-- 'straightedgelaw13.SlpIncidence', WHERE WHAT IT READS IS OF BULK AT MOST 1048576: true; the input reads as it did. -/
def slpIncidenceUptoRow : OpenClaim := { program := "ytnafklimohmfkaagreatdoor", sum := "7189670d4739c2df30068d7943ccb60cc6549ba2c963d12251f89796fa4c5f72", func := "straightedge/straightedgelaw13.SlpIncidence", spec := "slpIncidence", unfollowed := true, recurses := true, named := ["internal/strconv.uint64pow10", "math/bits.deBruijn32tab", "math/bits.deBruijn64tab", "strconv.ErrSyntax", "strconv.ErrRange"], apart := false, laid := [("math/bits.deBruijn32tab", laid_math_bits_deBruijn32tab), ("math/bits.deBruijn64tab", laid_math_bits_deBruijn64tab), ("internal/strconv.uint64pow10", laid_internal_strconv_uint64pow10), ("strconv.ErrRange", laid_strconv_ErrRange), ("strconv.ErrSyntax", laid_strconv_ErrSyntax)], narrowed := true }
def SlpIncidenceUptoSaid : Prop := slpIncidenceUptoRow.holds Tryz.pinned (OpenSpec.upto slpIncidenceSpec)

/-- 'straightedgelaw13.SlpTwice', WHERE WHAT IT READS IS OF BULK AT MOST 1048576: true; the input reads as it did. -/
def slpTwiceUptoRow : OpenClaim := { program := "ytnafklimohmfkaagreatdoor", sum := "7189670d4739c2df30068d7943ccb60cc6549ba2c963d12251f89796fa4c5f72", func := "straightedge/straightedgelaw13.SlpTwice", spec := "slpTwice", unfollowed := true, recurses := true, named := ["internal/strconv.uint64pow10", "math/bits.deBruijn32tab", "math/bits.deBruijn64tab", "strconv.ErrSyntax", "strconv.ErrRange"], apart := false, laid := [("math/bits.deBruijn32tab", laid_math_bits_deBruijn32tab), ("math/bits.deBruijn64tab", laid_math_bits_deBruijn64tab), ("internal/strconv.uint64pow10", laid_internal_strconv_uint64pow10), ("strconv.ErrRange", laid_strconv_ErrRange), ("strconv.ErrSyntax", laid_strconv_ErrSyntax)], narrowed := true }
def SlpTwiceUptoSaid : Prop := slpTwiceUptoRow.holds Tryz.pinned (OpenSpec.upto slpTwiceSpec)

end Rows
end Go.Proofs.YtnafklimohmfkaaGreatDoor
