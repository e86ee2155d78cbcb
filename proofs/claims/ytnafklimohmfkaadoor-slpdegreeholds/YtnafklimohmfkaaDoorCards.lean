/-
  DERIVED. GIVEN WITH THE SEED: THE CARDS: each row of YtnafklimohmfkaaDoorRows.lean that lists a variable, with what it lists TIED to the program's text (the seventh form; the later family's looks); each row that meets fmt, with fmt's text TOLD by the authors' own Lean function (tested against real Go, not proved from fmt's source: count such statements apart). THE CARD IS WHAT COUNTS. Prove the row's statement (the work); the ties are given (YtnafklimohmfkaaDoorTie.lean); close each card by the builder's one call (the guide's Derived/Test/ToyasCard.lean, 'card_holds'). Laid BY PROGRAM, IN A SANDBOX (cutbox-door.mjs). By AI agents, Wed Nov 11 2026. No macro, syntax, notation, axiom, sorry.
-/
import Derived.Test.YtnafklimohmfkaaDoorRows
import GoSem.ClaimSeven
namespace Go.Proofs.YtnafklimohmfkaaDoor
namespace Rows

/-- THE TIED CARD OF 'straightedgelaw13.SlpReduces'. -/
def slpReducesCard : Claim7 := { stood := { row := slpReducesRow, standIns := [], harness := (true, "3e1d52b6db7662274199cfc1d00f3bbb7aefd5609344fabfd51b0995e0342305"), looks := true }, kinds := [], alts := [], laidByText := true, laidKinds := [.data, .data, .data, .sentinel, .sentinel], laidTests := true, laidLooks := .later }
def SlpReducesCardSaid : Prop := Claim7.holds Tryd.pinned (.plain (OpenSpec.ofChange slpReducesSpec)) slpReducesCard

/-- THE TIED CARD OF 'straightedgelaw13.SlpChecks'. -/
def slpChecksCard : Claim7 := { stood := { row := slpChecksRow, standIns := [], harness := (true, "3e1d52b6db7662274199cfc1d00f3bbb7aefd5609344fabfd51b0995e0342305"), looks := true }, kinds := [], alts := [], laidByText := true, laidKinds := [.data, .data, .data, .sentinel, .sentinel], laidTests := true, laidLooks := .later }
def SlpChecksCardSaid : Prop := Claim7.holds Tryd.pinned (.plain (OpenSpec.ofChange slpChecksSpec)) slpChecksCard

/-- THE TIED CARD OF 'straightedgelaw13.SlpDegreeHolds'. -/
def slpDegreeHoldsCard : Claim7 := { stood := { row := slpDegreeHoldsRow, standIns := [], harness := (true, "3e1d52b6db7662274199cfc1d00f3bbb7aefd5609344fabfd51b0995e0342305"), looks := true }, kinds := [], alts := [], laidByText := true, laidKinds := [.data, .data, .data, .sentinel, .sentinel], laidTests := true, laidLooks := .later }
def SlpDegreeHoldsCardSaid : Prop := Claim7.holds Tryd.pinned (.plain (OpenSpec.ofChange slpDegreeHoldsSpec)) slpDegreeHoldsCard

/-- THE SECOND FORM's CARD OF 'straightedgelaw13.SlpReduces'. -/
def slpReducesUptoCard : Claim7 := { stood := { row := slpReducesUptoRow, standIns := [], harness := (true, "3e1d52b6db7662274199cfc1d00f3bbb7aefd5609344fabfd51b0995e0342305"), looks := true }, kinds := [], alts := [], laidByText := true, laidKinds := [.data, .data, .data, .sentinel, .sentinel], laidTests := true, laidLooks := .later }
def SlpReducesUptoCardSaid : Prop := Claim7.holds Tryd.pinned (.plain (OpenSpec.upto slpReducesSpec)) slpReducesUptoCard

/-- THE SECOND FORM's CARD OF 'straightedgelaw13.SlpChecks'. -/
def slpChecksUptoCard : Claim7 := { stood := { row := slpChecksUptoRow, standIns := [], harness := (true, "3e1d52b6db7662274199cfc1d00f3bbb7aefd5609344fabfd51b0995e0342305"), looks := true }, kinds := [], alts := [], laidByText := true, laidKinds := [.data, .data, .data, .sentinel, .sentinel], laidTests := true, laidLooks := .later }
def SlpChecksUptoCardSaid : Prop := Claim7.holds Tryd.pinned (.plain (OpenSpec.upto slpChecksSpec)) slpChecksUptoCard

/-- THE SECOND FORM's CARD OF 'straightedgelaw13.SlpDegreeHolds'. -/
def slpDegreeHoldsUptoCard : Claim7 := { stood := { row := slpDegreeHoldsUptoRow, standIns := [], harness := (true, "3e1d52b6db7662274199cfc1d00f3bbb7aefd5609344fabfd51b0995e0342305"), looks := true }, kinds := [], alts := [], laidByText := true, laidKinds := [.data, .data, .data, .sentinel, .sentinel], laidTests := true, laidLooks := .later }
def SlpDegreeHoldsUptoCardSaid : Prop := Claim7.holds Tryd.pinned (.plain (OpenSpec.upto slpDegreeHoldsSpec)) slpDegreeHoldsUptoCard
end Rows
end Go.Proofs.YtnafklimohmfkaaDoor
