/-
  DERIVED. GIVEN WITH THE SEED: THE CARDS: each row of YtnafklimohmfkaaGreatDoorRows.lean that lists a variable, with what it lists TIED to the program's text (the seventh form; the later family's looks); each row that meets fmt, with fmt's text TOLD by the authors' own Lean function (tested against real Go, not proved from fmt's source: count such statements apart). THE CARD IS WHAT COUNTS. Prove the row's statement (the work); the ties are given (YtnafklimohmfkaaGreatDoorTie.lean); close each card by the builder's one call (the guide's Derived/Test/ToyasCard.lean, 'card_holds'). Laid BY PROGRAM, IN A SANDBOX (cutbox-door.mjs). By AI agents, Wed Nov 11 2026. No macro, syntax, notation, axiom, sorry.
-/
import Derived.Test.YtnafklimohmfkaaGreatDoorRows
import GoSem.ClaimSeven
namespace Go.Proofs.YtnafklimohmfkaaGreatDoor
namespace Rows

/-- THE TIED CARD OF 'straightedgelaw13.SlpCompiles'. -/
def slpCompilesCard : Claim7 := { stood := { row := slpCompilesRow, standIns := [], harness := (true, "ba314aee8bf129b38d365631ee8f88700ab6622cfec6c78ee773ca87fed154f2"), looks := true }, kinds := [], alts := [], laidByText := true, laidKinds := [.data, .data, .data, .sentinel, .sentinel], laidTests := true, laidLooks := .later }
def SlpCompilesCardSaid : Prop := Claim7.holds Tryz.pinned (.plain (OpenSpec.ofChange slpCompilesSpec)) slpCompilesCard

/-- THE TIED CARD OF 'straightedgelaw13.SlpValues'. -/
def slpValuesCard : Claim7 := { stood := { row := slpValuesRow, standIns := [], harness := (true, "ba314aee8bf129b38d365631ee8f88700ab6622cfec6c78ee773ca87fed154f2"), looks := true }, kinds := [], alts := [], laidByText := true, laidKinds := [.data, .data, .data, .sentinel, .sentinel], laidTests := true, laidLooks := .later }
def SlpValuesCardSaid : Prop := Claim7.holds Tryz.pinned (.plain (OpenSpec.ofChange slpValuesSpec)) slpValuesCard

/-- THE TIED CARD OF 'straightedgelaw13.SlpRuns'. -/
def slpRunsCard : Claim7 := { stood := { row := slpRunsRow, standIns := [], harness := (true, "ba314aee8bf129b38d365631ee8f88700ab6622cfec6c78ee773ca87fed154f2"), looks := true }, kinds := [], alts := [], laidByText := true, laidKinds := [.data, .data, .data, .sentinel, .sentinel], laidTests := true, laidLooks := .later }
def SlpRunsCardSaid : Prop := Claim7.holds Tryz.pinned (.plain (OpenSpec.ofChange slpRunsSpec)) slpRunsCard

/-- THE TIED CARD OF 'straightedgelaw13.SlpTexts'. -/
def slpTextsCard : Claim7 := { stood := { row := slpTextsRow, standIns := [], harness := (true, "ba314aee8bf129b38d365631ee8f88700ab6622cfec6c78ee773ca87fed154f2"), looks := true }, kinds := [], alts := [], laidByText := true, laidKinds := [.data, .data, .data, .sentinel, .sentinel], laidTests := true, laidLooks := .later }
def SlpTextsCardSaid : Prop := Claim7.holds Tryz.pinned (.plain (OpenSpec.ofChange slpTextsSpec)) slpTextsCard

/-- THE TIED CARD OF 'straightedgelaw13.SlpRelates'. -/
def slpRelatesCard : Claim7 := { stood := { row := slpRelatesRow, standIns := [], harness := (true, "ba314aee8bf129b38d365631ee8f88700ab6622cfec6c78ee773ca87fed154f2"), looks := true }, kinds := [], alts := [], laidByText := true, laidKinds := [.data, .data, .data, .sentinel, .sentinel], laidTests := true, laidLooks := .later }
def SlpRelatesCardSaid : Prop := Claim7.holds Tryz.pinned (.plain (OpenSpec.ofChange slpRelatesSpec)) slpRelatesCard

/-- THE TIED CARD OF 'straightedgelaw13.SlpIncidence'. -/
def slpIncidenceCard : Claim7 := { stood := { row := slpIncidenceRow, standIns := [], harness := (true, "ba314aee8bf129b38d365631ee8f88700ab6622cfec6c78ee773ca87fed154f2"), looks := true }, kinds := [], alts := [], laidByText := true, laidKinds := [.data, .data, .data, .sentinel, .sentinel], laidTests := true, laidLooks := .later }
def SlpIncidenceCardSaid : Prop := Claim7.holds Tryz.pinned (.plain (OpenSpec.ofChange slpIncidenceSpec)) slpIncidenceCard

/-- THE TIED CARD OF 'straightedgelaw13.SlpTwice'. -/
def slpTwiceCard : Claim7 := { stood := { row := slpTwiceRow, standIns := [], harness := (true, "ba314aee8bf129b38d365631ee8f88700ab6622cfec6c78ee773ca87fed154f2"), looks := true }, kinds := [], alts := [], laidByText := true, laidKinds := [.data, .data, .data, .sentinel, .sentinel], laidTests := true, laidLooks := .later }
def SlpTwiceCardSaid : Prop := Claim7.holds Tryz.pinned (.plain (OpenSpec.ofChange slpTwiceSpec)) slpTwiceCard

/-- THE SECOND FORM's CARD OF 'straightedgelaw13.SlpCompiles'. -/
def slpCompilesUptoCard : Claim7 := { stood := { row := slpCompilesUptoRow, standIns := [], harness := (true, "ba314aee8bf129b38d365631ee8f88700ab6622cfec6c78ee773ca87fed154f2"), looks := true }, kinds := [], alts := [], laidByText := true, laidKinds := [.data, .data, .data, .sentinel, .sentinel], laidTests := true, laidLooks := .later }
def SlpCompilesUptoCardSaid : Prop := Claim7.holds Tryz.pinned (.plain (OpenSpec.upto slpCompilesSpec)) slpCompilesUptoCard

/-- THE SECOND FORM's CARD OF 'straightedgelaw13.SlpValues'. -/
def slpValuesUptoCard : Claim7 := { stood := { row := slpValuesUptoRow, standIns := [], harness := (true, "ba314aee8bf129b38d365631ee8f88700ab6622cfec6c78ee773ca87fed154f2"), looks := true }, kinds := [], alts := [], laidByText := true, laidKinds := [.data, .data, .data, .sentinel, .sentinel], laidTests := true, laidLooks := .later }
def SlpValuesUptoCardSaid : Prop := Claim7.holds Tryz.pinned (.plain (OpenSpec.upto slpValuesSpec)) slpValuesUptoCard

/-- THE SECOND FORM's CARD OF 'straightedgelaw13.SlpRuns'. -/
def slpRunsUptoCard : Claim7 := { stood := { row := slpRunsUptoRow, standIns := [], harness := (true, "ba314aee8bf129b38d365631ee8f88700ab6622cfec6c78ee773ca87fed154f2"), looks := true }, kinds := [], alts := [], laidByText := true, laidKinds := [.data, .data, .data, .sentinel, .sentinel], laidTests := true, laidLooks := .later }
def SlpRunsUptoCardSaid : Prop := Claim7.holds Tryz.pinned (.plain (OpenSpec.upto slpRunsSpec)) slpRunsUptoCard

/-- THE SECOND FORM's CARD OF 'straightedgelaw13.SlpTexts'. -/
def slpTextsUptoCard : Claim7 := { stood := { row := slpTextsUptoRow, standIns := [], harness := (true, "ba314aee8bf129b38d365631ee8f88700ab6622cfec6c78ee773ca87fed154f2"), looks := true }, kinds := [], alts := [], laidByText := true, laidKinds := [.data, .data, .data, .sentinel, .sentinel], laidTests := true, laidLooks := .later }
def SlpTextsUptoCardSaid : Prop := Claim7.holds Tryz.pinned (.plain (OpenSpec.upto slpTextsSpec)) slpTextsUptoCard

/-- THE SECOND FORM's CARD OF 'straightedgelaw13.SlpRelates'. -/
def slpRelatesUptoCard : Claim7 := { stood := { row := slpRelatesUptoRow, standIns := [], harness := (true, "ba314aee8bf129b38d365631ee8f88700ab6622cfec6c78ee773ca87fed154f2"), looks := true }, kinds := [], alts := [], laidByText := true, laidKinds := [.data, .data, .data, .sentinel, .sentinel], laidTests := true, laidLooks := .later }
def SlpRelatesUptoCardSaid : Prop := Claim7.holds Tryz.pinned (.plain (OpenSpec.upto slpRelatesSpec)) slpRelatesUptoCard

/-- THE SECOND FORM's CARD OF 'straightedgelaw13.SlpIncidence'. -/
def slpIncidenceUptoCard : Claim7 := { stood := { row := slpIncidenceUptoRow, standIns := [], harness := (true, "ba314aee8bf129b38d365631ee8f88700ab6622cfec6c78ee773ca87fed154f2"), looks := true }, kinds := [], alts := [], laidByText := true, laidKinds := [.data, .data, .data, .sentinel, .sentinel], laidTests := true, laidLooks := .later }
def SlpIncidenceUptoCardSaid : Prop := Claim7.holds Tryz.pinned (.plain (OpenSpec.upto slpIncidenceSpec)) slpIncidenceUptoCard

/-- THE SECOND FORM's CARD OF 'straightedgelaw13.SlpTwice'. -/
def slpTwiceUptoCard : Claim7 := { stood := { row := slpTwiceUptoRow, standIns := [], harness := (true, "ba314aee8bf129b38d365631ee8f88700ab6622cfec6c78ee773ca87fed154f2"), looks := true }, kinds := [], alts := [], laidByText := true, laidKinds := [.data, .data, .data, .sentinel, .sentinel], laidTests := true, laidLooks := .later }
def SlpTwiceUptoCardSaid : Prop := Claim7.holds Tryz.pinned (.plain (OpenSpec.upto slpTwiceSpec)) slpTwiceUptoCard
end Rows
end Go.Proofs.YtnafklimohmfkaaGreatDoor
