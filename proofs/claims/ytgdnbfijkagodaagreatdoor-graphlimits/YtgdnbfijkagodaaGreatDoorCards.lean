/-
  DERIVED. GIVEN WITH THE SEED: THE CARDS: each row of YtgdnbfijkagodaaGreatDoorRows.lean that lists a variable, with what it lists TIED to the program's text (the seventh form; the later family's looks); each row that meets fmt, with fmt's text TOLD by the authors' own Lean function (tested against real Go, not proved from fmt's source: count such statements apart). THE CARD IS WHAT COUNTS. Prove the row's statement (the work); the ties are given (YtgdnbfijkagodaaGreatDoorTie.lean); close each card by the builder's one call (the guide's Derived/Test/ToyasCard.lean, 'card_holds'). Laid BY PROGRAM, IN A SANDBOX (cutbox-door.mjs). By AI agents, Wed Nov 11 2026. No macro, syntax, notation, axiom, sorry.
-/
import Derived.Test.YtgdnbfijkagodaaGreatDoorRows
import GoSem.ClaimSeven
namespace Go.Proofs.YtgdnbfijkagodaaGreatDoor
namespace Rows

/-- THE TIED CARD OF 'straightedgelaw12.GraphDependencies'. -/
def graphDependenciesCard : Claim7 := { stood := { row := graphDependenciesRow, standIns := [], harness := (true, "1603c97e19b7d3c76b6c6ca76398437a1ae78ca6e13eba8e25ace8587983fab0"), looks := false }, kinds := [], alts := [], laidByText := true, laidKinds := [.data, .data, .data], laidTests := true, laidLooks := .later }
def GraphDependenciesCardSaid : Prop := Claim7.holds Tryz.pinned (.plain (OpenSpec.ofChange graphDependenciesSpec)) graphDependenciesCard

/-- THE TIED CARD OF 'straightedgelaw12.GraphRemoval'. -/
def graphRemovalCard : Claim7 := { stood := { row := graphRemovalRow, standIns := [], harness := (true, "1603c97e19b7d3c76b6c6ca76398437a1ae78ca6e13eba8e25ace8587983fab0"), looks := false }, kinds := [], alts := [], laidByText := true, laidKinds := [.data, .data, .data], laidTests := true, laidLooks := .later }
def GraphRemovalCardSaid : Prop := Claim7.holds Tryz.pinned (.plain (OpenSpec.ofChange graphRemovalSpec)) graphRemovalCard

/-- THE TIED CARD OF 'straightedgelaw12.GraphLimits'. -/
def graphLimitsCard : Claim7 := { stood := { row := graphLimitsRow, standIns := [], harness := (true, "1603c97e19b7d3c76b6c6ca76398437a1ae78ca6e13eba8e25ace8587983fab0"), looks := false }, kinds := [], alts := [], laidByText := true, laidKinds := [.data, .data, .data], laidTests := true, laidLooks := .later }
def GraphLimitsCardSaid : Prop := Claim7.holds Tryz.pinned (.plain (OpenSpec.ofChange graphLimitsSpec)) graphLimitsCard

/-- THE TIED CARD OF 'straightedgelaw12.GraphRelations'. -/
def graphRelationsCard : Claim7 := { stood := { row := graphRelationsRow, standIns := [], harness := (true, "1603c97e19b7d3c76b6c6ca76398437a1ae78ca6e13eba8e25ace8587983fab0"), looks := false }, kinds := [], alts := [], laidByText := true, laidKinds := [.data, .data, .data], laidTests := true, laidLooks := .later }
def GraphRelationsCardSaid : Prop := Claim7.holds Tryz.pinned (.plain (OpenSpec.ofChange graphRelationsSpec)) graphRelationsCard

/-- THE TIED CARD OF 'straightedgelaw12.GraphInputs'. -/
def graphInputsCard : Claim7 := { stood := { row := graphInputsRow, standIns := [], harness := (true, "1603c97e19b7d3c76b6c6ca76398437a1ae78ca6e13eba8e25ace8587983fab0"), looks := false }, kinds := [], alts := [], laidByText := true, laidKinds := [.data, .data, .data], laidTests := true, laidLooks := .later }
def GraphInputsCardSaid : Prop := Claim7.holds Tryz.pinned (.plain (OpenSpec.ofChange graphInputsSpec)) graphInputsCard

/-- THE TIED CARD OF 'straightedgelaw12.GraphMatchesReference'. -/
def graphMatchesReferenceCard : Claim7 := { stood := { row := graphMatchesReferenceRow, standIns := [], harness := (true, "1603c97e19b7d3c76b6c6ca76398437a1ae78ca6e13eba8e25ace8587983fab0"), looks := false }, kinds := [], alts := [], laidByText := true, laidKinds := [.data, .data, .data], laidTests := true, laidLooks := .later }
def GraphMatchesReferenceCardSaid : Prop := Claim7.holds Tryz.pinned (.plain (OpenSpec.ofChange graphMatchesReferenceSpec)) graphMatchesReferenceCard

/-- THE SECOND FORM's CARD OF 'straightedgelaw12.GraphDependencies'. -/
def graphDependenciesUptoCard : Claim7 := { stood := { row := graphDependenciesUptoRow, standIns := [], harness := (true, "1603c97e19b7d3c76b6c6ca76398437a1ae78ca6e13eba8e25ace8587983fab0"), looks := false }, kinds := [], alts := [], laidByText := true, laidKinds := [.data, .data, .data], laidTests := true, laidLooks := .later }
def GraphDependenciesUptoCardSaid : Prop := Claim7.holds Tryz.pinned (.plain (OpenSpec.upto graphDependenciesSpec)) graphDependenciesUptoCard

/-- THE SECOND FORM's CARD OF 'straightedgelaw12.GraphRemoval'. -/
def graphRemovalUptoCard : Claim7 := { stood := { row := graphRemovalUptoRow, standIns := [], harness := (true, "1603c97e19b7d3c76b6c6ca76398437a1ae78ca6e13eba8e25ace8587983fab0"), looks := false }, kinds := [], alts := [], laidByText := true, laidKinds := [.data, .data, .data], laidTests := true, laidLooks := .later }
def GraphRemovalUptoCardSaid : Prop := Claim7.holds Tryz.pinned (.plain (OpenSpec.upto graphRemovalSpec)) graphRemovalUptoCard

/-- THE SECOND FORM's CARD OF 'straightedgelaw12.GraphLimits'. -/
def graphLimitsUptoCard : Claim7 := { stood := { row := graphLimitsUptoRow, standIns := [], harness := (true, "1603c97e19b7d3c76b6c6ca76398437a1ae78ca6e13eba8e25ace8587983fab0"), looks := false }, kinds := [], alts := [], laidByText := true, laidKinds := [.data, .data, .data], laidTests := true, laidLooks := .later }
def GraphLimitsUptoCardSaid : Prop := Claim7.holds Tryz.pinned (.plain (OpenSpec.upto graphLimitsSpec)) graphLimitsUptoCard

/-- THE SECOND FORM's CARD OF 'straightedgelaw12.GraphRelations'. -/
def graphRelationsUptoCard : Claim7 := { stood := { row := graphRelationsUptoRow, standIns := [], harness := (true, "1603c97e19b7d3c76b6c6ca76398437a1ae78ca6e13eba8e25ace8587983fab0"), looks := false }, kinds := [], alts := [], laidByText := true, laidKinds := [.data, .data, .data], laidTests := true, laidLooks := .later }
def GraphRelationsUptoCardSaid : Prop := Claim7.holds Tryz.pinned (.plain (OpenSpec.upto graphRelationsSpec)) graphRelationsUptoCard

/-- THE SECOND FORM's CARD OF 'straightedgelaw12.GraphInputs'. -/
def graphInputsUptoCard : Claim7 := { stood := { row := graphInputsUptoRow, standIns := [], harness := (true, "1603c97e19b7d3c76b6c6ca76398437a1ae78ca6e13eba8e25ace8587983fab0"), looks := false }, kinds := [], alts := [], laidByText := true, laidKinds := [.data, .data, .data], laidTests := true, laidLooks := .later }
def GraphInputsUptoCardSaid : Prop := Claim7.holds Tryz.pinned (.plain (OpenSpec.upto graphInputsSpec)) graphInputsUptoCard

/-- THE SECOND FORM's CARD OF 'straightedgelaw12.GraphMatchesReference'. -/
def graphMatchesReferenceUptoCard : Claim7 := { stood := { row := graphMatchesReferenceUptoRow, standIns := [], harness := (true, "1603c97e19b7d3c76b6c6ca76398437a1ae78ca6e13eba8e25ace8587983fab0"), looks := false }, kinds := [], alts := [], laidByText := true, laidKinds := [.data, .data, .data], laidTests := true, laidLooks := .later }
def GraphMatchesReferenceUptoCardSaid : Prop := Claim7.holds Tryz.pinned (.plain (OpenSpec.upto graphMatchesReferenceSpec)) graphMatchesReferenceUptoCard
end Rows
end Go.Proofs.YtgdnbfijkagodaaGreatDoor
