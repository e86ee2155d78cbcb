/- A part of the proof: no condition. -/
import Derived.Test.YtgdnbfijkagodaaGreatDoorA7
import Derived.KernelRfl
set_option linter.unusedSectionVars false
set_option linter.unusedSimpArgs false
set_option linter.unusedVariables false
namespace Go.gR
open Go.Ab
set_option maxRecDepth 1000000
variable(G:Nat→ae)(X:Nat→List ae→ag→ah)
theorem abK:gM G X 16=true:=by kernel_rfl
theorem abL:gM G X 17=true:=by kernel_rfl
theorem abM:gM G X 18=true:=by kernel_rfl
theorem abN:gM G X 19=true:=by kernel_rfl
theorem abO:gM G X 20=true:=by kernel_rfl
theorem abP:gM G X 21=true:=by kernel_rfl
theorem abQ:gM G X 22=true:=by kernel_rfl
theorem abR:gM G X 23=true:=by kernel_rfl
end Go.gR
