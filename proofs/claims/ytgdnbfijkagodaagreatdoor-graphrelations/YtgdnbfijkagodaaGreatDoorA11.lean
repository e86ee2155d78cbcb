/- A part of the proof: no condition. -/
import Derived.Test.YtgdnbfijkagodaaGreatDoorA7
import Derived.KernelRfl
set_option linter.unusedSectionVars false
set_option linter.unusedSimpArgs false
set_option linter.unusedVariables false
namespace Go.gR
open Go.Ab
set_option maxRecDepth 1000000
variable(G:Nat→ae)(X:Nat→List ae→ag→ah)
theorem abS:gM G X 24=true:=by kernel_rfl
theorem abT:gM G X 25=true:=by kernel_rfl
theorem abU:gM G X 26=true:=by kernel_rfl
theorem abV:gM G X 27=true:=by kernel_rfl
theorem abW:gM G X 28=true:=by kernel_rfl
theorem abX:gM G X 29=true:=by kernel_rfl
theorem abY:gM G X 30=true:=by kernel_rfl
theorem abZ:gM G X 31=true:=by kernel_rfl
theorem ab0:gM G X 32=true:=by kernel_rfl
end Go.gR
