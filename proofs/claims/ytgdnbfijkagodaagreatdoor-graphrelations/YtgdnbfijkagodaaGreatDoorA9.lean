/- A part of the proof: no condition. -/
import Derived.Test.YtgdnbfijkagodaaGreatDoorA7
import Derived.KernelRfl
set_option linter.unusedSectionVars false
set_option linter.unusedSimpArgs false
set_option linter.unusedVariables false
namespace Go.gR
open Go.Ab
set_option maxRecDepth 1000000
variable(G:Nat→ae)(X:Nat→List ae→ag→ah)
theorem ac0:gM G X 8=true:=by kernel_rfl
theorem ac1:gM G X 9=true:=by kernel_rfl
theorem abE:gM G X 10=true:=by kernel_rfl
theorem abF:gM G X 11=true:=by kernel_rfl
theorem abG:gM G X 12=true:=by kernel_rfl
theorem abH:gM G X 13=true:=by kernel_rfl
theorem abI:gM G X 14=true:=by kernel_rfl
theorem abJ:gM G X 15=true:=by kernel_rfl
end Go.gR
