/- A part of the proof: no condition. -/
import Derived.Test.YtgdnbfijkagodaaGreatDoorA7
import Derived.KernelRfl
set_option linter.unusedSectionVars false
set_option linter.unusedSimpArgs false
set_option linter.unusedVariables false
namespace Go.gR
open Go.Ab
set_option maxRecDepth 1000000
variable(G:Nat→ae)(X:Nat→List ae→ag→ah)
theorem acS:gM G X 0=true:=by kernel_rfl
theorem acT:gM G X 1=true:=by kernel_rfl
theorem acU:gM G X 2=true:=by kernel_rfl
theorem acV:gM G X 3=true:=by kernel_rfl
theorem acW:gM G X 4=true:=by kernel_rfl
theorem acX:gM G X 5=true:=by kernel_rfl
theorem acY:gM G X 6=true:=by kernel_rfl
theorem acZ:gM G X 7=true:=by kernel_rfl
end Go.gR
