/- A part of the proof: no condition. -/
import Derived.Test.YtgdnbfijkagodaaGreatDoorA7
import Derived.KernelRfl
set_option linter.unusedSectionVars false
set_option linter.unusedSimpArgs false
set_option linter.unusedVariables false
namespace Go.gw
open Go.Ab
set_option maxRecDepth 1000000
variable(G:Nat→af)(X:Nat→List af→ag→ah)
theorem adR:gR G X 8=true:=by kernel_rfl
theorem adS:gR G X 9=true:=by kernel_rfl
theorem acw:gR G X 10=true:=by kernel_rfl
theorem acx:gR G X 11=true:=by kernel_rfl
theorem acy:gR G X 12=true:=by kernel_rfl
theorem acz:gR G X 13=true:=by kernel_rfl
theorem acA:gR G X 14=true:=by kernel_rfl
theorem acB:gR G X 15=true:=by kernel_rfl
end Go.gw
