/- A part of the proof: no condition. -/
import Derived.Test.YtgdnbfijkagodaaGreatDoorA7
import Derived.KernelRfl
set_option linter.unusedSectionVars false
set_option linter.unusedSimpArgs false
set_option linter.unusedVariables false
namespace Go.gw
open Go.Ab
set_option maxRecDepth 1000000
variable(G:Nat→af)(X:Nat→List af→ag→ah)
theorem adJ:gR G X 0=true:=by kernel_rfl
theorem adK:gR G X 1=true:=by kernel_rfl
theorem adL:gR G X 2=true:=by kernel_rfl
theorem adM:gR G X 3=true:=by kernel_rfl
theorem adN:gR G X 4=true:=by kernel_rfl
theorem adO:gR G X 5=true:=by kernel_rfl
theorem adP:gR G X 6=true:=by kernel_rfl
theorem adQ:gR G X 7=true:=by kernel_rfl
end Go.gw
