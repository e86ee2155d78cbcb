/- A part of the proof: no condition. -/
import Derived.Test.YtgdnbfijkagodaaGreatDoorA7
import Derived.KernelRfl
set_option linter.unusedSectionVars false
set_option linter.unusedSimpArgs false
set_option linter.unusedVariables false
namespace Go.gw
open Go.Ab
set_option maxRecDepth 1000000
variable(G:Nat→af)(X:Nat→List af→ag→ah)
theorem acK:gR G X 24=true:=by kernel_rfl
theorem acL:gR G X 25=true:=by kernel_rfl
theorem acM:gR G X 26=true:=by kernel_rfl
theorem acN:gR G X 27=true:=by kernel_rfl
theorem acO:gR G X 28=true:=by kernel_rfl
theorem acP:gR G X 29=true:=by kernel_rfl
theorem acQ:gR G X 30=true:=by kernel_rfl
theorem acR:gR G X 31=true:=by kernel_rfl
theorem acS:gR G X 32=true:=by kernel_rfl
end Go.gw
