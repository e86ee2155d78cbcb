/- A part of the proof: no condition. -/
import Derived.Test.YtgdnbfijkagodaaGreatDoorA7
import Derived.KernelRfl
set_option linter.unusedSectionVars false
set_option linter.unusedSimpArgs false
set_option linter.unusedVariables false
namespace Go.gw
open Go.Ab
set_option maxRecDepth 1000000
variable(G:Nat→af)(X:Nat→List af→ag→ah)
theorem acC:gR G X 16=true:=by kernel_rfl
theorem acD:gR G X 17=true:=by kernel_rfl
theorem acE:gR G X 18=true:=by kernel_rfl
theorem acF:gR G X 19=true:=by kernel_rfl
theorem acG:gR G X 20=true:=by kernel_rfl
theorem acH:gR G X 21=true:=by kernel_rfl
theorem acI:gR G X 22=true:=by kernel_rfl
theorem acJ:gR G X 23=true:=by kernel_rfl
end Go.gw
