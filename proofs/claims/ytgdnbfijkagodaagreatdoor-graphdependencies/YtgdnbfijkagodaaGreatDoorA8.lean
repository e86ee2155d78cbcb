/- A part of the proof: no condition. -/
import Derived.Test.YtgdnbfijkagodaaGreatDoorA7
import Derived.KernelRfl
set_option linter.unusedSectionVars false
set_option linter.unusedSimpArgs false
set_option linter.unusedVariables false
namespace Go.gl
open Go.Ab
set_option maxRecDepth 1000000
variable(G:Nat→ae)(X:Nat→List ae→ag→ah)
theorem agy:gT G X 0=true:=by kernel_rfl
theorem agz:gT G X 1=true:=by kernel_rfl
theorem agA:gT G X 2=true:=by kernel_rfl
theorem agB:gT G X 3=true:=by kernel_rfl
theorem agC:gT G X 4=true:=by kernel_rfl
theorem agD:gT G X 5=true:=by kernel_rfl
theorem agE:gT G X 6=true:=by kernel_rfl
theorem agF:gT G X 7=true:=by kernel_rfl
end Go.gl
