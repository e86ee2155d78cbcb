/- A part of the proof: no condition. -/
import Derived.Test.YtgdnbfijkagodaaGreatDoorA7
import Derived.KernelRfl
set_option linter.unusedSectionVars false
set_option linter.unusedSimpArgs false
set_option linter.unusedVariables false
namespace Go.gl
open Go.Ab
set_option maxRecDepth 1000000
variable(G:Nat→ae)(X:Nat→List ae→ag→ah)
theorem afA:gT G X 16=true:=by kernel_rfl
theorem afB:gT G X 17=true:=by kernel_rfl
theorem afC:gT G X 18=true:=by kernel_rfl
theorem afD:gT G X 19=true:=by kernel_rfl
theorem afE:gT G X 20=true:=by kernel_rfl
theorem afF:gT G X 21=true:=by kernel_rfl
theorem afG:gT G X 22=true:=by kernel_rfl
theorem afH:gT G X 23=true:=by kernel_rfl
end Go.gl
