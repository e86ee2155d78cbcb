/- A part of the proof: no condition. -/
import Derived.Test.YtgdnbfijkagodaaGreatDoorA7
import Derived.KernelRfl
set_option linter.unusedSectionVars false
set_option linter.unusedSimpArgs false
set_option linter.unusedVariables false
namespace Go.gl
open Go.Ab
set_option maxRecDepth 1000000
variable(G:Nat→ae)(X:Nat→List ae→ag→ah)
theorem afI:gT G X 24=true:=by kernel_rfl
theorem afJ:gT G X 25=true:=by kernel_rfl
theorem afK:gT G X 26=true:=by kernel_rfl
theorem afL:gT G X 27=true:=by kernel_rfl
theorem afM:gT G X 28=true:=by kernel_rfl
theorem afN:gT G X 29=true:=by kernel_rfl
theorem afO:gT G X 30=true:=by kernel_rfl
theorem afP:gT G X 31=true:=by kernel_rfl
theorem afQ:gT G X 32=true:=by kernel_rfl
end Go.gl
