/- A part of the proof: no condition. -/
import Derived.Test.YtgdnbfijkagodaaGreatDoorA7
import Derived.KernelRfl
set_option linter.unusedSectionVars false
set_option linter.unusedSimpArgs false
set_option linter.unusedVariables false
namespace Go.gl
open Go.Ab
set_option maxRecDepth 1000000
variable(G:Nat→ae)(X:Nat→List ae→ag→ah)
theorem agG:gT G X 8=true:=by kernel_rfl
theorem agH:gT G X 9=true:=by kernel_rfl
theorem afu:gT G X 10=true:=by kernel_rfl
theorem afv:gT G X 11=true:=by kernel_rfl
theorem afw:gT G X 12=true:=by kernel_rfl
theorem afx:gT G X 13=true:=by kernel_rfl
theorem afy:gT G X 14=true:=by kernel_rfl
theorem afz:gT G X 15=true:=by kernel_rfl
end Go.gl
