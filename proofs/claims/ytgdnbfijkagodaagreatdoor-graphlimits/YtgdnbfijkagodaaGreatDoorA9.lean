/- A part of the proof: no condition. -/
import Derived.Test.YtgdnbfijkagodaaGreatDoorA7
import Derived.KernelRfl
set_option linter.unusedSectionVars false
set_option linter.unusedSimpArgs false
set_option linter.unusedVariables false
namespace Go.f0
open Go.Ab
set_option maxRecDepth 1000000
variable(G:Nat→ae)(X:Nat→List ae→ag→ah)
theorem ZB:gy G X 8=true:=by kernel_rfl
theorem ZC:gy G X 9=true:=by kernel_rfl
theorem Yb:gy G X 10=true:=by kernel_rfl
theorem Yc:gy G X 11=true:=by kernel_rfl
theorem Yd:gy G X 12=true:=by kernel_rfl
theorem Ye:gy G X 13=true:=by kernel_rfl
theorem Yf:gy G X 14=true:=by kernel_rfl
theorem Yg:gy G X 15=true:=by kernel_rfl
end Go.f0
