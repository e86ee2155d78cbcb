/- A part of the proof: no condition. -/
import Derived.Test.YtgdnbfijkagodaaGreatDoorA7
import Derived.KernelRfl
set_option linter.unusedSectionVars false
set_option linter.unusedSimpArgs false
set_option linter.unusedVariables false
namespace Go.f0
open Go.Ab
set_option maxRecDepth 1000000
variable(G:Nat→ae)(X:Nat→List ae→ag→ah)
theorem Yh:gy G X 16=true:=by kernel_rfl
theorem Yi:gy G X 17=true:=by kernel_rfl
theorem Yj:gy G X 18=true:=by kernel_rfl
theorem Yk:gy G X 19=true:=by kernel_rfl
theorem Yl:gy G X 20=true:=by kernel_rfl
theorem Ym:gy G X 21=true:=by kernel_rfl
theorem Yn:gy G X 22=true:=by kernel_rfl
theorem Yo:gy G X 23=true:=by kernel_rfl
end Go.f0
