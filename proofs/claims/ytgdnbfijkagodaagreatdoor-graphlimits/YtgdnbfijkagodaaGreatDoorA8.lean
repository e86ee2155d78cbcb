/- A part of the proof: no condition. -/
import Derived.Test.YtgdnbfijkagodaaGreatDoorA7
import Derived.KernelRfl
set_option linter.unusedSectionVars false
set_option linter.unusedSimpArgs false
set_option linter.unusedVariables false
namespace Go.f0
open Go.Ab
set_option maxRecDepth 1000000
variable(G:Nat→ae)(X:Nat→List ae→ag→ah)
theorem Zt:gy G X 0=true:=by kernel_rfl
theorem Zu:gy G X 1=true:=by kernel_rfl
theorem Zv:gy G X 2=true:=by kernel_rfl
theorem Zw:gy G X 3=true:=by kernel_rfl
theorem Zx:gy G X 4=true:=by kernel_rfl
theorem Zy:gy G X 5=true:=by kernel_rfl
theorem Zz:gy G X 6=true:=by kernel_rfl
theorem ZA:gy G X 7=true:=by kernel_rfl
end Go.f0
