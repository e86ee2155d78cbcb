/- A part of the proof: no condition. -/
import Derived.Test.YtgdnbfijkagodaaGreatDoorA7
import Derived.KernelRfl
set_option linter.unusedSectionVars false
set_option linter.unusedSimpArgs false
set_option linter.unusedVariables false
namespace Go.f0
open Go.Ab
set_option maxRecDepth 1000000
variable(G:Nat→ae)(X:Nat→List ae→ag→ah)
theorem Yp:gy G X 24=true:=by kernel_rfl
theorem Yq:gy G X 25=true:=by kernel_rfl
theorem Yr:gy G X 26=true:=by kernel_rfl
theorem Ys:gy G X 27=true:=by kernel_rfl
theorem Yt:gy G X 28=true:=by kernel_rfl
theorem Yu:gy G X 29=true:=by kernel_rfl
theorem Yv:gy G X 30=true:=by kernel_rfl
theorem Yw:gy G X 31=true:=by kernel_rfl
theorem Yx:gy G X 32=true:=by kernel_rfl
end Go.f0
