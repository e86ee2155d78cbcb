/- A part of the proof: no condition. -/
import Derived.Test.YtgdnbfijkagodaaGreatDoorA7
import Derived.KernelRfl
set_option linter.unusedSectionVars false
set_option linter.unusedSimpArgs false
set_option linter.unusedVariables false
namespace Go.gF
open Go.Ab
set_option maxRecDepth 1000000
variable(G:Nat→af)(X:Nat→List af→ah→ai)
theorem ahC:hj G X 24=true:=by kernel_rfl
theorem ahD:hj G X 25=true:=by kernel_rfl
theorem ahE:hj G X 26=true:=by kernel_rfl
theorem ahF:hj G X 27=true:=by kernel_rfl
theorem ahG:hj G X 28=true:=by kernel_rfl
theorem ahH:hj G X 29=true:=by kernel_rfl
theorem ahI:hj G X 30=true:=by kernel_rfl
theorem ahJ:hj G X 31=true:=by kernel_rfl
theorem ahK:hj G X 32=true:=by kernel_rfl
end Go.gF
