/- A part of the proof: no condition. -/
import Derived.Test.YtgdnbfijkagodaaGreatDoorA7
import Derived.KernelRfl
set_option linter.unusedSectionVars false
set_option linter.unusedSimpArgs false
set_option linter.unusedVariables false
namespace Go.gF
open Go.Ab
set_option maxRecDepth 1000000
variable(G:Nat→af)(X:Nat→List af→ah→ai)
theorem ahu:hj G X 16=true:=by kernel_rfl
theorem ahv:hj G X 17=true:=by kernel_rfl
theorem ahw:hj G X 18=true:=by kernel_rfl
theorem ahx:hj G X 19=true:=by kernel_rfl
theorem ahy:hj G X 20=true:=by kernel_rfl
theorem ahz:hj G X 21=true:=by kernel_rfl
theorem ahA:hj G X 22=true:=by kernel_rfl
theorem ahB:hj G X 23=true:=by kernel_rfl
end Go.gF
