/- A part of the proof: no condition. -/
import Derived.Test.YtgdnbfijkagodaaGreatDoorA7
import Derived.KernelRfl
set_option linter.unusedSectionVars false
set_option linter.unusedSimpArgs false
set_option linter.unusedVariables false
namespace Go.gF
open Go.Ab
set_option maxRecDepth 1000000
variable(G:Nat→af)(X:Nat→List af→ah→ai)
theorem aiq:hj G X 0=true:=by kernel_rfl
theorem air:hj G X 1=true:=by kernel_rfl
theorem ais:hj G X 2=true:=by kernel_rfl
theorem ait:hj G X 3=true:=by kernel_rfl
theorem aiu:hj G X 4=true:=by kernel_rfl
theorem aiv:hj G X 5=true:=by kernel_rfl
theorem aiw:hj G X 6=true:=by kernel_rfl
theorem aix:hj G X 7=true:=by kernel_rfl
end Go.gF
