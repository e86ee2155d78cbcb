/- A part of the proof: no condition. -/
import Derived.Test.YtgdnbfijkagodaaGreatDoorA7
import Derived.KernelRfl
set_option linter.unusedSectionVars false
set_option linter.unusedSimpArgs false
set_option linter.unusedVariables false
namespace Go.gF
open Go.Ab
set_option maxRecDepth 1000000
variable(G:Nat→af)(X:Nat→List af→ah→ai)
theorem aiy:hj G X 8=true:=by kernel_rfl
theorem aiz:hj G X 9=true:=by kernel_rfl
theorem aho:hj G X 10=true:=by kernel_rfl
theorem ahp:hj G X 11=true:=by kernel_rfl
theorem ahq:hj G X 12=true:=by kernel_rfl
theorem ahr:hj G X 13=true:=by kernel_rfl
theorem ahs:hj G X 14=true:=by kernel_rfl
theorem aht:hj G X 15=true:=by kernel_rfl
end Go.gF
