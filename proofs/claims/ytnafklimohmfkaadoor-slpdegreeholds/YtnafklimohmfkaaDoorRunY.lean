/- A function without arguments, as the abstract evaluator runs it, answers true: no condition. -/
import Derived.Test.YtnafklimohmfkaaDoorTabY
import Derived.Test.YtnafklimohmfkaaDoorCall
import Derived.KernelRfl
namespace Go.AbY
open Go.Ab
def X0 : Nat → List AV → St → Res := fun _ _ _ => .fail
def noSt : St := { own := [], up := [], ro := [] }
def okT (r : Res) : Bool := match r with | .ok (.bool b) _ => b | _ => false
set_option maxRecDepth 1000000
theorem r6 : okT (call Force.full T1 (fun _ => .dead) X0 1000 6 [] noSt) = true := by kernel_rfl
end Go.AbY
