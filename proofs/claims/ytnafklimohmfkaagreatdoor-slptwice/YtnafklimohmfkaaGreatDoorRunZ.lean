/- A function without arguments, as the abstract evaluator runs it, answers true: no condition. -/
import Derived.Test.YtnafklimohmfkaaGreatDoorTabZ
import Derived.Test.YtnafklimohmfkaaGreatDoorCall
import Derived.KernelRfl
namespace Go.AbZ
open Go.Ab
def X0 : Nat → List AV → St → Res := fun _ _ _ => .fail
def noSt : St := { own := [], up := [], ro := [] }
def okT (r : Res) : Bool := match r with | .ok (.bool b) _ => b | _ => false
set_option maxRecDepth 1000000
theorem r10 : okT (call Force.full T1 (fun _ => .dead) X0 1000 10 [] noSt) = true := by kernel_rfl
end Go.AbZ
