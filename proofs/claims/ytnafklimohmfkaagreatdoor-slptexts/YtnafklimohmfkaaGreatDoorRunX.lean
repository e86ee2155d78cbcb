/- A function without arguments, as the abstract evaluator runs it, answers true: no condition. -/
import Derived.Test.YtnafklimohmfkaaGreatDoorTabX
import Derived.Test.YtnafklimohmfkaaGreatDoorX3
import Derived.Test.YtnafklimohmfkaaGreatDoorCall
import Derived.KernelRfl
namespace Go.AbX
open Go.Ab
def X0 : Nat → List AV → St → Res := fun _ _ _ => .fail
def noSt : St := { own := [], up := [], ro := [] }
/-- What lies at the program's variables. -/
def GX : Nat → AV := fun n => bif Nat.beq n 0 then .vptr powCs else .dead
def okT (r : Res) : Bool := match r with | .ok (.bool b) _ => b | _ => false
set_option maxRecDepth 1000000
theorem r10 : okT (call Force.full T1 GX X0 1000 10 [] noSt) = true := by kernel_rfl
end Go.AbX
