/- What the claim's texts say of a part of the evaluator and of the program's functions: for every argument that they name. -/
import Derived.Test.YtnafklimohmfkaaGreatDoorA3
import Derived.Test.YtnafklimohmfkaaGreatDoorA2
import Derived.KernelRfl
set_option linter.unusedSectionVars false
set_option linter.unusedSimpArgs false
set_option linter.unusedVariables false
namespace Go.jY
open Go.Ab
def X0:Nat→List AV→St→ax:=fun _ _ _=>.fail
def ue:St:={own:=[],up:=[],ro:=[]}
def okT(r:ax):Bool:=match r with | .ok (.bool b) _=>b | _=>false
set_option maxRecDepth 1000000
theorem r10:okT (call a6.full T1 (fun _=>.dead) X0 1000 10 [] ue)=true:=by kernel_rfl
end Go.jY
