/- A part of the proof: no condition. -/
import Derived.Test.YtgdnbfijkagodaaGreatDoorA4
import Derived.Test.YtgdnbfijkagodaaGreatDoorA7
import Derived.Test.YtgdnbfijkagodaaGreatDoorA2
import Derived.KernelRfl
set_option linter.unusedSectionVars false
set_option linter.unusedSimpArgs false
set_option linter.unusedVariables false
namespace Go.gF
open Go.Ab
def agf:Nat→List af→ah→ai:=fun _ _ _=>.fail
def p4:ah:={own:=[],up:=[],ro:=[]}
def aa6:Nat→af:=fun n=>bif Nat.beq n 0 then .bk jO else .dead
def ahN(r:ai):Bool:=match r with |.ok (.bool b) _=>b|_=>false
set_option maxRecDepth 1000000
theorem ahZ:ahN (call a2.full aF aa6 agf 1000 9 [] p4)=true:=by kernel_rfl
end Go.gF
