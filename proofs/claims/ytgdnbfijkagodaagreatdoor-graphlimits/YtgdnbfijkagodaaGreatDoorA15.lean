/- A part of the proof: no condition. -/
import Derived.Test.YtgdnbfijkagodaaGreatDoorA4
import Derived.Test.YtgdnbfijkagodaaGreatDoorA7
import Derived.Test.YtgdnbfijkagodaaGreatDoorA2
import Derived.KernelRfl
set_option linter.unusedSectionVars false
set_option linter.unusedSimpArgs false
set_option linter.unusedVariables false
namespace Go.f0
open Go.Ab
def W0:Nat→List ae→ag→ah:=fun _ _ _=>.fail
def ox:ag:={own:=[],up:=[],ro:=[]}
def R6:Nat→ae:=fun n=>bif Nat.beq n 0 then .bU kE else .dead
def YC(r:ah):Bool:=match r with |.ok (.bool b) _=>b|_=>false
set_option maxRecDepth 1000000
theorem YQ:YC (call aN.full a4 R6 W0 1000 9 [] ox)=true:=by kernel_rfl
end Go.f0
