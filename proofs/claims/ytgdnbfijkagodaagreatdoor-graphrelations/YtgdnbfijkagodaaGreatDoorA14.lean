/- A part of the proof: no condition. -/
import Derived.Test.YtgdnbfijkagodaaGreatDoorA4
import Derived.Test.YtgdnbfijkagodaaGreatDoorA7
import Derived.Test.YtgdnbfijkagodaaGreatDoorA2
import Derived.KernelRfl
set_option linter.unusedSectionVars false
set_option linter.unusedSimpArgs false
set_option linter.unusedVariables false
namespace Go.gR
open Go.Ab
def aat:Nat→List ae→ag→ah:=fun _ _ _=>.fail
def o2:ag:={own:=[],up:=[],ro:=[]}
def Vi:Nat→ae:=fun n=>bif Nat.beq n 0 then .bP iN else .dead
def ab1(r:ah):Bool:=match r with |.ok (.bool b) _=>b|_=>false
set_option maxRecDepth 1000000
theorem acf:ab1 (call aU.full aR Vi aat 1000 9 [] o2)=true:=by kernel_rfl
end Go.gR
