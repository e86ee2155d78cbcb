/- A part of the proof: no condition. -/
import Derived.Test.YtgdnbfijkagodaaGreatDoorA4
import Derived.Test.YtgdnbfijkagodaaGreatDoorA7
import Derived.Test.YtgdnbfijkagodaaGreatDoorA2
import Derived.KernelRfl
set_option linter.unusedSectionVars false
set_option linter.unusedSimpArgs false
set_option linter.unusedVariables false
namespace Go.gw
open Go.Ab
def abi:Nat→List af→ag→ah:=fun _ _ _=>.fail
def pb:ag:={own:=[],up:=[],ro:=[]}
def Wd:Nat→af:=fun n=>bif Nat.beq n 0 then .bI jn else .dead
def acV(r:ah):Bool:=match r with |.ok (.bool b) _=>b|_=>false
set_option maxRecDepth 1000000
theorem ac7:acV (call aW.full aK Wd abi 1000 9 [] pb)=true:=by kernel_rfl
end Go.gw
