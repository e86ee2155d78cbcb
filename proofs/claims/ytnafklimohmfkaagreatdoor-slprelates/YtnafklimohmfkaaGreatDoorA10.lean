/- A part of the proof: no condition. -/
import Derived.Test.YtnafklimohmfkaaGreatDoorA3
import Derived.Test.YtnafklimohmfkaaGreatDoorA2
import Derived.KernelRfl
set_option linter.unusedSectionVars false
namespace Go.h6
open Go.Ab
def avz:Nat→List ai→aq→ao:=fun _ _ _=>.fail
def pZ:aq:={own:=[],up:=[],ro:=[]}
def awn(r:ao):Bool:=match r with |.ok (.bool b) _=>b|_=>false
set_option maxRecDepth 1000000
theorem aw5:awn (call bb.full au (fun _=>.dead) avz 1000 10 [] pZ)=true:=by kernel_rfl
end Go.h6
