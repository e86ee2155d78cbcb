/- A part of the proof: no condition. -/
import Derived.Test.YtgdnbfijkagodaaGreatDoorA4
import Derived.Test.YtgdnbfijkagodaaGreatDoorA7
import Derived.Test.YtgdnbfijkagodaaGreatDoorA2
import Derived.KernelRfl
set_option linter.unusedSectionVars false
set_option linter.unusedSimpArgs false
set_option linter.unusedVariables false
namespace Go.gl
open Go.Ab
def aem:Nat→List ae→ag→ah:=fun _ _ _=>.fail
def pv:ag:={own:=[],up:=[],ro:=[]}
def Y5:Nat→ae:=fun n=>bif Nat.beq n 0 then .bh iT else .dead
def afS(r:ah):Bool:=match r with |.ok (.bool b) _=>b|_=>false
set_option maxRecDepth 1000000
theorem af4:afS (call aX.full aL Y5 aem 1000 9 [] pv)=true:=by kernel_rfl
end Go.gl
