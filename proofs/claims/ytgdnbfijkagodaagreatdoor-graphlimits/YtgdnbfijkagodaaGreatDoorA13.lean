/- A part of the proof: no condition. -/
import Derived.Test.YtgdnbfijkagodaaGreatDoorA12
import Derived.Test.YtgdnbfijkagodaaGreatDoorA3
import Derived.Test.YtgdnbfijkagodaaGreatDoorRows
set_option linter.unusedSectionVars false
set_option linter.unusedSimpArgs false
set_option linter.unusedVariables false
namespace Go.f0
open Go.Ab Go.hb Go.Proofs.YtgdnbfijkagodaaGreatDoor
section
variable{H:Type}
theorem RY{n:Int}(h:Lit.wf (.int .i64 n)=true):Lu n:=by
 simp only[Lit.wf,bm,cj] at h;have zb:IntKind.min .i64= -9223372036854775808:=by decide
 have SM:IntKind.max .i64=9223372036854775807:=by decide
 rw[zb,SM] at h;exact h
theorem vi{d:DataW H}(h:jN (.int .i64) d):∃n:Int,d=.lit (.int .i64 n)∧st (.int .i64) d=I n∧Lu n:=by simp only[jN] at h;obtain⟨n,rfl,df⟩:=h;exact⟨n,rfl,rfl,RY df⟩
theorem G7{d:DataW H}(h:jN .bool d):∃b:Bool,d=.lit (.bool b)∧st .bool d=.bool b:=by simp only[jN] at h;obtain⟨b,rfl⟩:=h;exact⟨b,rfl,rfl⟩
end
end Go.f0
