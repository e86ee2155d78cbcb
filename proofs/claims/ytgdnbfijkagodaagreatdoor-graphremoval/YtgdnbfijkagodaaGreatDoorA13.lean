/- A part of the proof: no condition. -/
import Derived.Test.YtgdnbfijkagodaaGreatDoorA12
import Derived.Test.YtgdnbfijkagodaaGreatDoorA3
import Derived.Test.YtgdnbfijkagodaaGreatDoorRows
set_option linter.unusedSectionVars false
set_option linter.unusedSimpArgs false
set_option linter.unusedVariables false
namespace Go.gF
open Go.Ab Go.hV Go.Proofs.YtgdnbfijkagodaaGreatDoor
section
variable{H:Type}
abbrev nr:qI:=.gE [.int .i64,.int .i64,.int .i64,.int .i64,.int .i64,.int .i64,.int .i64]
theorem TU(e:qI)(es rest:List (DataW H)):iL (.bx e) (.slice es rest)=[.bx e.size (es.map fun x=>elemV (iL e x)) .any]:=by rw[iL]
theorem TV(kb:List qI)(iE:List (DataW H)):iL (.gE kb) (.agg iE)=o7 kb iE:=by rw[iL]
theorem jQ(s:qI)(ve:List qI)(d:DataW H)(iE:List (DataW H)):o7 (s::ve) (d::iE)=iL s d++o7 ve iE:=by rw[o7]
theorem tp{α β:Type}{f:α→af}{g:β→af}{p:β→Prop}:∀(es:List α),(∀x,x∈es→∃y,f x=g y∧p y)→∃e:List β,es.map f=e.map g∧e.length=es.length∧∀y,y∈e→p y
 |[],_=>⟨[],rfl,rfl,fun y h=>by cases h⟩
 |x::es,h=>by
  obtain⟨y,ez,fS⟩:=h x (by simp);obtain⟨e,ar,aw,bS⟩:=tp es (fun x a1=>h x (by simp [a1]));refine⟨y::e,by simp [ez,ar],by simp [aw],fun z gA=>?_⟩;rcases List.mem_cons.1 gA with rfl |gA
  ·exact fS
  ·exact bS z gA
theorem rF(d:DataW H):1≤Rows.uptoBulk d:=by
 cases d with
 |lit l=>cases l<;> simp [Rows.uptoBulk]
 |_=>simp [Rows.uptoBulk]
theorem x2:∀l:List (DataW H),(∀x,x∈l→8≤Rows.uptoBulk x)→8*l.length≤Rows.uptoBulkAll l
 |[],_=>aC _
 |x::r,h=>by
  have:=h x (by simp)
  have:=x2 r (fun y ez=>h y (by simp [ez]));simp only[Rows.uptoBulkAll,bT];omega
theorem n0{n:Int}(h:Lit.wf (.int .i64 n)=true):vj n:=by
 simp only[Lit.wf,bo,b9] at h;have zA:IntKind.min .i64= -9223372036854775808:=by decide
 have abO:IntKind.max .i64=9223372036854775807:=by decide
 rw[zA,abO] at h;exact h
theorem TW{d:DataW H}(h:jq (.int .i64) d):∃n:Int,d=.lit (.int .i64 n)∧wW (.int .i64) d=I n∧vj n:=by simp only[jq] at h;obtain⟨n,rfl,cZ⟩:=h;exact⟨n,rfl,rfl,n0 cZ⟩
theorem TX{d:DataW H}(h:jq nr d):∃p:xX,elemV (iL nr d)=p.enc∧p.aaP:=by simp only[jq,lE] at h;obtain⟨iE,rfl,d1,O,rfl,⟨jk,rfl,k1⟩,d2,U,rfl,⟨e,rfl,pz⟩,d3,V,rfl,⟨r,rfl,u⟩,d4,Y,rfl,⟨y,rfl,A⟩,d5,Z,rfl,⟨B,rfl,F⟩,d6,aa,rfl,⟨I,rfl,J⟩,d7,ab,rfl,⟨M,rfl,N⟩,rfl⟩:=h;refine⟨⟨jk,e,r,y,B,I,M⟩,?_,n0 k1,n0 pz,n0 u,n0 A,n0 F,n0 J,n0 N⟩;rw[TV,jQ,jQ,jQ,jQ,jQ,jQ,jQ];rfl
theorem N6{d:DataW H}(h:jq nr d):8≤Rows.uptoBulk d:=by
 simp only[jq,lE] at h;obtain⟨iE,rfl,d1,e,rfl,_,d2,r,rfl,_,d3,u,rfl,_,d4,y,rfl,_,d5,A,rfl,_,d6,B,rfl,_,d7,F,rfl,_,rfl⟩:=h
 have:=rF d1;have:=rF d2;have:=rF d3;have:=rF d4;have:=rF d5;have:=rF d6;have:=rF d7;simp only[Rows.uptoBulk,Rows.uptoBulkAll];omega
theorem N7{d:DataW H}(h:jq (.bx nr) d)(u:Rows.uptoBulk d≤1048576):∃(l:List xX) (g:e0),wW (.bx nr) d=u2 l g∧(∀a,g≠.cP a)∧l.length≤131072∧∀p,p∈l→p.aaP:=by
 rw[show jq (.bx nr) d=(d=.nil∨∃es rest,d=.slice es rest∧es.length+rest.length≤maxLen∧∀x,x∈es→jq nr x) from by rw[jq]] at h;rcases h with rfl |⟨es,rest,rfl,bU,a1⟩
 ·exact⟨[],.nil,rfl,(fun a e=>by cases e),by decide,fun o h=>absurd h rc⟩
 ·simp only[Rows.uptoBulk] at u;obtain⟨l,ar,aw,bS⟩:=tp (f:=fun x=>elemV (iL nr x)) (g:=xX.enc) (p:=xX.aaP) es (fun x r=>TX (a1 x r));refine⟨l,.any,?_,(fun a e=>by cases e),?_,bS⟩
  ·unfold wW;simp only;rw[TU,ar];rfl
  ·have:=x2 es (fun x r=>N6 (a1 x r));omega
end
end Go.gF
