/- A part of the proof: no condition. -/
import Derived.Test.YtgdnbfijkagodaaGreatDoorA12
import Derived.Test.YtgdnbfijkagodaaGreatDoorA3
import Derived.Test.YtgdnbfijkagodaaGreatDoorRows
set_option linter.unusedSectionVars false
set_option linter.unusedSimpArgs false
set_option linter.unusedVariables false
namespace Go.gl
open Go.Ab Go.hC Go.Proofs.YtgdnbfijkagodaaGreatDoor
section
variable{H:Type}
abbrev mR:p2:=.gH [.int .i64,.int .i64,.int .i64,.int .i64,.int .i64,.int .i64,.int .i64]
theorem RZ(e:p2)(es rest:List (DataW H)):ij (.bW e) (.slice es rest)=[.bW e.size (es.map fun x=>elemV (ij e x)) .any]:=by rw[ij]
theorem R0(jJ:List p2)(h9:List (DataW H)):ij (.gH jJ) (.agg h9)=ov jJ h9:=by rw[ij]
theorem js(s:p2)(ui:List p2)(d:DataW H)(h9:List (DataW H)):ov (s::ui) (d::h9)=ij s d++ov ui h9:=by rw[ov]
theorem sA{α β:Type}{f:α→ae}{g:β→ae}{p:β→Prop}:∀(es:List α),(∀x,x∈es→∃y,f x=g y∧p y)→∃e:List β,es.map f=e.map g∧e.length=es.length∧∀y,y∈e→p y
 |[],_=>⟨[],rfl,rfl,fun y h=>by cases h⟩
 |x::es,h=>by
  obtain⟨y,eM,fz⟩:=h x (by simp);obtain⟨e,ar,av,bV⟩:=sA es (fun x a5=>h x (by simp [a5]));refine⟨y::e,by simp [eM,ar],by simp [av],fun z g8=>?_⟩;rcases List.mem_cons.1 g8 with rfl |g8
  ·exact fz
  ·exact bV z g8
theorem qT(d:DataW H):1≤Rows.uptoBulk d:=by
 cases d with
 |lit l=>cases l<;> simp [Rows.uptoBulk]
 |_=>simp [Rows.uptoBulk]
theorem xb:∀l:List (DataW H),(∀x,x∈l→8≤Rows.uptoBulk x)→8*l.length≤Rows.uptoBulkAll l
 |[],_=>aD _
 |x::r,h=>by
  have:=h x (by simp)
  have:=xb r (fun y eM=>h y (by simp [eM]));simp only[Rows.uptoBulkAll,bP];omega
theorem oH{n:Int}(h:Lit.wf (.int .i64 n)=true):AI n:=by
 simp only[Lit.wf,bl,b8] at h;have BD:IntKind.min .i64= -9223372036854775808:=by decide
 have aet:IntKind.max .i64=9223372036854775807:=by decide
 rw[BD,aet] at h;exact h
theorem R1{d:DataW H}(h:jY mR d):∃p:uR,elemV (ij mR d)=p.enc∧p.Sj:=by simp only[jY,lI] at h;obtain⟨h9,rfl,d1,N,rfl,⟨kr,rfl,k1⟩,d2,O,rfl,⟨e,rfl,qb⟩,d3,U,rfl,⟨r,rfl,u⟩,d4,V,rfl,⟨y,rfl,A⟩,d5,Y,rfl,⟨B,rfl,F⟩,d6,Z,rfl,⟨I,rfl,J⟩,d7,aa,rfl,⟨K,rfl,M⟩,rfl⟩:=h;refine⟨⟨kr,e,r,y,B,I,K⟩,?_,oH k1,oH qb,oH u,oH A,oH F,oH J,oH M⟩;rw[R0,js,js,js,js,js,js,js];rfl
theorem Me{d:DataW H}(h:jY mR d):8≤Rows.uptoBulk d:=by
 simp only[jY,lI] at h;obtain⟨h9,rfl,d1,e,rfl,_,d2,r,rfl,_,d3,u,rfl,_,d4,y,rfl,_,d5,A,rfl,_,d6,B,rfl,_,d7,F,rfl,_,rfl⟩:=h
 have:=qT d1;have:=qT d2;have:=qT d3;have:=qT d4;have:=qT d5;have:=qT d6;have:=qT d7;simp only[Rows.uptoBulk,Rows.uptoBulkAll];omega
theorem Mf{d:DataW H}(h:jY (.bW mR) d)(u:Rows.uptoBulk d≤1048576):∃(l:List uR) (g:eZ),BE (.bW mR) d=sy l g∧(∀a,g≠.dx a)∧l.length≤131072∧∀p,p∈l→p.Sj:=by
 rw[show jY (.bW mR) d=(d=.nil∨∃es rest,d=.slice es rest∧es.length+rest.length≤maxLen∧∀x,x∈es→jY mR x) from by rw[jY]] at h;rcases h with rfl |⟨es,rest,rfl,bN,a5⟩
 ·exact⟨[],.nil,rfl,(fun a e=>by cases e),by decide,fun o h=>absurd h qv⟩
 ·simp only[Rows.uptoBulk] at u;obtain⟨l,ar,av,bV⟩:=sA (f:=fun x=>elemV (ij mR x)) (g:=uR.enc) (p:=uR.Sj) es (fun x r=>R1 (a5 x r));refine⟨l,.any,?_,(fun a e=>by cases e),?_,bV⟩
  ·unfold BE;simp only;rw[RZ,ar];rfl
  ·have:=xb es (fun x r=>Me (a5 x r));omega
end
end Go.gl
