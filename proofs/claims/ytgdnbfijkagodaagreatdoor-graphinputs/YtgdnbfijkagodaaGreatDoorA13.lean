/- A part of the proof: no condition. -/
import Derived.Test.YtgdnbfijkagodaaGreatDoorA12
import Derived.Test.YtgdnbfijkagodaaGreatDoorA3
import Derived.Test.YtgdnbfijkagodaaGreatDoorRows
set_option linter.unusedSectionVars false
set_option linter.unusedSimpArgs false
set_option linter.unusedVariables false
namespace Go.gw
open Go.Ab Go.hK Go.Proofs.YtgdnbfijkagodaaGreatDoor
section
variable{H:Type}
abbrev mL:pI:=.gT [.int .i64,.int .i64,.int .i64,.int .i64,.int .i64,.int .i64,.int .i64]
theorem Pp(e:pI)(es rest:List (DataW H)):ij (.bG e) (.slice es rest)=[.bG e.size (es.map fun x=>elemV (ij e x)) .any]:=by rw[ij]
theorem Pq(jH:List pI)(ib:List (DataW H)):ij (.gT jH) (.agg ib)=oe jH ib:=by rw[ij]
theorem jq(s:pI)(tK:List pI)(d:DataW H)(ib:List (DataW H)):oe (s::tK) (d::ib)=ij s d++oe tK ib:=by rw[oe]
theorem sf{α β:Type}{f:α→af}{g:β→af}{p:β→Prop}:∀(es:List α),(∀x,x∈es→∃y,f x=g y∧p y)→∃e:List β,es.map f=e.map g∧e.length=es.length∧∀y,y∈e→p y
 |[],_=>⟨[],rfl,rfl,fun y h=>by cases h⟩
 |x::es,h=>by
  obtain⟨y,eT,fC⟩:=h x (by simp);obtain⟨e,au,az,b3⟩:=sf es (fun x a8=>h x (by simp [a8]));refine⟨y::e,by simp [eT,au],by simp [az],fun z hC=>?_⟩;rcases List.mem_cons.1 hC with rfl |hC
  ·exact fC
  ·exact b3 z hC
theorem qA(d:DataW H):1≤Rows.uptoBulk d:=by
 cases d with
 |lit l=>cases l<;> simp [Rows.uptoBulk]
 |_=>simp [Rows.uptoBulk]
theorem wz:∀l:List (DataW H),(∀x,x∈l→8≤Rows.uptoBulk x)→8*l.length≤Rows.uptoBulkAll l
 |[],_=>aC _
 |x::r,h=>by
  have:=h x (by simp)
  have:=wz r (fun y eT=>h y (by simp [eT]));simp only[Rows.uptoBulkAll,bP];omega
theorem ox{n:Int}(h:Lit.wf (.int .i64 n)=true):zK n:=by
 simp only[Lit.wf,bn,b1] at h;have As:IntKind.min .i64= -9223372036854775808:=by decide
 have abp:IntKind.max .i64=9223372036854775807:=by decide
 rw[As,abp] at h;exact h
theorem Pr{d:DataW H}(h:jW mL d):∃p:wv,elemV (ij mL d)=p.enc∧p.V7:=by simp only[jW,lI] at h;obtain⟨ib,rfl,d1,L,rfl,⟨jA,rfl,k1⟩,d2,M,rfl,⟨e,rfl,oR⟩,d3,N,rfl,⟨q,rfl,r⟩,d4,O,rfl,⟨u,rfl,y⟩,d5,U,rfl,⟨A,rfl,B⟩,d6,V,rfl,⟨F,rfl,I⟩,d7,Y,rfl,⟨J,rfl,K⟩,rfl⟩:=h;refine⟨⟨jA,e,q,u,A,F,J⟩,?_,ox k1,ox oR,ox r,ox y,ox B,ox I,ox K⟩;rw[Pq,jq,jq,jq,jq,jq,jq,jq];rfl
theorem J7{d:DataW H}(h:jW mL d):8≤Rows.uptoBulk d:=by
 simp only[jW,lI] at h;obtain⟨ib,rfl,d1,e,rfl,_,d2,q,rfl,_,d3,r,rfl,_,d4,u,rfl,_,d5,y,rfl,_,d6,A,rfl,_,d7,B,rfl,_,rfl⟩:=h
 have:=qA d1;have:=qA d2;have:=qA d3;have:=qA d4;have:=qA d5;have:=qA d6;have:=qA d7;simp only[Rows.uptoBulk,Rows.uptoBulkAll];omega
theorem J8{d:DataW H}(h:jW (.bG mL) d)(r:Rows.uptoBulk d≤1048576):∃(l:List wv) (g:fi),At (.bG mL) d=tB l g∧(∀a,g≠.dB a)∧l.length≤131072∧∀p,p∈l→p.V7:=by
 rw[show jW (.bG mL) d=(d=.nil∨∃es rest,d=.slice es rest∧es.length+rest.length≤maxLen∧∀x,x∈es→jW mL x) from by rw[jW]] at h;rcases h with rfl |⟨es,rest,rfl,bK,a8⟩
 ·exact⟨[],.nil,rfl,(fun a e=>by cases e),by decide,fun o h=>absurd h mi⟩
 ·simp only[Rows.uptoBulk] at r;obtain⟨l,au,az,b3⟩:=sf (f:=fun x=>elemV (ij mL x)) (g:=wv.enc) (p:=wv.V7) es (fun x q=>Pr (a8 x q));refine⟨l,.any,?_,(fun a e=>by cases e),?_,b3⟩
  ·unfold At;simp only;rw[Pp,au];rfl
  ·have:=wz es (fun x q=>J7 (a8 x q));omega
end
end Go.gw
