/- A part of the proof: no condition. -/
import Derived.Test.YtgdnbfijkagodaaGreatDoorA12
import Derived.Test.YtgdnbfijkagodaaGreatDoorA3
import Derived.Test.YtgdnbfijkagodaaGreatDoorRows
set_option linter.unusedSectionVars false
set_option linter.unusedSimpArgs false
set_option linter.unusedVariables false
namespace Go.gR
open Go.Ab Go.hO Go.Proofs.YtgdnbfijkagodaaGreatDoor
section
variable{H:Type}
abbrev r9:pq:=.cr (.int .i64)
abbrev mD:pq:=.gP [.int .i64,.int .i64,.int .i64,.int .i64,.int .i64,.int .i64,.int .i64]
theorem CJ(e:pq)(es rest:List (DataW H)):hU (.cr e) (.slice es rest)=[.cr e.size (es.map fun x=>elemV (hU e x)) .any]:=by rw[hU]
theorem OA(jy:List pq)(h3:List (DataW H)):hU (.gP jy) (.agg h3)=n7 jy h3:=by rw[hU]
theorem je(s:pq)(tF:List pq)(d:DataW H)(h3:List (DataW H)):n7 (s::tF) (d::h3)=hU s d++n7 tF h3:=by rw[n7]
theorem ol{α β:Type}{f:α→ae}{g:β→ae}{p:β→Prop}:∀(es:List α),(∀x,x∈es→∃y,f x=g y∧p y)→∃e:List β,es.map f=e.map g∧e.length=es.length∧∀y,y∈e→p y
 |[],_=>⟨[],rfl,rfl,fun y h=>by cases h⟩
 |x::es,h=>by
  obtain⟨y,eQ,fp⟩:=h x (by simp);obtain⟨e,ar,av,bO⟩:=ol es (fun x a9=>h x (by simp [a9]));refine⟨y::e,by simp [eQ,ar],by simp [av],fun z hC=>?_⟩;rcases List.mem_cons.1 hC with rfl |hC
  ·exact fp
  ·exact bO z hC
theorem ph(d:DataW H):1≤Rows.uptoBulk d:=by
 cases d with
 |lit l=>cases l<;> simp [Rows.uptoBulk]
 |_=>simp [Rows.uptoBulk]
theorem x0:∀l:List (DataW H),l.length≤Rows.uptoBulkAll l
 |[]=>aB _
 |x::r=>by
  have:=ph x
  have:=x0 r;simp only[Rows.uptoBulkAll,bT];omega
theorem wk:∀l:List (DataW H),(∀x,x∈l→8≤Rows.uptoBulk x)→8*l.length≤Rows.uptoBulkAll l
 |[],_=>aB _
 |x::r,h=>by
  have:=h x (by simp)
  have:=wk r (fun y eQ=>h y (by simp [eQ]));simp only[Rows.uptoBulkAll,bT];omega
theorem lT{n:Int}(h:Lit.wf (.int .i64 n)=true):qs n:=by
 simp only[Lit.wf,bm,b6] at h;have Aa:IntKind.min .i64= -9223372036854775808:=by decide
 have aaA:IntKind.max .i64=9223372036854775807:=by decide
 rw[Aa,aaA] at h;exact h
theorem OB{d:DataW H}(h:h8 (.int .i64) d):∃n:Int,d=.lit (.int .i64 n)∧pV (.int .i64) d=I n∧qs n:=by simp only[h8] at h;obtain⟨n,rfl,dk⟩:=h;exact⟨n,rfl,rfl,lT dk⟩
theorem JB{d:DataW H}(h:h8 r9 d):∃(l:List Int) (g:e2),pV r9 d=fY l g∧(∀a,g≠.dt a)∧l.length≤Rows.uptoBulk d∧∀a,a∈l→qs a:=by
 simp only[h8] at h;rcases h with rfl |⟨es,rest,rfl,bK,a9⟩
 ·exact⟨[],.nil,rfl,(fun a e=>by cases e),Nat.zero_le _,fun a h=>by cases h⟩
 ·obtain⟨l,ar,av,bO⟩:=ol (f:=fun x=>elemV (hU (.int .i64) x)) (g:=I) (p:=qs) es (fun x r=>by
   obtain⟨n,rfl,dk⟩:=a9 x r;exact⟨n,rfl,lT dk⟩)
  refine⟨l,.any,?_,(fun a e=>by cases e),?_,bO⟩
  ·unfold pV;simp only;rw[CJ,ar];rfl
  ·have:=x0 es;simp only[Rows.uptoBulk];omega
theorem OC{d:DataW H}(h:h8 mD d):∃p:ui,elemV (hU mD d)=p.enc∧p.OI:=by simp only[h8,kn] at h;obtain⟨h3,rfl,d1,M,rfl,⟨ka,rfl,k1⟩,d2,N,rfl,⟨e,rfl,pI⟩,d3,O,rfl,⟨r,rfl,u⟩,d4,U,rfl,⟨y,rfl,A⟩,d5,V,rfl,⟨B,rfl,F⟩,d6,Y,rfl,⟨I,rfl,J⟩,d7,Z,rfl,⟨K,rfl,L⟩,rfl⟩:=h;refine⟨⟨ka,e,r,y,B,I,K⟩,?_,lT k1,lT pI,lT u,lT A,lT F,lT J,lT L⟩;rw[OA,je,je,je,je,je,je,je];rfl
theorem JC{d:DataW H}(h:h8 mD d):8≤Rows.uptoBulk d:=by
 simp only[h8,kn] at h;obtain⟨h3,rfl,d1,e,rfl,_,d2,r,rfl,_,d3,u,rfl,_,d4,y,rfl,_,d5,A,rfl,_,d6,B,rfl,_,d7,F,rfl,_,rfl⟩:=h
 have:=ph d1;have:=ph d2;have:=ph d3;have:=ph d4;have:=ph d5;have:=ph d6;have:=ph d7;simp only[Rows.uptoBulk,Rows.uptoBulkAll];omega
theorem JD{d:DataW H}(h:h8 (.cr mD) d)(u:Rows.uptoBulk d≤1048576):∃(l:List ui) (g:e2),pV (.cr mD) d=r6 l g∧(∀a,g≠.dt a)∧l.length≤131072∧∀p,p∈l→p.OI:=by
 rw[show h8 (.cr mD) d=(d=.nil∨∃es rest,d=.slice es rest∧es.length+rest.length≤maxLen∧∀x,x∈es→h8 mD x) from by rw[h8]] at h;rcases h with rfl |⟨es,rest,rfl,bK,a9⟩
 ·exact⟨[],.nil,rfl,(fun a e=>by cases e),by decide,fun o h=>absurd h p3⟩
 ·simp only[Rows.uptoBulk] at u;obtain⟨l,ar,av,bO⟩:=ol (f:=fun x=>elemV (hU mD x)) (g:=ui.enc) (p:=ui.OI) es (fun x r=>OC (a9 x r));refine⟨l,.any,?_,(fun a e=>by cases e),?_,bO⟩
  ·unfold pV;simp only;rw[CJ,ar];rfl
  ·have:=wk es (fun x r=>JC (a9 x r));omega
end
end Go.gR
