/- A part of the proof: no condition. -/
import Derived.Test.YtnafklimohmfkaaGreatDoorA8
import Derived.Test.YtnafklimohmfkaaGreatDoorA2
import Derived.Test.YtnafklimohmfkaaGreatDoorRows
set_option linter.unusedSectionVars false
namespace Go.h6
open Go.Ab Go.hd Go.Proofs.YtnafklimohmfkaaGreatDoor
section
variable{H:Type}
abbrev q0:pC:=.aW (.int .i64)
abbrev vy:pC:=.ez [.bool,.aW (.int .u32)]
abbrev rQ:pC:=.ez [vy,vy]
abbrev kt:pC:=.ez [.str,.int .i64,q0,rQ,rQ,.int .i64]
theorem Bi(e:pC)(es rest:List (DataW H)):gK (.aW e) (.slice es rest)=[.aW e.size (es.map fun x=>elemV (gK e x)) .any]:=by rw[gK]
theorem uM(j7:List pC)(ib:List (DataW H)):gK (.ez j7) (.agg ib)=pd j7 ib:=by rw[gK]
theorem gd(s:pC)(w8:List pC)(d:DataW H)(ib:List (DataW H)):pd (s::w8) (d::ib)=gK s d++pd w8 ib:=by rw[pd]
theorem mK{α β:Type}{f:α→ai}{g:β→ai}{p:β→Prop}:∀(es:List α),(∀x,x∈es→∃y,f x=g y∧p y)→∃e:List β,es.map f=e.map g∧e.length=es.length∧∀y,y∈e→p y
 |[],_=>⟨[],rfl,rfl,fun y h=>by cases h⟩
 |x::es,h=>by
  obtain⟨y,dX,aU⟩:=h x (by simp);obtain⟨e,aD,aG,bz⟩:=mK es (fun x aT=>h x (by simp [aT]));refine⟨y::e,by simp [dX,aD],by simp [aG],fun z io=>?_⟩;rcases List.mem_cons.1 io with rfl |io
  ·exact aU
  ·exact bz z io
theorem avs(d:DataW H):1≤Rows.uptoBulk d:=by
 cases d with
 |lit l=>cases l<;> simp [Rows.uptoBulk]
 |_=>simp [Rows.uptoBulk]
theorem q1:∀l:List (DataW H),l.length≤Rows.uptoBulkAll l
 |[]=>aX _
 |x::r=>by
  have:=avs x
  have:=q1 r;simp only[Rows.uptoBulkAll,c0];omega
theorem CZ{d:DataW H}:∀{l:List (DataW H)},d∈l→Rows.uptoBulk d≤Rows.uptoBulkAll l
 |x::r,h=>by
  simp only[Rows.uptoBulkAll];cases List.mem_cons.1 h with
  |inl e=>subst e;omega
  |inr e=>have:=CZ e;omega
theorem C0{d:DataW H}(h:gX q0 d):∃(l:List Int) (g:cd),gK q0 d=[dx l g]∧(∀a,g≠.bQ a)∧l.length≤Rows.uptoBulk d:=by
 simp only[gX] at h;rcases h with rfl |⟨es,rest,rfl,br,aT⟩
 ·exact⟨[],.nil,rfl,(fun a e=>by cases e),Nat.zero_le _⟩
 ·obtain⟨l,aD,aG,_⟩:=mK (f:=fun x=>elemV (gK (.int .i64) x)) (g:=I) (p:=fun _=>True) es (fun x r=>by
   obtain⟨n,rfl,_⟩:=aT x r;exact⟨n,rfl,trivial⟩)
  refine⟨l,.any,?_,(fun a e=>by cases e),?_⟩
  ·rw[Bi,aD];rfl
  ·have:=q1 es;simp only[Rows.uptoBulk];omega
theorem MT{d:DataW H}(h:gX vy d)(r:Rows.uptoBulk d≤1048576):∃n:iT,gK vy d=[.bool n.neg,n.v]∧oI n:=by
 simp only[gX,gh] at h;obtain⟨ib,rfl,d1,I,rfl,⟨b,rfl⟩,d2,J,rfl,aG,rfl⟩:=h;have u:Rows.uptoBulk d2≤1048576:=by simp only[Rows.uptoBulk,Rows.uptoBulkAll] at r;omega
 have key:∃(l:List Nat) (g:cd),gK (.aW (.int .u32)) d2=[.aW 1 (l.map U) g]∧(∀a,g≠.bQ a)∧ci l∧l.length≤1048576:=by
  rcases aG with rfl |⟨es,rest,rfl,br,aT⟩
  ·exact⟨[],.nil,rfl,(fun a e=>by cases e),(fun x aT=>absurd aT mc),Nat.zero_le _⟩
  ·obtain⟨l,aD,bz,cz⟩:=mK (f:=fun x=>elemV (gK (.int .u32) x)) (g:=U) (p:=fun n=>n<B) es (fun x y=>by
    obtain⟨n,rfl,bX⟩:=aT x y;simp only[Lit.wf,bL,ij] at bX;obtain⟨h5,hW⟩:=bX;have xl:IntKind.min .u32=0:=by decide
    have oh:IntKind.max .u32=4294967295:=by decide
    rw[xl] at h5;rw[oh] at hW;obtain⟨m,rfl⟩:=Int.eq_ofNat_of_zero_le h5;exact⟨m,rfl,by show m<4294967296;omega⟩)
   refine⟨l,.any,?_,(fun a e=>by cases e),cz,?_⟩
   ·rw[Bi,aD];rfl
   ·have:=q1 es;simp only[Rows.uptoBulk] at u;omega
 obtain⟨l,g,e,bD,b6,hlen⟩:=key;refine⟨⟨b,l,g⟩,?_,bD,b6,by show l.length<_;omega⟩;rw[uM,gd,gd,e];rfl
theorem MU{d:DataW H}(h:gX rQ d)(e:Rows.uptoBulk d≤1048576):∃m n:iT,gK rQ d=[.bool m.neg,m.v,.bool n.neg,n.v]∧oI m∧oI n:=by rw[show gX rQ d=∃ib,d=.agg ib∧gh [vy,vy] ib from by rw[gX]] at h;obtain⟨ib,rfl,h⟩:=h;rw[gh] at h;obtain⟨d1,u,rfl,aD,h⟩:=h;rw[gh] at h;obtain⟨d2,y,rfl,aG,h⟩:=h;rw[gh] at h;subst h;simp only[Rows.uptoBulk,Rows.uptoBulkAll] at e;obtain⟨m,bU,gw⟩:=MT aD (by omega);obtain⟨n,r,hj⟩:=MT aG (by omega);refine⟨m,n,?_,gw,hj⟩;rw[uM,gd,gd,bU,r];rfl
theorem RI{d:DataW H}(h:gX kt d)(u:Rows.uptoBulk d≤1048576):∃x:aO,elemV (gK kt d)=x.enc∧mh x:=by
 rw[show gX kt d=∃ib,d=.agg ib∧gh [.str,.int .i64,q0,rQ,rQ,.int .i64] ib from by rw[gX]] at h;obtain⟨ib,rfl,h⟩:=h;rw[gh] at h;obtain⟨d1,M,rfl,aD,h⟩:=h;rw[gh] at h;obtain⟨d2,N,rfl,aG,h⟩:=h;rw[gh] at h;obtain⟨d3,O,rfl,bz,h⟩:=h;rw[gh] at h;obtain⟨d4,Q,rfl,cz,h⟩:=h;rw[gh] at h;obtain⟨d5,R,rfl,y,h⟩:=h;rw[gh] at h;obtain⟨d6,U,rfl,r,h⟩:=h;rw[gh] at h;subst h;simp only[Rows.uptoBulk,Rows.uptoBulkAll] at u;simp only[gX] at aD aG r;obtain⟨eB,rfl,_⟩:=aD;obtain⟨op,rfl,_⟩:=aG;obtain⟨oS,rfl,_⟩:=r;obtain⟨e,g0,B,bD,jw⟩:=C0 bz;obtain⟨wT,fj,I,J,gw⟩:=MU cz (by omega);obtain⟨B7,xW,K,hj,L⟩:=MU y (by omega);refine⟨⟨eB.map UInt8.toNat,op,e,g0,wT,fj,B7,xW,oS⟩,?_,bD,by show e.length<_;omega,J,gw,hj,L⟩
 have:gK kt (.agg [.lit (.string eB),.lit (.int .i64 op),d3,d4,d5,.lit (.int .i64 oS)])=[.str (eB.map UInt8.toNat),.int .i64 op,dx e g0,.bool wT.neg,wT.v,.bool fj.neg,fj.v,.bool B7.neg,B7.v,.bool xW.neg,xW.v,.int .i64 oS]:=by rw[uM,gd,gd,gd,gd,gd,gd,B,I,K];rfl
 rw[this];rfl
theorem RJ{d:DataW H}(h:gX (.aW kt) d)(u:Rows.uptoBulk d≤1048576):∃(l:List aO) (g:cd),y1 (.aW kt) d=bP l g∧(∀a,g≠.bQ a)∧l.length<9223372036854775806∧∀o,o∈l→mh o:=by
 rw[show gX (.aW kt) d=(d=.nil∨∃es rest,d=.slice es rest∧es.length+rest.length≤maxLen∧∀x,x∈es→gX kt x) from by rw[gX]] at h;rcases h with rfl |⟨es,rest,rfl,br,aT⟩
 ·exact⟨[],.nil,rfl,(fun a e=>by cases e),by decide,fun o h=>absurd h mc⟩
 ·simp only[Rows.uptoBulk] at u;obtain⟨l,aD,aG,bz⟩:=mK (f:=fun x=>elemV (gK kt x)) (g:=aO.enc) (p:=mh) es (fun x r=>RI (aT x r) (by have:=CZ r;omega));refine⟨l,.any,?_,(fun a e=>by cases e),?_,bz⟩
  ·unfold y1;simp only;rw[Bi,aD];rfl
  ·have:=q1 es;omega
abbrev rR:pC:=.ez [.int .i64,q0]
theorem aiZ{d:DataW H}(h:gX rR d)(e:Rows.uptoBulk d≤1048576):∃(k:Int) (args:List Int) (g0:cd),y1 rR d=.agg [I k,dx args g0]∧(∀a,g0≠.bQ a)∧args.length<9223372036854775807:=by rw[show gX rR d=∃ib,d=.agg ib∧gh [.int .i64,q0] ib from by rw[gX]] at h;obtain⟨ib,rfl,h⟩:=h;rw[gh] at h;obtain⟨d1,y,rfl,aD,h⟩:=h;rw[gh] at h;obtain⟨d2,B,rfl,aG,h⟩:=h;rw[gh] at h;subst h;simp only[Rows.uptoBulk,Rows.uptoBulkAll] at e;simp only[gX] at aD;obtain⟨k,rfl,_⟩:=aD;obtain⟨r,g0,u,bD,jw⟩:=C0 aG;refine⟨k,r,g0,?_,bD,by omega⟩;show ai.agg (gK rR _)=_;rw[uM,gd,gd,u];rfl
end
end Go.h6
