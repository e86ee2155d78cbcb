/- A part of the proof: no condition. -/
import Derived.Test.YtgdnbfijkagodaaGreatDoorA6
import Derived.Test.YtgdnbfijkagodaaGreatDoorA3
import Derived.Test.YtgdnbfijkagodaaGreatDoorA5
import Derived.KernelRfl
set_option linter.unusedSectionVars false
set_option linter.unusedSimpArgs false
set_option linter.unusedVariables false
section
namespace Go.gw
open Go.Ab Go.hK
variable(G:Nat→af)(X:Nat→List af→ag→ah)
abbrev kn(p:Nat×Nat):af:=.agg [I p.1,I p.2]
def h1(i:Nat)(x:aX):List (Nat×Nat):=if x.op=1 then[(i,0),(i,1)] else if x.op=2 then[(i,0)] else[]
def dt:List aX→Nat→List (Nat×Nat)
 |[],_=>[]
 |x::r,i=>h1 i x++dt r (i+1)
theorem qx(i:Nat)(x:aX):(h1 i x).length≤2:=by unfold h1;split<;> (try split)<;> simp
theorem ot:∀l:List (Nat×Nat),af.aY (l.map kn)=true
 |[]=>rfl
 |x::l=>by simp -implicitDefEqProofs only[fK,af.aY,ot l,Bool.and_true];rfl
theorem x2:∀l:List (Nat×Nat),((l.map kn).flatMap af.cells).all af.eO=true
 |[]=>rfl
 |x::l=>by simp -implicitDefEqProofs only[fK,List.flatMap_cons,List.all_append,x2 l,Bool.and_true];rfl
theorem Pd{S:ag}{k:bf}(l:List (Nat×Nat)):(aU aK G X).be S k 2 (l.map kn)=k (.bG 2 (l.map kn) .exact) S:=by
 refine iM 2 _ (ot l) ?_
 induction l with
 |nil=>rfl
 |cons x l e=>simp -implicitDefEqProofs only[fK,List.all_cons,e,Bool.and_true];rfl
theorem nO{α β:Type}(f:α→β)(l:List α):ft (l.map f)=ft l:=by cases l<;> rfl
theorem zD{S:ag}(a b:Nat)(k:bf):(aU aK G X).f4 [.int .i64 0,.int .i64 0] [(0,1,.int .i64 (a:Int)),(1,1,.int .i64 (b:Int))] S k=k (kn (a,b)) S:=rfl
theorem zE(l:List aX)(g:fi)(s:ag)(bK:l.length≤1000):aL aK G X 44 [b7 l g] s=.ok (.bG 2 ((dt l 0).map kn) (ft (dt l 0))) s:=by
 have loop:∀n i:Nat,i+n=l.length→∀(es:List (Nat×Nat)) (ge:fi) (S:ag),Child s S→gq S ge es.length→es.length≤2*i→
   tX (aU aK G X) (.bG 2 (es.map kn) ge) (b7 l g) (.int .i64 (l.length:Int)) (.int .i64 (i:Int)) S=.ok (.bG 2 ((es++dt (l.drop i) i).map kn) (ft (es++dt (l.drop i) i))) s:=by
  intro n
  induction n with
  |zero=>
   intro i bX es ge S q cC he;have e:¬(i:Int)<(l.length:Int):=by omega
   rw[vT,bm,cL e,ev,Ed,lz (by omega)];simp -implicitDefEqProofs only[dt,oJ]
   have:=kA (S:=S) (sz:=2) (es:=es.map kn) (g:=ge) (by simpa using cC) (ot es);rw[nO] at this;exact iH q _ _ this
  |succ n r=>
   intro i bX es ge S q cC he;have e:(i:Int)<(l.length:Int):=by omega
   have u:i<l.length:=by omega
   have F:(l.map aX.enc)[i]? =some l[i].enc:=by simp [u]
   have ip:=fun(k:bf)=>wi G X S k 12 _ g .i64 i _ F
   have H:∀x,l[i]=x→l.drop i=x::l.drop (i+1):=fun x a8=>by rw[←a8];exact iW u
   generalize a8:l[i]=x at *;have I:∀(S:ag) (k:bf),(aU aK G X).ar S k (some 12) (.bI x.enc.cells)=k x.enc S:=fun S k=>bb (T:=aK) (G:=G) (X:=X) (s:=S) (k:=k) 12 x.cs (aC 12)
   have J:∀d,af.ap d x.enc=x.enc:=fun d=>rfl
   have gT:=fun(k:bf) (cs:List af) (h:cs.length=12)=>cP (T:=aK) (G:=G) (X:=X) (s:=S) (k:=k) 12 x.cs cs rfl h x.cells
   have y:=fun S k=>nn G X S k i (by omega)
   have cS:=H x rfl;have A:gq (S.new (.cells x.cs)) ge es.length:=cC.new _;have app:∀new:List (Nat×Nat),new=h1 i x→new≠[]→(aU aK G X).gd (S.new (.cells x.cs)) (fun v S=>rS (aU aK G X) v (b7 l g) (.int .i64 (l.length:Int)) (.int .i64 (i:Int)) S) 2 16 (some (.l 0)) (.bG 2 (es.map kn) ge) (.bG 2 (new.map kn) .exact)=.ok (.bG 2 ((es++dt (l.drop i) i).map kn) (ft (es++dt (l.drop i) i))) s:=fun new B fe=>by
    have hlen:new.length≤2:=by rw[B];exact qx i x
    refine pz (by simpa using A) (by simpa using fe) (by simp;omega) (x2 new) (fun g' S' K au az b3 L=>?_);rw[vS,y,←List.map_append]
    have:=r (i+1) (by omega) (es++new) g' S' (L.child (q.new _)) (by simpa using K) (by simp;omega);rw[this,cS];simp -implicitDefEqProofs only[dt,B,ly]
   rw[vT,bm,dY e,eo,Ec,ip,I,cJ,J];refine(gT _ _ rfl).trans ?_;rw[aA,bg,x1,bE];by_cases au:x.op=1
   ·have bX:h1 i x=[(i,0),(i,1)]:=by unfold h1;rw[if_pos au]
    have a:=app _ bX.symm (by simp);rw[dY au,eo];refine(zD G X i 0 _).trans ?_;refine(zD G X i 1 _).trans ?_;refine(Pd G X [(i,0),(i,1)]).trans ?_;exact a
   ·rw[cL au,ev,bE];by_cases az:x.op=2
    ·have bX:h1 i x=[(i,0)]:=by unfold h1;rw[if_neg au,if_pos az]
     have a:=app _ bX.symm (by simp);rw[dY az,eo];refine(zD G X i 0 _).trans ?_;refine(Pd G X [(i,0)]).trans ?_;exact a
    ·have bX:h1 i x=[]:=by unfold h1;rw[if_neg au,if_neg az]
     have:=r (i+1) (by omega) es ge (S.new (.cells x.cs)) (q.new _) A (by omega);rw[cL az,ev,vS,y,this,cS];simp -implicitDefEqProofs only[dt,bX,List.nil_append]
 rw[Jp,Ve,aE,eG]
 have:=loop l.length 0 (by omega) [] .nil s.aj (.aj s) .nil (by simp);simp -implicitDefEqProofs only[List.map_nil,List.nil_append,bL] at this;exact this
def jG:List aX→List aX→Bool
 |_,[]=>true
 |pre,x::r=>wf pre x&&jG (pre++[x]) r
def x3(l:List aX):Nat:=(l.filter fun x=>hL x.op).length
def hl(l:List aX):Int:=bif jG [] l then(if 40<l.length∨5<x3 l∨20<(dt l 0).length then 111 else 0) else 120
theorem CL(l:List aX)(x:aX):x3 (l++[x])=x3 l+(if hL x.op=true then 1 else 0):=by unfold x3;rw[List.filter_append,fJ];congr 1;simp -implicitDefEqProofs only[List.filter_cons,List.filter_nil];split<;> rfl
theorem zF(l:List aX):x3 l≤l.length:=List.length_filter_le _ _
theorem zG(l:List aX)(g:fi)(cC:∀a,g≠.dB a)(s:ag)(bK:l.length<9223372036854775806)(dg:∀o,o∈l→pJ o):aL aK G X 16 [b7 l g] s=.ok (I (hl l)) s:=by
 have fin:∀S,Child s S→zd (aU aK G X) (b7 l g) (I (x3 l:Int)) S=.ok (I (if 40<l.length∨5<x3 l∨20<(dt l 0).length then 111 else 0)) s:=fun S q=>by
  have Y:=zF l;have r:=fun n=>ir (T:=aK) (G:=G) (X:=X) q .i64 n
  rw[D5,aE,eG,ca];by_cases au:40<l.length
  ·have e:(40:Int)<(l.length:Int):=by omega
   rw[if_pos (.inl au)];simp -implicitDefEqProofs only[dY e,gQ,fv,eo,bU];exact r _
  ·have e:¬(40:Int)<(l.length:Int):=by omega
   simp -implicitDefEqProofs only[cL e,dM,eJ,ca];by_cases az:5<x3 l
   ·have A:(5:Int)<(x3 l:Int):=by omega
    rw[if_pos (.inr (.inl az))];simp -implicitDefEqProofs only[dY A,gQ,fv,eo,bU];exact r _
   ·have A:¬(5:Int)<(x3 l:Int):=by omega
    have c:=zE G X l g S (by omega);simp -implicitDefEqProofs only[cL A,dM,eJ,jm _ cC];rw[a9 c];simp -implicitDefEqProofs only[aE,eG,ca];by_cases b3:20<(dt l 0).length
    ·have B:(20:Int)<((dt l 0).length:Int):=by omega
     rw[if_pos (.inr (.inr b3)),dY B,eo];exact r _
    ·have B:¬(20:Int)<((dt l 0).length:Int):=by omega
     rw[if_neg (by omega),cL B,ev,D4];exact r _
 have loop:∀n i:Nat,i+n=l.length→∀S,Child s S→
   tV (aU aK G X) (b7 l g) (I (x3 (l.take i):Int)) (b7 l g) (.int .i64 (l.length:Int)) (.int .i64 (i:Int)) S=.ok (I (bif jG (l.take i) (l.drop i) then(if 40<l.length∨5<x3 l∨20<(dt l 0).length then 111 else 0) else 120)) s:=by
  intro n
  induction n with
  |zero=>
   intro i bX S q;have e:¬(i:Int)<(l.length:Int):=by omega
   rw[vQ,bm,cL e,ev,lz (by omega),iP (by omega),fin S q];rfl
  |succ n L=>
   intro i bX S q;have e:(i:Int)<(l.length:Int):=by omega
   have y:i<l.length:=by omega
   have M:(l.map aX.enc)[i]? =some l[i].enc:=by simp [y]
   have ip:=fun(k:bf)=>wi G X S k 12 _ g .i64 i _ M
   have kf:l[i]∈l:=nT y;have cS:l.drop i=l[i]::l.drop (i+1):=iW y;have eh:l.take (i+1)=l.take i++[l[i]]:=List.take_succ_eq_append_getElem y;generalize a8:l[i]=x at *;have N:∀(S:ag) (k:bf),(aU aK G X).ar S k (some 12) (.bI x.enc.cells)=k x.enc S:=fun S k=>bb (T:=aK) (G:=G) (X:=X) (s:=S) (k:=k) 12 x.cs (aC 12)
   have O:∀d,af.ap d x.enc=x.enc:=fun d=>rfl
   have gT:=fun(k:bf) (cs:List af) (h:cs.length=12)=>cP (T:=aK) (G:=G) (X:=X) (s:=S) (k:=k) 12 x.cs cs rfl h x.cells
   have F:=fun S k=>nn G X S k i (by omega)
   have bG:=fun(S:ag) (k:bf)=>Iw G X l cC (i+1) (by omega) S k
   rw[eh] at bG;have H:=vm cC l.length (i+1);have Z:(l.take i).length=i:=by simp;omega
   have I8:=VR G X (l.take i) x _ H (S.new (.cells x.cs)) (by omega) (dg x kf) (fun o U=>dg o (List.mem_of_mem_take U));have J:=fun(k:bf)=>bV (T:=aK) (G:=G) (X:=X) (s:=S) (k:=k) 12 x.cs (aC 12)
   rw[zA] at J;have DL:=Is G X x (S.new (.cells x.cs));have r:=fun n=>ir (T:=aK) (G:=G) (X:=X) (q.new (.cells x.cs)) .i64 n
   have u:=L (i+1) (by omega) (S.new (.cells x.cs)) (q.new _);rw[eh,CL] at u;have aa:=zF (l.take i);rw[vQ,bm,dY e,eo,D3,ip,N,cJ,O];refine(gT _ _ rfl).trans ?_;rw[F,bG,jm _ H,a9 I8,cU,cS];simp -implicitDefEqProofs only[jG];cases hw:wf (l.take i) x with
   |false=>rw[hh,eo,fU,cond_false];exact r _
   |true=>
    rw[gK,ev,eM,D2];refine(J _).trans ?_;show(aU aK G X).bt (S.new (.cells x.cs)) _ 43 [x.enc]=_;rw[a9 DL];cases K:hL x.op with
    |false=>rw[K] at u;rw[ev,vP,F];exact u
    |true=>
     rw[K] at u;have V:=fun S k=>nn G X S k (x3 (l.take i)) (by omega)
     rw[eo,V,vP,F];exact u
 rw[Jm,Vb,aE,eG];exact loop l.length 0 (by omega) s.aj (.aj s)
theorem aa2{s:ag}{k:bf}(a b:Bool):(aU aK G X).ai s k ((lB .bool (.bool a) (.bool b)).map fun b=>.bool (bif true then !b else b))=k (.bool (!(a==b))) s:=rfl
theorem Ix(s:ag)(jA u:Bool)(v1 v2:af)(q r:List Nat)(au:jB v1 q)(az:jB v2 r)(J:q.length<9223372036854775807):aL aK G X 45 [lv jA v1,lv u v2] s=.ok (.bool (decide (jA=u∧q=r))) s:=by
 have y:=fun(S:ag) (k:bf)=>(au.rd S).len (T:=aK) (G:=G) (X:=X) k S
 have B:=fun(S:ag) (k:bf)=>(az.rd S).len (T:=aK) (G:=G) (X:=X) k S
 have loop:q.length=r.length→∀n i:Nat,i+n=q.length→tZ (aU aK G X) (.bI [.bool jA,v1]) (.bI [.bool u,v2]) (.int .i64 (i:Int)) s.aj=.ok (.bool (decide (q.drop i=r.drop i))) s:=by
  intro bK n
  induction n with
  |zero=>
   intro i bX;have e:¬(i:Int)<(q.length:Int):=by omega
   rw[vV,ds,dK,bL,ba,y,bm,cL e,ev,Ep,aD,lz (by omega),lz (by omega)];rfl
  |succ n F=>
   intro i bX;have e:(i:Int)<(q.length:Int):=by omega
   have ho:=fun(k:bf)=>(au.rd s.aj).get (T:=aK) (G:=G) (X:=X) .i64 i (by omega) k
   have gF:=fun(k:bf)=>(az.rd s.aj).get (T:=aK) (G:=G) (X:=X) .i64 i (by omega) k
   have H:=fun S k=>nn G X S k i (by omega)
   have dU:q.drop i=q.getD i 0::q.drop (i+1):=by rw[iW (by omega)];simp [List.getD,show i<q.length by omega]
   have I:r.drop i=r.getD i 0::r.drop (i+1):=by rw[iW (by omega)];simp [List.getD,show i<r.length by omega]
   rw[vV,ds,dK,bL,ba,y,bm,dY e,eo,Eo,ds,dK,bL,ba,ho,ds,dK,bL,ba,gF,cA];rw[dU,I];by_cases a8:q.getD i 0=r.getD i 0
   ·have A:¬¬((q.getD i 0:Nat):Int)=((r.getD i 0:Nat):Int):=by omega
    rw[cL A,ev,En,H,F (i+1) (by omega),a8];simp -implicitDefEqProofs only[List.cons.injEq,true_and]
   ·have A:¬((q.getD i 0:Nat):Int)=((r.getD i 0:Nat):Int):=by omega
    rw[dY A,eo,aD];simp -implicitDefEqProofs only[List.cons.injEq,a8,false_and,dy]
 rw[Jz,Vo,aB,aB,ds,bL,ba,ds,bL,ba,aa2];by_cases dp:jA=u
 ·subst dp;rw[show(!(jA==jA))=false from by simp];simp -implicitDefEqProofs only[dM,eJ,ds,dK,bL,ba,y,B,cA,true_and];by_cases bK:q.length=r.length
  ·have e:¬¬(q.length:Int)=(r.length:Int):=by omega
   rw[cL e,ev,Er]
   have:=loop bK q.length 0 (by omega);simp -implicitDefEqProofs only[bL] at this;exact this
  ·have e:¬(q.length:Int)=(r.length:Int):=by omega
   have h:¬q=r:=fun e=>bK (by rw[e])
   rw[dY e,eo,aD,cL h]
 ·rw[show(!(jA==u))=true from by simp [dp]];simp -implicitDefEqProofs only[gQ,fv,eo,aD,dp,false_and,dy,bU]
theorem Iy(s:ag)(a b c d:fI)(e:j9 a)(h:j9 b)(a3:j9 c)(cS:j9 d):aL aK G X 17 [m8 a b,m8 c d] s=.ok (.bool (decide ((a.neg=c.neg∧a.hg=c.hg)∧(b.neg=d.neg∧b.hg=d.hg)))) s:=by
 have q:=Ix G X s.aj a.neg c.neg a.v c.v a.hg c.hg e.i7 a3.i7 e.len;have r:=Ix G X s.aj b.neg d.neg b.v d.v b.hg d.hg h.i7 cS.i7 h.len;rw[Jx,Vm];simp -implicitDefEqProofs only[aB,ds,bL,dK,↓bb,bP,cy,Nat.reduceAdd,Nat.reduceLeDiff,aC,cV,cX,a7];rw[a9 q,a9 r];rw[Bool.decide_and (p:=a.neg=c.neg∧a.hg=c.hg)];cases decide (a.neg=c.neg∧a.hg=c.hg) with
 |true=>simp -implicitDefEqProofs only[fQ,fv,aD,eM]
 |false=>simp -implicitDefEqProofs only[ha,eJ,aD,fU]
def aa3:fI:=⟨false,[],.nil⟩
theorem j1:j9 aa3 where
 g:=fun a e=>by cases e
 ok:=fun x a8=>absurd a8 mi
 len:=by decide
abbrev CM(n:Nat):af:=I (n:Int)
def cW:List aX→Nat→List Nat
 |[],_=>[]
 |x::r,i=>(if hL x.op=true then[i] else[])++cW r (i+1)
theorem qy:∀(l:List aX) (i:Nat),(cW l i).length=x3 l
 |[],_=>rfl
 |x::r,i=>by simp -implicitDefEqProofs only[cW,fJ,qy r (i+1),x3,List.filter_cons];split<;> simp <;> omega
theorem r9:∀l:List Nat,af.aY (l.map CM)=true
 |[]=>rfl
 |x::l=>by simp -implicitDefEqProofs only[fK,af.aY,r9 l,Bool.and_true];rfl
instance:Inhabited fI:=⟨⟨false,[],.nil⟩⟩
instance:Inhabited aX:=⟨⟨[],0,[],.nil,default,default,default,default,0⟩⟩
end Go.gw
end
section
namespace Go.gw
open Go.Ab
set_option maxRecDepth 100000
section
variable(G:Nat→af)(X:Nat→List af→ag→ah)
theorem sa{s:ag}{k:bf}(eu:IntKind)(a b:Int)(h:b≠0):(aU aK G X).ai s k (an .rem (.int eu a) (.int eu b))=k (.int eu (a.tmod b)) s:=by rw[show an .rem (.int eu a) (.int eu b)=some (.int eu (a.tmod b)) from by simp [an,gm,h]];rfl
theorem zH{s:ag}{k:bf}(eu:IntKind)(a b:Int)(h:b≠0):(aU aK G X).ai s k (an .quo (.int eu a) (.int eu b))=k (.int eu (eu.wrap (a.tdiv b))) s:=by rw[show an .quo (.int eu a) (.int eu b)=some (.int eu (eu.wrap (a.tdiv b))) from by simp [an,gm,h]];rfl
theorem x4(s:ag)(k:bf)(d eu:IntKind)(n:Int):(aU aK G X).b9 s k d (.int eu n)=k (.int d (d.wrap n)) s:=rfl
theorem u8_in(n:Nat)(h:n<256):IntKind.wrap .u8 (n:Int)=(n:Int):=by
 have:∀n:Fin 256,IntKind.wrap .u8 ((n:Nat):Int)=((n:Nat):Int):=by decide
 exact this ⟨n,h⟩
end
def p6:List Int:=[1,10,100,1000,10000,100000,1000000,10000000,100000000,1000000000,10000000000,100000000000,1000000000000,10000000000000,100000000000000,1000000000000000,10000000000000000,100000000000000000,1000000000000000000,10000000000000000000]
def jn:List af:=p6.map fun n=>.int .u64 n
section
variable(G:Nat→af)(X:Nat→List af→ag→ah)
theorem Iz{s:ag}{k:bf}(fc:List Nat)(eu:IntKind)(i:Nat)(b:Nat)(h:fc[i]? =some b):(aU aK G X).hx s k (.str fc) (.int eu (i:Int))=k (.int .u8 b) s:=by show h8 (gH G (aL aK G X) bQ) s k (.str fc) (.int eu (i:Int))=_;unfold h8;simp -implicitDefEqProofs only[g6,h];rfl
theorem VS{s:ag}{k:bf}(cs:List af)(n:Nat)(eu:IntKind)(i:Nat)(h:i<n):(aU aK G X).hv s k 1 n (.bI cs) (.int eu (i:Int))=k (.bI (cs.drop i)) s:=by show hR (gH G (aL aK G X) bQ) s k 1 n (.bI cs) (.int eu (i:Int))=_;unfold hR;simp -implicitDefEqProofs only[g6,show Nat.blt i n=true from by simp [Nat.blt_eq,h],b2,Nat.mul_one];rfl
theorem Fp{s:ag}{k:bf}(eu e:IntKind)(a b:Int)(h:0≤b):(aU aK G X).ai s k (an .shr (.int eu a) (.int e b))=k (.int eu (a.fdiv (2^(min b.toNat eu.bits)))) s:=by rw[show an .shr (.int eu a) (.int e b)=some (.int eu (a.fdiv (2^(min b.toNat eu.bits)))) from by simp [an,lO,Int.not_lt.2 h]];rfl
end
def gJ:List Nat:=[0,1,2,2,3,3,3,3,4,4,4,4,4,4,4,4,5,5,5,5,5,5,5,5,5,5,5,5,5,5,5,5,6,6,6,6,6,6,6,6,6,6,6,6,6,6,6,6,6,6,6,6,6,6,6,6,6,6,6,6,6,6,6,6,7,7,7,7,7,7,7,7,7,7,7,7,7,7,7,7,7,7,7,7,7,7,7,7,7,7,7,7,7,7,7,7,7,7,7,7,7,7,7,7,7,7,7,7,7,7,7,7,7,7,7,7,7,7,7,7,7,7,7,7,7,7,7,7,8,8,8,8,8,8,8,8,8,8,8,8,8,8,8,8,8,8,8,8,8,8,8,8,8,8,8,8,8,8,8,8,8,8,8,8,8,8,8,8,8,8,8,8,8,8,8,8,8,8,8,8,8,8,8,8,8,8,8,8,8,8,8,8,8,8,8,8,8,8,8,8,8,8,8,8,8,8,8,8,8,8,8,8,8,8,8,8,8,8,8,8,8,8,8,8,8,8,8,8,8,8,8,8,8,8,8,8,8,8,8,8,8,8,8,8,8,8,8,8,8,8,8,8,8,8,8,8]
def k9:List Nat:=[48,48,48,49,48,50,48,51,48,52,48,53,48,54,48,55,48,56,48,57,49,48,49,49,49,50,49,51,49,52,49,53,49,54,49,55,49,56,49,57,50,48,50,49,50,50,50,51,50,52,50,53,50,54,50,55,50,56,50,57,51,48,51,49,51,50,51,51,51,52,51,53,51,54,51,55,51,56,51,57,52,48,52,49,52,50,52,51,52,52,52,53,52,54,52,55,52,56,52,57,53,48,53,49,53,50,53,51,53,52,53,53,53,54,53,55,53,56,53,57,54,48,54,49,54,50,54,51,54,52,54,53,54,54,54,55,54,56,54,57,55,48,55,49,55,50,55,51,55,52,55,53,55,54,55,55,55,56,55,57,56,48,56,49,56,50,56,51,56,52,56,53,56,54,56,55,56,56,56,57,57,48,57,49,57,50,57,51,57,52,57,53,57,54,57,55,57,56,57,57]
def ug:List Nat:=[48,49,50,51,52,53,54,55,56,57,97,98,99,100,101,102,103,104,105,106,107,108,109,110,111,112,113,114,115,116,117,118,119,120,121,122]
def wD(n:Nat):af:=.int .u8 (n:Int)
theorem wm(b:Nat)(h:b<100):k9[b*2]? =some (48+b/10):=by
 have:∀b:Fin 100,k9[b.val*2]? =some (48+b.val/10):=by decide
 exact this ⟨b,h⟩
theorem wo(b:Nat)(h:b<100):k9[b*2+1]? =some (48+b%10):=by
 have:∀b:Fin 100,k9[b.val*2+1]? =some (48+b.val%10):=by decide
 exact this ⟨b,h⟩
theorem j4{x:Int}(eZ:0≤x)(au:x≤4294967295):IntKind.wrap .u32 x=x:=IntWalk.u32_in x ⟨eZ,au⟩
theorem CN{i:Nat}(h:i<256):gJ[i]? =some (gJ.getD i 0):=by have:i<gJ.length:=h;simp [List.getD,this]
theorem mJ(i:Nat):gJ.getD i 0≤8:=by
 by_cases h:i<256
 ·have:∀i:Fin 256,gJ.getD i 0≤8:=by decide
  exact this ⟨i,h⟩
 ·have:gJ.length≤i:=by show 256≤i;omega
  simp [List.getD,List.getElem?_eq_none this]
section
variable(G:Nat→af)(X:Nat→List af→ag→ah)
theorem IA{s:ag}{k:bf}(fc:List Nat)(k1 oR:IntKind)(l h:Nat)(au:l≤h)(az:h≤fc.length):(aU aK G X).vd (.str fc) (some (.int k1 (l:Int))) (some (.int oR (h:Int))) s k=k (.str ((fc.drop l).take (h-l))) s:=by show hSub (.str fc) (some (.int k1 (l:Int))) (some (.int oR (h:Int))) s k=_;unfold hSub pH;simp -implicitDefEqProofs only[g6,eQ au,eQ az,bD,b2]
theorem sF{s:ag}{k:bf}(i:Int)(b:Nat)(h:∃j:Nat,i=(j:Int)∧k9[j]? =some b):(aU aK G X).hx s k (.str k9) (.int .u32 i)=k (.int .u8 b) s:=by obtain⟨j,rfl,df⟩:=h;exact Iz G X k9 .u32 j b df
end
def Fq(v:Nat):Nat:=if 256≤v then 8+gJ.getD (v/256) 0 else gJ.getD v 0
def p7(u:Nat):Nat:=if 65536≤u then 16+Fq (u/65536) else Fq u
def tz(u:Nat):Nat:=p7 u*78913/262144
def g4(u:Nat):Nat:=if u<1000 then 3 else if u<10000 then 4 else if u<100000 then 5 else 6
section
variable(G:Nat→af)(X:Nat→List af→ag→ah)
theorem IB(v a:Nat)(s:ag)(bO:v<256)(r:a≤24):rT (aU aK G X) (.int .u64 (v:Int)) (.int .i64 (a:Int)) s.aj=.ok (I ((a+gJ.getD v 0:Nat):Int)) s:=by
 have e:=fun(k:bf)=>Iz G X (s:=s.aj) (k:=k) gJ .u8 v _ (CN bO)
 have dU:IntKind.wrap .u8 (v:Int)=(v:Int):=u8_in v bO;have hle:=mJ v;have h:IntKind.wrap .i64 ((gJ.getD v 0:Nat):Int)=((gJ.getD v 0:Nat):Int):=eD _ (by omega) (by omega);have q:IntKind.wrap .i64 ((a:Int)+((gJ.getD v 0:Nat):Int))=((a+gJ.getD v 0:Nat):Int):=by rw[eD _ (by omega) (by omega)];omega
 unfold gJ at e;rw[Ci];simp -implicitDefEqProofs only[↓x4,dU,↓e];simp -implicitDefEqProofs only[←gJ.eq_1,↓cJ,↓cK,↓bY,↓bl,↓aB,↓aF,↓ax,↓aG,↓aM,↓aN,↓ay,↓aH,↓aE,↓aV,↓aZ,↓ba,↓ds,↓aA,↓bu,↓b4,↓c4,↓cc,↓cd,↓b5,↓cf,↓cg,↓ch,↓ci,↓cj,↓ck,↓bw,↓bx,↓bz,↓c5,↓c6,↓c7,↓c8,↓c9,↓da,↓db,↓dc,↓dd,↓cl,↓cm,↓cn,↓fp,↓fz,↓fO,↓bE,↓cA,↓bm,↓c1,↓ca,↓cF,↓cU,↓de,↓a0,↓aO,↓a1,↓aS,↓aD,↓a2,↓cP,↓bV,↓b6,↓co,↓cp,↓cq,↓cr,↓ct,↓cv,↓cw,↓cx,bL,dK,List.cons_append,List.nil_append,b1,decide_eq_false_iff_not,ite_not,↓reduceIte,a7,aI,bc,bA,eW,ed,ee,bg,bP,cy,Nat.reduceAdd,List.all_cons,List.all_nil,dx,dh,dz,dT,bD,↓bb,Nat.reduceLeDiff,aC,cV,cX,↓x4,h,q]
theorem IC(v a:Nat)(s:ag)(bO:v<65536)(r:a≤16):rU (aU aK G X) (.int .u64 (v:Int)) (.int .i64 (a:Int)) s.aj=.ok (I ((a+Fq v:Nat):Int)) s:=by
 unfold Fq;by_cases h:256≤v
 ·have e:(256:Int)≤(v:Int):=by omega
  have dU:(v:Int).fdiv (2^(min (8:Int).toNat (IntKind.bits .u64)))=((v/256:Nat):Int):=by show(v:Int).fdiv 256=_;rw[Int.fdiv_eq_ediv_of_nonneg _ (by omega)];omega
  have q:IntKind.wrap .i64 ((a:Int)+8)=((a+8:Nat):Int):=by rw[eD _ (by omega) (by omega)];omega
  have:=IB G X (v/256) (a+8) s (by omega) (by omega);rw[tp];simp -implicitDefEqProofs only[↓cJ,↓cK,↓bY,↓bl,↓aB,↓aF,↓ax,↓aG,↓aM,↓aN,↓ay,↓aH,↓aE,↓aV,↓aZ,↓ba,↓ds,↓aA,↓bu,↓b4,↓c4,↓cc,↓cd,↓b5,↓cf,↓cg,↓ch,↓ci,↓cj,↓ck,↓bw,↓bx,↓bz,↓c5,↓c6,↓c7,↓c8,↓c9,↓da,↓db,↓dc,↓dd,↓cl,↓cm,↓cn,↓fp,↓fz,↓fO,↓bE,↓cA,↓bm,↓c1,↓ca,↓cF,↓cU,↓de,↓a0,↓aO,↓a1,↓aS,↓aD,↓a2,↓cP,↓bV,↓b6,↓co,↓cp,↓cq,↓cr,↓ct,↓cv,↓cw,↓cx,bL,dK,List.cons_append,List.nil_append,b1,decide_eq_false_iff_not,ite_not,↓reduceIte,a7,aI,bc,bA,eW,ed,ee,bg,bP,cy,Nat.reduceAdd,List.all_cons,List.all_nil,dx,dh,dz,dT,bD,↓bb,Nat.reduceLeDiff,aC,cV,cX,eq_true e,dG,↓Fp G X _ _ _ _ (show(0:Int)≤8 by omega),dU,q,if_pos h,this];rw[Nat.add_assoc]
 ·have e:¬(256:Int)≤(v:Int):=by omega
  have:=IB G X v a s (by omega) (by omega);rw[tp];simp -implicitDefEqProofs only[↓cJ,↓cK,↓bY,↓bl,↓aB,↓aF,↓ax,↓aG,↓aM,↓aN,↓ay,↓aH,↓aE,↓aV,↓aZ,↓ba,↓ds,↓aA,↓bu,↓b4,↓c4,↓cc,↓cd,↓b5,↓cf,↓cg,↓ch,↓ci,↓cj,↓ck,↓bw,↓bx,↓bz,↓c5,↓c6,↓c7,↓c8,↓c9,↓da,↓db,↓dc,↓dd,↓cl,↓cm,↓cn,↓fp,↓fz,↓fO,↓bE,↓cA,↓bm,↓c1,↓ca,↓cF,↓cU,↓de,↓a0,↓aO,↓a1,↓aS,↓aD,↓a2,↓cP,↓bV,↓b6,↓co,↓cp,↓cq,↓cr,↓ct,↓cv,↓cw,↓cx,bL,dK,List.cons_append,List.nil_append,b1,decide_eq_false_iff_not,ite_not,↓reduceIte,a7,aI,bc,bA,eW,ed,ee,bg,bP,cy,Nat.reduceAdd,List.all_cons,List.all_nil,dx,dh,dz,dT,bD,↓bb,Nat.reduceLeDiff,aC,cV,cX,eq_false e,dy,bW,if_neg h,this]
theorem Pe(u:Nat)(s:ag)(h:u<4294967296):aL aK G X 112 [.int .u64 (u:Int)] s=.ok (I (p7 u)) s:=by
 have q:¬(4294967296:Int)≤(u:Int):=by omega
 rw[E6,OT];unfold p7;simp -implicitDefEqProofs only[↓cJ,↓cK,↓bY,↓bl,↓aB,↓aF,↓ax,↓aG,↓aM,↓aN,↓ay,↓aH,↓aE,↓aV,↓aZ,↓ba,↓ds,↓aA,↓bu,↓b4,↓c4,↓cc,↓cd,↓b5,↓cf,↓cg,↓ch,↓ci,↓cj,↓ck,↓bw,↓bx,↓bz,↓c5,↓c6,↓c7,↓c8,↓c9,↓da,↓db,↓dc,↓dd,↓cl,↓cm,↓cn,↓fp,↓fz,↓fO,↓bE,↓cA,↓bm,↓c1,↓ca,↓cF,↓cU,↓de,↓a0,↓aO,↓a1,↓aS,↓aD,↓a2,↓cP,↓bV,↓b6,↓co,↓cp,↓cq,↓cr,↓ct,↓cv,↓cw,↓cx,bL,dK,List.cons_append,List.nil_append,b1,decide_eq_false_iff_not,ite_not,↓reduceIte,a7,aI,bc,bA,eW,ed,ee,bg,bP,cy,Nat.reduceAdd,List.all_cons,List.all_nil,dx,dh,dz,dT,bD,↓bb,Nat.reduceLeDiff,aC,cV,cX,eq_false q,dy,bW,Cj];by_cases az:65536≤u
 ·have e:(65536:Int)≤(u:Int):=by omega
  have dU:(u:Int).fdiv (2^(min (16:Int).toNat (IntKind.bits .u64)))=((u/65536:Nat):Int):=by show(u:Int).fdiv 65536=_;rw[Int.fdiv_eq_ediv_of_nonneg _ (by omega)];omega
  have r:IntKind.wrap .i64 (0+16)=((16:Nat):Int):=by decide
  have:=IC G X (u/65536) 16 s (by omega) (by omega);simp -implicitDefEqProofs only[↓cJ,↓cK,↓bY,↓bl,↓aB,↓aF,↓ax,↓aG,↓aM,↓aN,↓ay,↓aH,↓aE,↓aV,↓aZ,↓ba,↓ds,↓aA,↓bu,↓b4,↓c4,↓cc,↓cd,↓b5,↓cf,↓cg,↓ch,↓ci,↓cj,↓ck,↓bw,↓bx,↓bz,↓c5,↓c6,↓c7,↓c8,↓c9,↓da,↓db,↓dc,↓dd,↓cl,↓cm,↓cn,↓fp,↓fz,↓fO,↓bE,↓cA,↓bm,↓c1,↓ca,↓cF,↓cU,↓de,↓a0,↓aO,↓a1,↓aS,↓aD,↓a2,↓cP,↓bV,↓b6,↓co,↓cp,↓cq,↓cr,↓ct,↓cv,↓cw,↓cx,bL,dK,List.cons_append,List.nil_append,b1,decide_eq_false_iff_not,ite_not,↓reduceIte,a7,aI,bc,bA,eW,ed,ee,bg,bP,cy,Nat.reduceAdd,List.all_cons,List.all_nil,dx,dh,dz,dT,bD,↓bb,Nat.reduceLeDiff,aC,cV,cX,eq_true e,dG,↓Fp G X _ _ _ _ (show(0:Int)≤16 by omega),dU,r,if_pos az,this]
 ·have e:¬(65536:Int)≤(u:Int):=by omega
  have:=IC G X u 0 s (by omega) (by omega);simp -implicitDefEqProofs only[Int.natCast_zero,bg] at this;simp -implicitDefEqProofs only[↓cJ,↓cK,↓bY,↓bl,↓aB,↓aF,↓ax,↓aG,↓aM,↓aN,↓ay,↓aH,↓aE,↓aV,↓aZ,↓ba,↓ds,↓aA,↓bu,↓b4,↓c4,↓cc,↓cd,↓b5,↓cf,↓cg,↓ch,↓ci,↓cj,↓ck,↓bw,↓bx,↓bz,↓c5,↓c6,↓c7,↓c8,↓c9,↓da,↓db,↓dc,↓dd,↓cl,↓cm,↓cn,↓fp,↓fz,↓fO,↓bE,↓cA,↓bm,↓c1,↓ca,↓cF,↓cU,↓de,↓a0,↓aO,↓a1,↓aS,↓aD,↓a2,↓cP,↓bV,↓b6,↓co,↓cp,↓cq,↓cr,↓ct,↓cv,↓cw,↓cx,bL,dK,List.cons_append,List.nil_append,b1,decide_eq_false_iff_not,ite_not,↓reduceIte,a7,aI,bc,bA,eW,ed,ee,bg,bP,cy,Nat.reduceAdd,List.all_cons,List.all_nil,dx,dh,dz,dT,bD,↓bb,Nat.reduceLeDiff,aC,cV,cX,eq_false e,dy,bW,if_neg az,this]
theorem Pf(x:Nat)(s:ag)(h:x≤64):aL aK G X 120 [I x] s=.ok (I ((x*78913/262144:Nat):Int)) s:=by
 have dU:IntKind.wrap .i64 ((x:Int)*78913)=((x*78913:Nat):Int):=by rw[eD _ (by omega) (by omega)];omega
 have e:((x*78913:Nat):Int).fdiv (2^(min (18:Int).toNat (IntKind.bits .i64)))=((x*78913/262144:Nat):Int):=by show((x*78913:Nat):Int).fdiv 262144=_;rw[Int.fdiv_eq_ediv_of_nonneg _ (by omega)];omega
 rw[E7,OU];simp -implicitDefEqProofs only[↓cJ,↓cK,↓bY,↓bl,↓aB,↓aF,↓ax,↓aG,↓aM,↓aN,↓ay,↓aH,↓aE,↓aV,↓aZ,↓ba,↓ds,↓aA,↓bu,↓b4,↓c4,↓cc,↓cd,↓b5,↓cf,↓cg,↓ch,↓ci,↓cj,↓ck,↓bw,↓bx,↓bz,↓c5,↓c6,↓c7,↓c8,↓c9,↓da,↓db,↓dc,↓dd,↓cl,↓cm,↓cn,↓fp,↓fz,↓fO,↓bE,↓cA,↓bm,↓c1,↓ca,↓cF,↓cU,↓de,↓a0,↓aO,↓a1,↓aS,↓aD,↓a2,↓cP,↓bV,↓b6,↓co,↓cp,↓cq,↓cr,↓ct,↓cv,↓cw,↓cx,bL,dK,List.cons_append,List.nil_append,b1,decide_eq_false_iff_not,ite_not,↓reduceIte,a7,aI,bc,bA,eW,ed,ee,bg,bP,cy,Nat.reduceAdd,List.all_cons,List.all_nil,dx,dh,dz,dT,bD,↓bb,Nat.reduceLeDiff,aC,cV,cX,dU,↓Fp G X _ _ _ _ (show(0:Int)≤18 by omega),e]
theorem Pg(b:Bool)(s:ag):aL aK G X 121 [.bool b] s=.ok (I (if b=true then 1 else 0)) s:=by rw[E8,OV];cases b<;> simp -implicitDefEqProofs only[↓cJ,↓cK,↓bY,↓bl,↓aB,↓aF,↓ax,↓aG,↓aM,↓aN,↓ay,↓aH,↓aE,↓aV,↓aZ,↓ba,↓ds,↓aA,↓bu,↓b4,↓c4,↓cc,↓cd,↓b5,↓cf,↓cg,↓ch,↓ci,↓cj,↓ck,↓bw,↓bx,↓bz,↓c5,↓c6,↓c7,↓c8,↓c9,↓da,↓db,↓dc,↓dd,↓cl,↓cm,↓cn,↓fp,↓fz,↓fO,↓bE,↓cA,↓bm,↓c1,↓ca,↓cF,↓cU,↓de,↓a0,↓aO,↓a1,↓aS,↓aD,↓a2,↓cP,↓bV,↓b6,↓co,↓cp,↓cq,↓cr,↓ct,↓cv,↓cw,↓cx,bL,dK,List.cons_append,List.nil_append,b1,decide_eq_false_iff_not,ite_not,↓reduceIte,a7,aI,bc,bA,eW,ed,ee,bg,bP,cy,Nat.reduceAdd,List.all_cons,List.all_nil,dx,dh,dz,dT,bD,↓bb,Nat.reduceLeDiff,aC,cV,cX,bW,Ck]
def I1(a:Nat):Bool:=
 let L:=if 256≤a then 16+gJ.getD (a/256) 0 else 8+gJ.getD a 0
 let e:=L*78913/262144
 (Nat.beq e 2&&Nat.blt (256*a+255) 1000)||(Nat.beq e 3&&Nat.blt (256*a+255) 10000)||(Nat.beq e 4&&Nat.ble 1000 (256*a)&&Nat.blt (256*a+255) 100000)||(Nat.beq e 5&&Nat.ble 10000 (256*a)&&Nat.blt (256*a+255) 1000000)
theorem VT:((List.range 511).all fun a=>I1 (a+1))=true:=by kernel_rfl
theorem VU:((List.range 156).all fun v=>Nat.beq (gJ.getD (v+100) 0*78913/262144) 2)=true:=by kernel_rfl
theorem JX{u:Nat}(au:100≤u)(az:u<131072):(tz u=2∧u<1000)∨(tz u=3∧u<10000)∨(tz u=4∧1000≤u∧u<100000)∨(tz u=5∧10000≤u):=by
 by_cases h:u<256
 ·have:=List.all_eq_true.1 VU (u-100) (List.mem_range.2 (by omega));rw[show u-100+100=u by omega] at this;refine .inl ⟨?_,by omega⟩;unfold tz p7 Fq;rw[if_neg (by omega),if_neg (by omega)];exact dk this
 ·have:=List.all_eq_true.1 VT (u/256-1) (List.mem_range.2 (by omega));rw[show u/256-1+1=u/256 by omega] at this;have oI:p7 u=if 256≤u/256 then 16+gJ.getD (u/256/256) 0 else 8+gJ.getD (u/256) 0:=by
   unfold p7 Fq;by_cases b3:65536≤u
   ·rw[if_pos b3,if_neg (show¬256≤u/65536 by omega),if_pos (show 256≤u/256 by omega),show u/65536=u/256/256 by omega]
   ·rw[if_neg b3,if_pos (show 256≤u by omega),if_neg (show¬256≤u/256 by omega)]
  unfold I1 at this;simp -implicitDefEqProofs only[←oI,Bool.or_eq_true,bn,Nat.blt_eq] at this;unfold tz;rcases this with((⟨e,q⟩|⟨e,q⟩)|⟨⟨e,r⟩,y⟩)|⟨⟨e,r⟩,y⟩
  ·exact .inl ⟨dk e,by omega⟩
  ·exact .inr (.inl ⟨dk e,by omega⟩)
  ·exact .inr (.inr (.inl ⟨dk e,by have:=d0 r;omega,by omega⟩))
  ·exact .inr (.inr (.inr ⟨dk e,by have:=d0 r;omega⟩))
theorem Ph(u:Nat):p7 u≤64:=by unfold p7 Fq;have au:=mJ (u/65536/256);have az:=mJ (u/65536);have b3:=mJ (u/256);have dJ:=mJ u;split<;> split<;> omega
theorem VV(dX:G 0=.bI jn)(u:Nat)(au:100≤u)(az:u<131072)(s:ag):aL aK G X 96 [.int .u64 (u:Int)] s=.ok (I (g4 u)) s:=by
 have r:=Pe G X u s.aj (by omega);have h:=Pf G X (p7 u) s.aj (Ph u);have B:(aU aK G X).bo 0=.bI jn:=dX;have y:=fun b=>Pg G X b s.aj
 rw[show p7 u*78913/262144=tz u from rfl] at h;rw[JE,Vt];simp -implicitDefEqProofs only[B];have key:∀(e p:Nat) (rest:List af),tz u=e→e<20→jn.drop e=.int .u64 (p:Int)::rest→g4 u=e+(if p≤u then 1 else 0)→
   (aU aK G X).bt s.aj (fun F s=>(aU aK G X).bt s (fun v6 s=>(aU aK G X).hv s (fun v10 s=>(aU aK G X).ar s (fun v11 s=>(aU aK G X).ai s (fun H s=>(aU aK G X).bt s (fun J s=>(aU aK G X).ai s (fun K s=>(aU aK G X).a5 false [some K] s) (an .add v6 J)) 121 [(af.ap s.aa H)]) (an .geq (.int .u64 (u:Int)) v11)) none v10) 1 20 (.bI jn) v6) 120 [(af.ap s.aa F)]) 112 [(af.ap s.aj.aa (.int .u64 (u:Int)))]=.ok (I (g4 u)) s:=fun e p rest he L cS dp=>by
  rw[he] at h;have A:=fun(k:bf)=>VS G X (s:=s.aj) (k:=k) jn 20 .i64 e L
  have M:IntKind.wrap .i64 ((e:Int)+1)=((e+1:Nat):Int):=by rw[eD _ (by omega) (by omega)];omega
  have jj:IntKind.wrap .i64 ((e:Int)+0)=(e:Int):=by rw[eD _ (by omega) (by omega)];omega
  by_cases a3:p≤u
  ·have c:(p:Int)≤(u:Int):=by omega
   rw[dp,if_pos a3];simp -implicitDefEqProofs only[↓cJ,↓cK,↓bY,↓bl,↓aB,↓aF,↓ax,↓aG,↓aM,↓aN,↓ay,↓aH,↓aE,↓aV,↓aZ,↓ba,↓ds,↓aA,↓bu,↓b4,↓c4,↓cc,↓cd,↓b5,↓cf,↓cg,↓ch,↓ci,↓cj,↓ck,↓bw,↓bx,↓bz,↓c5,↓c6,↓c7,↓c8,↓c9,↓da,↓db,↓dc,↓dd,↓cl,↓cm,↓cn,↓fp,↓fz,↓fO,↓bE,↓cA,↓bm,↓c1,↓ca,↓cF,↓cU,↓de,↓a0,↓aO,↓a1,↓aS,↓aD,↓a2,↓cP,↓bV,↓b6,↓co,↓cp,↓cq,↓cr,↓ct,↓cv,↓cw,↓cx,bL,dK,List.cons_append,List.nil_append,b1,decide_eq_false_iff_not,ite_not,↓reduceIte,a7,aI,bc,bA,eW,ed,ee,bg,bP,cy,Nat.reduceAdd,List.all_cons,List.all_nil,dx,dh,dz,dT,bD,↓bb,Nat.reduceLeDiff,aC,cV,cX,a9 r,a9 h,↓A,cS,eq_true c,dG,a9 (y _),if_true,M]
  ·have c:¬(p:Int)≤(u:Int):=by omega
   rw[dp,if_neg a3];simp -implicitDefEqProofs only[↓cJ,↓cK,↓bY,↓bl,↓aB,↓aF,↓ax,↓aG,↓aM,↓aN,↓ay,↓aH,↓aE,↓aV,↓aZ,↓ba,↓ds,↓aA,↓bu,↓b4,↓c4,↓cc,↓cd,↓b5,↓cf,↓cg,↓ch,↓ci,↓cj,↓ck,↓bw,↓bx,↓bz,↓c5,↓c6,↓c7,↓c8,↓c9,↓da,↓db,↓dc,↓dd,↓cl,↓cm,↓cn,↓fp,↓fz,↓fO,↓bE,↓cA,↓bm,↓c1,↓ca,↓cF,↓cU,↓de,↓a0,↓aO,↓a1,↓aS,↓aD,↓a2,↓cP,↓bV,↓b6,↓co,↓cp,↓cq,↓cr,↓ct,↓cv,↓cw,↓cx,bL,dK,List.cons_append,List.nil_append,b1,decide_eq_false_iff_not,ite_not,↓reduceIte,a7,aI,bc,bA,eW,ed,ee,bg,bP,cy,Nat.reduceAdd,List.all_cons,List.all_nil,dx,dh,dz,dT,bD,↓bb,Nat.reduceLeDiff,aC,cV,cX,a9 r,a9 h,↓A,cS,eq_false c,dy,bW,a9 (y _),if_false,jj,Nat.add_zero]
 rcases JX au az with⟨e,q⟩|⟨e,q⟩|⟨e,N,O⟩|⟨e,q⟩
 ·exact key 2 100 _ e (by omega) rfl (by unfold g4;rw[if_pos q,if_pos au])
 ·exact key 3 1000 _ e (by omega) rfl (by unfold g4;split<;> split<;> omega)
 ·exact key 4 10000 _ e (by omega) rfl (by unfold g4;rw[if_neg (by omega)];split<;> split<;> omega)
 ·exact key 5 100000 _ e (by omega) rfl (by unfold g4;rw[if_neg (by omega),if_neg (by omega)];split<;> split<;> omega)
end
abbrev qD(cs:List af)(U R:List (List du)):ag:={own:=[.cells cs],up:=U,ro:=R}
theorem VW(cs:List af)(U R:List (List du)):(qD cs U R).aj.get (.g (U.length+R.length) 0)=some (.cells cs):=by
 simp -implicitDefEqProofs only[ag.get,ag.aa,ag.aj,bP];rw[if_neg (by omega),if_pos (by omega)]
 have:U.length+1+R.length-1-(U.length+R.length)=0:=by omega
 rw[this];rfl
theorem VX(cs e:List af)(U R:List (List du)):(qD cs U R).aj.set (.g (U.length+R.length) 0) (.cells e)=some (qD e U R).aj:=by
 simp -implicitDefEqProofs only[ag.set,ag.aa,ag.aj,bP];rw[if_neg (by omega),if_pos ⟨by omega,by omega⟩]
 have:U.length+1+R.length-1-(U.length+R.length)=0:=by omega
 rw[this];rfl
section
variable(G:Nat→af)(X:Nat→List af→ag→ah)
theorem qz{k:bf}{cs:List af}{U R:List (List du)}{o:Nat}{n:Int}(e:o<cs.length):(aU aK G X).b8 (qD cs U R).aj k 1 (.ref (.g (U.length+R.length) 0) o) (.int .u8 n)=k .dead (qD (cs.set o (.int .u8 n)) U R).aj:=by
 rw[k4];simp -implicitDefEqProofs only[fl,af.fh,af.cells,bP,cy,bg,gM,bD,b2];unfold iu;simp -implicitDefEqProofs only[VW];have eh:(qD cs U R).aj.hB (.g (U.length+R.length) 0) [.int .u8 n]=true:=by simp [ag.hB,af.aY,af.bd]
 simp -implicitDefEqProofs only[bP,cy,bg,show Nat.ble (o+1) cs.length=true from eQ e,eh,List.all_cons,dx,List.all_nil,bD,b2];show(match (qD cs U R).aj.set (.g (U.length+R.length) 0) (.cells (dS cs o [.int .u8 n])) with |some s=>k .dead s|none=>.fail)=_;rw[VX];rfl
theorem WA(cs:List af)(U R:List (List du)):(aU aK G X).a5 false [] (qD cs U R).aj=.ok (.ea []) (qD cs U R):=rfl
theorem aa4{k:bf}{S:ag}{D n:Nat}(i:Nat)(h:i<n):(aU aK G X).bT S k 1 (.cZ (.g D 0) 1 n 23 1) (.int .i64 (i:Int))=k (.ref (.g D 0) (i+1)) S:=by have:=jh (T:=aK) (G:=G) (X:=X) (S:=S) (k:=k) (.g D 0) 1 n 23 1 .i64 i h;rw[this,Nat.mul_one,Nat.add_comm]
abbrev CO(n:Nat):af:=.int .u32 (n:Int)
variable{cs:List af}{U R:List (List du)}{n:Nat}(a3:cs.length=24)
include a3
theorem ID(x:Nat)(a8:x<10)(dp:0<n):oj (aU aK G X) (.cZ (.g (U.length+R.length) 0) 1 n 23 1) (I (1:Nat)) (CO x) (qD cs U R).aj=.ok (.ea []) (qD (cs.set 1 (wD (48+x))) U R):=by
 have e:IntKind.wrap .u32 (48+(x:Int))=((48+x:Nat):Int):=by rw[j4 (by omega) (by omega)];omega
 have h:IntKind.wrap .u8 ((48+x:Nat):Int)=((48+x:Nat):Int):=u8_in _ (by omega);have i0:∀(k:bf) (S:ag),(aU aK G X).bT S k 1 (.cZ (.g (U.length+R.length) 0) 1 n 23 1) (.int .i64 0)=k (.ref (.g (U.length+R.length) 0) 1) S:=fun k S=>aa4 G X 0 dp
 have q:(0:Int)<((1:Nat):Int):=by omega
 rw[vW];simp -implicitDefEqProofs only[↓cJ,↓cK,↓bY,↓bl,↓aB,↓aF,↓ax,↓aG,↓aM,↓aN,↓ay,↓aH,↓aE,↓aV,↓aZ,↓ba,↓ds,↓aA,↓bu,↓b4,↓c4,↓cc,↓cd,↓b5,↓cf,↓cg,↓ch,↓ci,↓cj,↓ck,↓bw,↓bx,↓bz,↓c5,↓c6,↓c7,↓c8,↓c9,↓da,↓db,↓dc,↓dd,↓cl,↓cm,↓cn,↓fp,↓fz,↓fO,↓bE,↓cA,↓bm,↓c1,↓ca,↓cF,↓cU,↓de,↓a0,↓aO,↓a1,↓aS,↓aD,↓a2,↓cP,↓bV,↓b6,↓co,↓cp,↓cq,↓cr,↓ct,↓cv,↓cw,↓cx,bL,dK,List.cons_append,List.nil_append,b1,decide_eq_false_iff_not,ite_not,↓reduceIte,a7,aI,bc,bA,eW,ed,ee,bg,bP,cy,Nat.reduceAdd,List.all_cons,List.all_nil,dx,dh,dz,dT,bD,↓bb,Nat.reduceLeDiff,aC,cV,cX,eq_true q,dG,e,↓x4,h,↓i0];rw[qz G X (by omega)];simp -implicitDefEqProofs only[WA];rfl
omit a3 in
theorem IE(x:Nat):oj (aU aK G X) (.cZ (.g (U.length+R.length) 0) 1 n 23 1) (I (0:Nat)) (CO x) (qD cs U R).aj=.ok (.ea []) (qD cs U R):=by
 have e:¬(0:Int)<((0:Nat):Int):=by omega
 rw[vW];simp -implicitDefEqProofs only[↓cJ,↓cK,↓bY,↓bl,↓aB,↓aF,↓ax,↓aG,↓aM,↓aN,↓ay,↓aH,↓aE,↓aV,↓aZ,↓ba,↓ds,↓aA,↓bu,↓b4,↓c4,↓cc,↓cd,↓b5,↓cf,↓cg,↓ch,↓ci,↓cj,↓ck,↓bw,↓bx,↓bz,↓c5,↓c6,↓c7,↓c8,↓c9,↓da,↓db,↓dc,↓dd,↓cl,↓cm,↓cn,↓fp,↓fz,↓fO,↓bE,↓cA,↓bm,↓c1,↓ca,↓cF,↓cU,↓de,↓a0,↓aO,↓a1,↓aS,↓aD,↓a2,↓cP,↓bV,↓b6,↓co,↓cp,↓cq,↓cr,↓ct,↓cv,↓cw,↓cx,bL,dK,List.cons_append,List.nil_append,b1,decide_eq_false_iff_not,ite_not,↓reduceIte,a7,aI,bc,bA,eW,ed,ee,bg,bP,cy,Nat.reduceAdd,List.all_cons,List.all_nil,dx,dh,dz,dT,bD,↓bb,Nat.reduceLeDiff,aC,cV,cX,eq_false e,dy,bW,WA]
theorem IF(p x:Nat)(fC:p+2≤n)(F:p≤2)(a8:x<4294967296):ol (aU aK G X) (.cZ (.g (U.length+R.length) 0) 1 n 23 1) (I ((p+2:Nat):Int)) (CO x) (qD cs U R).aj =
  oj (aU aK G X) (.cZ (.g (U.length+R.length) 0) 1 n 23 1) (I (p:Nat)) (CO (x/100)) (qD ((cs.set (p+2) (wD (48+x%100%10))).set (p+1) (wD (48+x%100/10))) U R).aj:=by
 have h:IntKind.wrap .u32 ((x:Int).tdiv 100)=((x/100:Nat):Int):=by rw[Int.tdiv_eq_ediv_of_nonneg (by omega),j4 (by omega) (by omega)];omega
 have q:(x:Int).tmod 100=((x%100:Nat):Int):=by rw[Int.tmod_eq_emod_of_nonneg (by omega)];omega
 have r:IntKind.wrap .u32 (((x%100:Nat):Int)*2)=((x%100*2:Nat):Int):=by rw[j4 (by omega) (by omega)];omega
 have u:IntKind.wrap .u32 (((x%100*2:Nat):Int)+1)=((x%100*2+1:Nat):Int):=by rw[j4 (by omega) (by omega)];omega
 have y:IntKind.wrap .i64 (((p+2:Nat):Int)-1)=((p+1:Nat):Int):=by rw[eD _ (by omega) (by omega)];omega
 have A:IntKind.wrap .i64 (((p+2:Nat):Int)-2)=(p:Int):=by rw[eD _ (by omega) (by omega)];omega
 have e:(100:Int)≠0:=by omega
 have B:(2:Int)≤((p+2:Nat):Int):=by omega
 have hN:=fun(s:ag) (k:bf)=>sF G X (s:=s) (k:=k) ((x%100*2:Nat):Int) _ ⟨_,rfl,wm (x%100) (by omega)⟩
 have s1:=fun(s:ag) (k:bf)=>sF G X (s:=s) (k:=k) ((x%100*2+1:Nat):Int) _ ⟨_,rfl,wo (x%100) (by omega)⟩
 have i1:=fun(k:bf) (S:ag)=>aa4 G X (k:=k) (S:=S) (D:=U.length+R.length) (n:=n) (p+1) (by omega)
 have i2:=fun(k:bf) (S:ag)=>aa4 G X (k:=k) (S:=S) (D:=U.length+R.length) (n:=n) p (by omega)
 unfold k9 at hN s1;rw[vX];simp -implicitDefEqProofs only[↓cJ,↓cK,↓bY,↓bl,↓aB,↓aF,↓ax,↓aG,↓aM,↓aN,↓ay,↓aH,↓aE,↓aV,↓aZ,↓ba,↓ds,↓aA,↓bu,↓b4,↓c4,↓cc,↓cd,↓b5,↓cf,↓cg,↓ch,↓ci,↓cj,↓ck,↓bw,↓bx,↓bz,↓c5,↓c6,↓c7,↓c8,↓c9,↓da,↓db,↓dc,↓dd,↓cl,↓cm,↓cn,↓fp,↓fz,↓fO,↓bE,↓cA,↓bm,↓c1,↓ca,↓cF,↓cU,↓de,↓a0,↓aO,↓a1,↓aS,↓aD,↓a2,↓cP,↓bV,↓b6,↓co,↓cp,↓cq,↓cr,↓ct,↓cv,↓cw,↓cx,bL,dK,List.cons_append,List.nil_append,b1,decide_eq_false_iff_not,ite_not,↓reduceIte,a7,aI,bc,bA,eW,ed,ee,bg,bP,cy,Nat.reduceAdd,List.all_cons,List.all_nil,dx,dh,dz,dT,bD,↓bb,Nat.reduceLeDiff,aC,cV,cX,eq_true B,dG,↓sa G X _ _ _ e,↓zH G X _ _ _ e,h,q,r,u,y,A,↓hN,↓s1,↓i1,↓i2];rw[qz G X (by omega),qz G X (by rw[List.length_set];omega)];rfl
omit a3 in
theorem IG(p x:Nat)(fC:p<2):ol (aU aK G X) (.cZ (.g (U.length+R.length) 0) 1 n 23 1) (I (p:Nat)) (CO x) (qD cs U R).aj=oj (aU aK G X) (.cZ (.g (U.length+R.length) 0) 1 n 23 1) (I (p:Nat)) (CO x) (qD cs U R).aj:=by
 have e:¬(2:Int)≤(p:Int):=by omega
 rw[vX];simp -implicitDefEqProofs only[↓cJ,↓cK,↓bY,↓bl,↓aB,↓aF,↓ax,↓aG,↓aM,↓aN,↓ay,↓aH,↓aE,↓aV,↓aZ,↓ba,↓ds,↓aA,↓bu,↓b4,↓c4,↓cc,↓cd,↓b5,↓cf,↓cg,↓ch,↓ci,↓cj,↓ck,↓bw,↓bx,↓bz,↓c5,↓c6,↓c7,↓c8,↓c9,↓da,↓db,↓dc,↓dd,↓cl,↓cm,↓cn,↓fp,↓fz,↓fO,↓bE,↓cA,↓bm,↓c1,↓ca,↓cF,↓cU,↓de,↓a0,↓aO,↓a1,↓aS,↓aD,↓a2,↓cP,↓bV,↓b6,↓co,↓cp,↓cq,↓cr,↓ct,↓cv,↓cw,↓cx,bL,dK,List.cons_append,List.nil_append,b1,decide_eq_false_iff_not,ite_not,↓reduceIte,a7,aI,bc,bA,eW,ed,ee,bg,bP,cy,Nat.reduceAdd,List.all_cons,List.all_nil,dx,dh,dz,dT,bD,↓bb,Nat.reduceLeDiff,aC,cV,cX,eq_false e,dy,bW]
theorem zI(p u:Nat)(fC:p+4≤n)(Y:p≤3)(hu:u<4294967296):t0 (aU aK G X) (.cZ (.g (U.length+R.length) 0) 1 n 23 1) (.int .u64 (u:Int)) (I ((p+4:Nat):Int)) (qD cs U R).aj =
  ol (aU aK G X) (.cZ (.g (U.length+R.length) 0) 1 n 23 1) (I (p:Nat)) (CO (u/10000)) (qD ((((cs.set (p+4) (wD (48+u%10000%100%10))).set (p+3) (wD (48+u%10000%100/10))).set (p+2) (wD (48+u%10000/100%10))).set (p+1) (wD (48+u%10000/100/10))) U R).aj:=by
 have dU:IntKind.wrap .u32 (u:Int)=(u:Int):=j4 (by omega) (by omega);have e:(u:Int).tmod 10000=((u%10000:Nat):Int):=by rw[Int.tmod_eq_emod_of_nonneg (by omega)];omega
 have y:IntKind.wrap .u32 ((u:Int).tdiv 10000)=((u/10000:Nat):Int):=by rw[Int.tdiv_eq_ediv_of_nonneg (by omega),j4 (by omega) (by omega)];omega
 obtain⟨t,eh,lU⟩:∃t,t=u%10000∧t<10000:=⟨_,rfl,by omega⟩;rw[←eh] at e;rw[←eh];have A:IntKind.wrap .u32 ((t:Int).tdiv 100)=((t/100:Nat):Int):=by rw[Int.tdiv_eq_ediv_of_nonneg (by omega),j4 (by omega) (by omega)];omega
 have B:IntKind.wrap .u32 (((t/100:Nat):Int)*2)=((t/100*2:Nat):Int):=by rw[j4 (by omega) (by omega)];omega
 have F:(t:Int).tmod 100=((t%100:Nat):Int):=by rw[Int.tmod_eq_emod_of_nonneg (by omega)];omega
 have H:IntKind.wrap .u32 (((t%100:Nat):Int)*2)=((t%100*2:Nat):Int):=by rw[j4 (by omega) (by omega)];omega
 have J:IntKind.wrap .u32 (((t%100*2:Nat):Int)+1)=((t%100*2+1:Nat):Int):=by rw[j4 (by omega) (by omega)];omega
 have K:IntKind.wrap .u32 (((t/100*2:Nat):Int)+1)=((t/100*2+1:Nat):Int):=by rw[j4 (by omega) (by omega)];omega
 have L:IntKind.wrap .i64 (((p+4:Nat):Int)-1)=((p+3:Nat):Int):=by rw[eD _ (by omega) (by omega)];omega
 have M:IntKind.wrap .i64 (((p+4:Nat):Int)-2)=((p+2:Nat):Int):=by rw[eD _ (by omega) (by omega)];omega
 have N:IntKind.wrap .i64 (((p+4:Nat):Int)-3)=((p+1:Nat):Int):=by rw[eD _ (by omega) (by omega)];omega
 have O:IntKind.wrap .i64 (((p+4:Nat):Int)-4)=(p:Int):=by rw[eD _ (by omega) (by omega)];omega
 have h:(10000:Int)≠0:=by omega
 have q:(100:Int)≠0:=by omega
 have V:(4:Int)≤((p+4:Nat):Int):=by omega
 have hN:=fun(s:ag) (k:bf)=>sF G X (s:=s) (k:=k) ((t%100*2:Nat):Int) _ ⟨_,rfl,wm (t%100) (by omega)⟩
 have s1:=fun(s:ag) (k:bf)=>sF G X (s:=s) (k:=k) ((t%100*2+1:Nat):Int) _ ⟨_,rfl,wo (t%100) (by omega)⟩
 have s2:=fun(s:ag) (k:bf)=>sF G X (s:=s) (k:=k) ((t/100*2:Nat):Int) _ ⟨_,rfl,wm (t/100) (by omega)⟩
 have r:=fun(s:ag) (k:bf)=>sF G X (s:=s) (k:=k) ((t/100*2+1:Nat):Int) _ ⟨_,rfl,wo (t/100) (by omega)⟩
 have i1:=fun(k:bf) (S:ag)=>aa4 G X (k:=k) (S:=S) (D:=U.length+R.length) (n:=n) (p+3) (by omega)
 have i2:=fun(k:bf) (S:ag)=>aa4 G X (k:=k) (S:=S) (D:=U.length+R.length) (n:=n) (p+2) (by omega)
 have i3:=fun(k:bf) (S:ag)=>aa4 G X (k:=k) (S:=S) (D:=U.length+R.length) (n:=n) (p+1) (by omega)
 have i4:=fun(k:bf) (S:ag)=>aa4 G X (k:=k) (S:=S) (D:=U.length+R.length) (n:=n) p (by omega)
 unfold k9 at hN s1 s2 r;rw[vY];simp -implicitDefEqProofs only[↓cJ,↓cK,↓bY,↓bl,↓aB,↓aF,↓ax,↓aG,↓aM,↓aN,↓ay,↓aH,↓aE,↓aV,↓aZ,↓ba,↓ds,↓aA,↓bu,↓b4,↓c4,↓cc,↓cd,↓b5,↓cf,↓cg,↓ch,↓ci,↓cj,↓ck,↓bw,↓bx,↓bz,↓c5,↓c6,↓c7,↓c8,↓c9,↓da,↓db,↓dc,↓dd,↓cl,↓cm,↓cn,↓fp,↓fz,↓fO,↓bE,↓cA,↓bm,↓c1,↓ca,↓cF,↓cU,↓de,↓a0,↓aO,↓a1,↓aS,↓aD,↓a2,↓cP,↓bV,↓b6,↓co,↓cp,↓cq,↓cr,↓ct,↓cv,↓cw,↓cx,bL,dK,List.cons_append,List.nil_append,b1,decide_eq_false_iff_not,ite_not,↓reduceIte,a7,aI,bc,bA,eW,ed,ee,bg,bP,cy,Nat.reduceAdd,List.all_cons,List.all_nil,dx,dh,dz,dT,bD,↓bb,Nat.reduceLeDiff,aC,cV,cX,↓x4,dU,eq_true V,dG,↓sa G X _ _ _ h,↓sa G X _ _ _ q,↓zH G X _ _ _ h,↓zH G X _ _ _ q,e,y,A,B,F,H,J,K,L,M,N,O,↓hN,↓s1,↓s2,↓r,↓i1,↓i2,↓i3,↓i4];rw[qz G X (by omega),qz G X (by rw[List.length_set];omega),qz G X (by rw[List.length_set,List.length_set];omega),qz G X (by rw[List.length_set,List.length_set,List.length_set];omega)];rfl
omit a3 in
theorem VY(p u:Nat)(fC:p<4)(hu:u<4294967296):t0 (aU aK G X) (.cZ (.g (U.length+R.length) 0) 1 n 23 1) (.int .u64 (u:Int)) (I (p:Nat)) (qD cs U R).aj=ol (aU aK G X) (.cZ (.g (U.length+R.length) 0) 1 n 23 1) (I (p:Nat)) (CO u) (qD cs U R).aj:=by
 have dU:IntKind.wrap .u32 (u:Int)=(u:Int):=j4 (by omega) (by omega);have e:¬(4:Int)≤(p:Int):=by omega
 rw[vY];simp -implicitDefEqProofs only[↓cJ,↓cK,↓bY,↓bl,↓aB,↓aF,↓ax,↓aG,↓aM,↓aN,↓ay,↓aH,↓aE,↓aV,↓aZ,↓ba,↓ds,↓aA,↓bu,↓b4,↓c4,↓cc,↓cd,↓b5,↓cf,↓cg,↓ch,↓ci,↓cj,↓ck,↓bw,↓bx,↓bz,↓c5,↓c6,↓c7,↓c8,↓c9,↓da,↓db,↓dc,↓dd,↓cl,↓cm,↓cn,↓fp,↓fz,↓fO,↓bE,↓cA,↓bm,↓c1,↓ca,↓cF,↓cU,↓de,↓a0,↓aO,↓a1,↓aS,↓aD,↓a2,↓cP,↓bV,↓b6,↓co,↓cp,↓cq,↓cr,↓ct,↓cv,↓cw,↓cx,bL,dK,List.cons_append,List.nil_append,b1,decide_eq_false_iff_not,ite_not,↓reduceIte,a7,aI,bc,bA,eW,ed,ee,bg,bP,cy,Nat.reduceAdd,List.all_cons,List.all_nil,dx,dh,dz,dT,bD,↓bb,Nat.reduceLeDiff,aC,cV,cX,↓x4,dU,eq_false e,dy,bW]
end
def oF(u:Nat):List Nat:=
 if u<1000 then[48+u/100,48+u%100/10,48+u%100%10]
 else if u<10000 then[48+u%10000/100/10,48+u%10000/100%10,48+u%10000%100/10,48+u%10000%100%10]
 else if u<100000 then[48+u/10000,48+u%10000/100/10,48+u%10000/100%10,48+u%10000%100/10,48+u%10000%100%10]
 else[48+u/10000%100/10,48+u/10000%100%10,48+u%10000/100/10,48+u%10000/100%10,48+u%10000%100/10,48+u%10000%100%10]
theorem pD(u:Nat):(oF u).length=g4 u:=by
 unfold oF g4;by_cases au:u<1000
 ·rw[if_pos au,if_pos au];rfl
 ·by_cases az:u<10000
  ·rw[if_neg au,if_neg au,if_pos az,if_pos az];rfl
  ·by_cases b3:u<100000
   ·rw[if_neg au,if_neg au,if_neg az,if_neg az,if_pos b3,if_pos b3];rfl
   ·rw[if_neg au,if_neg au,if_neg az,if_neg az,if_neg b3,if_neg b3];rfl
def sb(u:Nat):List af:=wD 0::(oF u).map wD++List.replicate (23-g4 u) (wD 0)
section
variable(G:Nat→af)(X:Nat→List af→ag→ah)
theorem VZ(u:Nat)(au:100≤u)(az:u<131072)(U R:List (List du)):aL aK G X 97 [.cZ (.g (U.length+R.length) 0) 1 (g4 u) 23 1,.int .u64 (u:Int)] (qD (List.replicate 24 (wD 0)) U R)=.ok (.ea []) (qD (sb u) U R):=by
 have y:¬(8:Int)≤((g4 u:Nat):Int):=by unfold g4;split<;> (try split)<;> (try split)<;> omega
 rw[JF,Vu];simp -implicitDefEqProofs only[↓cJ,↓cK,↓bY,↓bl,↓aB,↓aF,↓ax,↓aG,↓aM,↓aN,↓ay,↓aH,↓aE,↓aV,↓aZ,↓ba,↓ds,↓aA,↓bu,↓b4,↓c4,↓cc,↓cd,↓b5,↓cf,↓cg,↓ch,↓ci,↓cj,↓ck,↓bw,↓bx,↓bz,↓c5,↓c6,↓c7,↓c8,↓c9,↓da,↓db,↓dc,↓dd,↓cl,↓cm,↓cn,↓fp,↓fz,↓fO,↓bE,↓cA,↓bm,↓c1,↓ca,↓cF,↓cU,↓de,↓a0,↓aO,↓a1,↓aS,↓aD,↓a2,↓cP,↓bV,↓b6,↓co,↓cp,↓cq,↓cr,↓ct,↓cv,↓cw,↓cx,bL,dK,List.cons_append,List.nil_append,b1,decide_eq_false_iff_not,ite_not,↓reduceIte,a7,aI,bc,bA,eW,ed,ee,bg,bP,cy,Nat.reduceAdd,List.all_cons,List.all_nil,dx,dh,dz,dT,bD,↓bb,Nat.reduceLeDiff,aC,cV,cX,Ew,eq_false y,dy,bW];unfold sb oF;by_cases h:u<1000
 ·have e:g4 u=3:=by unfold g4;rw[if_pos h]
  rw[if_pos h,e,VY G X 3 u (by omega) (by omega)];refine(IF G X (by simp) 1 u (by omega) (by omega) (by omega)).trans ?_;exact ID G X (by simp) (u/100) (by omega) (by omega)
 ·by_cases q:u<10000
  ·have e:g4 u=4:=by unfold g4;rw[if_neg h,if_pos q]
   rw[if_neg h,if_pos q,e];refine(zI G X (by simp) 0 u (by omega) (by omega) (by omega)).trans ?_;rw[IG G X 0 _ (by omega),IE];rfl
  ·by_cases r:u<100000
   ·have e:g4 u=5:=by unfold g4;rw[if_neg h,if_neg q,if_pos r]
    rw[if_neg h,if_neg q,if_pos r,e];refine(zI G X (by simp) 1 u (by omega) (by omega) (by omega)).trans ?_;rw[IG G X 1 _ (by omega)];exact ID G X (by simp) (u/10000) (by omega) (by omega)
   ·have e:g4 u=6:=by unfold g4;rw[if_neg h,if_neg q,if_neg r]
    rw[if_neg h,if_neg q,if_neg r,e];refine(zI G X (by simp) 2 u (by omega) (by omega) (by omega)).trans ?_;refine(IF G X (by simp) 0 (u/10000) (by omega) (by omega) (by omega)).trans ?_;rw[IE];rfl
end
def eK(u:Nat):List Nat:=if u<10 then[48+u] else if u<100 then[48+u/10,48+u%10] else oF u
def WB(l:List Nat):Nat:=l.foldl (fun a d=>a*10+(d-48)) 0
theorem wq{u:Nat}(h:u<131072):WB (eK u)=u:=by
 unfold eK oF WB;split
 ·simp -implicitDefEqProofs only[List.foldl];omega
 ·split
  ·simp -implicitDefEqProofs only[List.foldl];omega
  ·split
   ·simp -implicitDefEqProofs only[List.foldl];omega
   ·split
    ·simp -implicitDefEqProofs only[List.foldl];omega
    ·split
     ·simp -implicitDefEqProofs only[List.foldl];omega
     ·simp -implicitDefEqProofs only[List.foldl];omega
theorem JY{u v:Nat}(hu:u<131072)(bO:v<131072)(h:eK u=eK v):u=v:=by rw[←wq hu,←wq bO,h]
theorem Fs{u:Nat}(h:u<131072):∀b,b∈oF u→b<256:=by
 intro b e;unfold oF at e;split at e
 ·simp at e;omega
 ·split at e
  ·simp at e;omega
  ·split at e
   ·simp at e;omega
   ·simp at e;omega
theorem JZ{u:Nat}(h:u<131072):(eK u).length≤6:=by
 unfold eK;split
 ·simp
 ·split
  ·simp
  ·rw[pD];unfold g4;split<;> (try split)<;> (try split)<;> omega
section
variable(G:Nat→af)(X:Nat→List af→ag→ah)
theorem Pj(u:Nat)(h:u<10):(ug.drop u).take (u+1-u)=eK u:=by
 have:∀u:Fin 10,(ug.drop u.val).take (u.val+1-u.val)=eK u.val:=by decide
 exact this ⟨u,h⟩
theorem V0(u:Nat)(au:10≤u)(h:u<100):(k9.drop (u*2)).take (u*2+2-u*2)=eK u:=by
 have:∀u:Fin 100,10≤u.val→(k9.drop (u.val*2)).take (u.val*2+2-u.val*2)=eK u.val:=by decide
 exact this ⟨u,h⟩ au
theorem V1(u:Nat)(h:u<100)(s:ag):aL aK G X 95 [.int .i64 (u:Int)] s=.ok (.str (eK u)) s:=by
 rw[JD,Vs];have e:IntKind.wrap .i64 ((u:Int)+1)=((u+1:Nat):Int):=by rw[eD _ (by omega) (by omega)];omega
 have q:IntKind.wrap .i64 ((u:Int)*2)=((u*2:Nat):Int):=by rw[eD _ (by omega) (by omega)];omega
 have r:IntKind.wrap .i64 (((u*2:Nat):Int)+2)=((u*2+2:Nat):Int):=by rw[eD _ (by omega) (by omega)];omega
 by_cases au:u<10
 ·have c:(u:Int)<10:=by omega
  have a6:=fun(s:ag) (k:bf)=>IA G X (s:=s) (k:=k) ug .i64 .i64 u (u+1) (by omega) (by show u+1≤36;omega)
  rw[Pj u au] at a6;unfold ug at a6;simp -implicitDefEqProofs only[↓cJ,↓cK,↓bY,↓bl,↓aB,↓aF,↓ax,↓aG,↓aM,↓aN,↓ay,↓aH,↓aE,↓aV,↓aZ,↓ba,↓ds,↓aA,↓bu,↓b4,↓c4,↓cc,↓cd,↓b5,↓cf,↓cg,↓ch,↓ci,↓cj,↓ck,↓bw,↓bx,↓bz,↓c5,↓c6,↓c7,↓c8,↓c9,↓da,↓db,↓dc,↓dd,↓cl,↓cm,↓cn,↓fp,↓fz,↓fO,↓bE,↓cA,↓bm,↓c1,↓ca,↓cF,↓cU,↓de,↓a0,↓aO,↓a1,↓aS,↓aD,↓a2,↓cP,↓bV,↓b6,↓co,↓cp,↓cq,↓cr,↓ct,↓cv,↓cw,↓cx,bL,dK,List.cons_append,List.nil_append,b1,decide_eq_false_iff_not,ite_not,↓reduceIte,a7,aI,bc,bA,eW,ed,ee,bg,bP,cy,Nat.reduceAdd,List.all_cons,List.all_nil,dx,dh,dz,dT,bD,↓bb,Nat.reduceLeDiff,aC,cV,cX,eq_true c,dG,e,↓a6]
 ·have c:¬(u:Int)<10:=by omega
  have a6:=fun(s:ag) (k:bf)=>IA G X (s:=s) (k:=k) k9 .i64 .i64 (u*2) (u*2+2) (by omega) (by show u*2+2≤200;omega)
  rw[V0 u (by omega) h] at a6;unfold k9 at a6;simp -implicitDefEqProofs only[↓cJ,↓cK,↓bY,↓bl,↓aB,↓aF,↓ax,↓aG,↓aM,↓aN,↓ay,↓aH,↓aE,↓aV,↓aZ,↓ba,↓ds,↓aA,↓bu,↓b4,↓c4,↓cc,↓cd,↓b5,↓cf,↓cg,↓ch,↓ci,↓cj,↓ck,↓bw,↓bx,↓bz,↓c5,↓c6,↓c7,↓c8,↓c9,↓da,↓db,↓dc,↓dd,↓cl,↓cm,↓cn,↓fp,↓fz,↓fO,↓bE,↓cA,↓bm,↓c1,↓ca,↓cF,↓cU,↓de,↓a0,↓aO,↓a1,↓aS,↓aD,↓a2,↓cP,↓bV,↓b6,↓co,↓cp,↓cq,↓cr,↓ct,↓cv,↓cw,↓cx,bL,dK,List.cons_append,List.nil_append,b1,decide_eq_false_iff_not,ite_not,↓reduceIte,a7,aI,bc,bA,eW,ed,ee,bg,bP,cy,Nat.reduceAdd,List.all_cons,List.all_nil,dx,dh,dz,dT,bD,↓bb,Nat.reduceLeDiff,aC,cV,cX,eq_false c,dy,bW,Ev,q,r,↓a6]
theorem aa5(s:ag)(k:bf)(n:Nat)(h:n≤23):(aU aK G X).mf 1 24 (.ref (.l 0) 0) (some (.int .i64 1)) (some (.int .i64 ((n+1:Nat):Int))) none s k=k (.cZ (.l 0) 1 n 23 1) s:=by show rp 1 24 (.ref (.l 0) 0) (some (.int .i64 ((1:Nat):Int))) (some (.int .i64 ((n+1:Nat):Int))) none s k=_;unfold rp pH;simp -implicitDefEqProofs only[g6,eQ (show 1≤n+1 by omega),eQ (show n+1≤24 by omega),show Nat.ble 24 24=true from rfl,bD,b2];rw[if_neg (by omega),show 0+1*1=1 from rfl,show n+1-1=n by omega]
theorem sc:∀(l:List Nat) (r:List af),chunk 1 l.length (l.map wD++r)=l.map wD
 |[],_=>rfl
 |x::l,r=>by simp -implicitDefEqProofs only[bP,chunk,fK,List.cons_append];show mj 1 (wD x::(l.map wD++r))::chunk 1 l.length (l.map wD++r)=_;rw[sc l r];rfl
theorem p8:∀(l:List Nat),af.aY (l.map wD)=true
 |[]=>rfl
 |x::l=>by simp -implicitDefEqProofs only[fK,af.aY,p8 l,Bool.and_true];rfl
theorem p9:∀(l:List Nat),(∀b,b∈l→b<256)→h5 (l.map wD)=some l
 |[],_=>rfl
 |x::l,h=>by have a8:=h x List.mem_cons_self;simp -implicitDefEqProofs only[fK];show h5 (.int .u8 (x:Int)::l.map wD)=_;unfold h5;rw[p9 l (fun b e=>h b (List.mem_cons_of_mem _ e))];simp;omega
theorem CP(u:Nat)(U R:List (List du))(dp:g4 u≤23):dL (qD (sb u) U R) (.cZ (.l 0) 1 (g4 u) 23 1)=some (1,(oF u).map wD):=by
 have cS:(sb u).drop 1=(oF u).map wD++List.replicate (23-g4 u) (wD 0):=rfl;have bK:(sb u).length=24:=by simp [sb,pD];omega
 show(let es:=chunk 1 (g4 u) ((sb u).drop 1);if af.aY es&&Nat.ble (1+g4 u*1) (sb u).length&& !Nat.beq 1 0 then some (1,es) else none)=_;simp -implicitDefEqProofs only[cS,←pD,sc,p8,bK];rw[if_pos]
 have:Nat.ble (1+(oF u).length*1) 24=true:=eQ (by rw[pD];omega);rw[this];rfl
theorem V2(dX:G 0=.bI jn)(u:Nat)(h:u<131072)(s:ag):aL aK G X 77 [.int .i64 (u:Int),.int .i64 10] s=.ok (.str (eK u)) s:=by
 rw[JC,Vr];have t10:(10:Int)=10:=rfl;have q:(0:Int)≤(u:Int):=by omega
 by_cases r:u<100
 ·have c:(u:Int)<100:=by omega
  have F:=V1 G X u r s.aj;simp -implicitDefEqProofs only[↓cJ,↓cK,↓bY,↓bl,↓aB,↓aF,↓ax,↓aG,↓aM,↓aN,↓ay,↓aH,↓aE,↓aV,↓aZ,↓ba,↓ds,↓aA,↓bu,↓b4,↓c4,↓cc,↓cd,↓b5,↓cf,↓cg,↓ch,↓ci,↓cj,↓ck,↓bw,↓bx,↓bz,↓c5,↓c6,↓c7,↓c8,↓c9,↓da,↓db,↓dc,↓dd,↓cl,↓cm,↓cn,↓fp,↓fz,↓fO,↓bE,↓cA,↓bm,↓c1,↓ca,↓cF,↓cU,↓de,↓a0,↓aO,↓a1,↓aS,↓aD,↓a2,↓cP,↓bV,↓b6,↓co,↓cp,↓cq,↓cr,↓ct,↓cv,↓cw,↓cx,bL,dK,List.cons_append,List.nil_append,b1,decide_eq_false_iff_not,ite_not,↓reduceIte,a7,aI,bc,bA,eW,ed,ee,bg,bP,cy,Nat.reduceAdd,List.all_cons,List.all_nil,dx,dh,dz,dT,bD,↓bb,Nat.reduceLeDiff,aC,cV,cX,eq_true t10,eq_true q,eq_true c,dG,a9 F]
 ·have c:¬(u:Int)<100:=by omega
  have y:¬(u:Int)<0:=by omega
  have dp:g4 u≤6:=by unfold g4;split<;> (try split)<;> (try split)<;> omega
  have w:IntKind.wrap .u64 (u:Int)=(u:Int):=IntWalk.u64_in _ ⟨by omega,by omega⟩;have A:IntKind.wrap .i64 (1+((g4 u:Nat):Int))=((g4 u+1:Nat):Int):=by rw[eD _ (by omega) (by omega)];omega
  have H:=fun s=>VV G X dX u (by omega) h s
  have I:=VZ G X u (by omega) h (s.own::s.up) s.ro;have B:=fun(s:ag) (k:bf)=>aa5 G X s k (g4 u) (by omega)
  have e:eK u=oF u:=by unfold eK;rw[if_neg (by omega),if_neg r]
  rw[e];simp -implicitDefEqProofs only[↓cJ,↓cK,↓bY,↓bl,↓aB,↓aF,↓ax,↓aG,↓aM,↓aN,↓ay,↓aH,↓aE,↓aV,↓aZ,↓ba,↓ds,↓aA,↓bu,↓b4,↓c4,↓cc,↓cd,↓b5,↓cf,↓cg,↓ch,↓ci,↓cj,↓ck,↓bw,↓bx,↓bz,↓c5,↓c6,↓c7,↓c8,↓c9,↓da,↓db,↓dc,↓dd,↓cl,↓cm,↓cn,↓fp,↓fz,↓fO,↓bE,↓cA,↓bm,↓c1,↓ca,↓cF,↓cU,↓de,↓a0,↓aO,↓a1,↓aS,↓aD,↓a2,↓cP,↓bV,↓b6,↓co,↓cp,↓cq,↓cr,↓ct,↓cv,↓cw,↓cx,bL,dK,List.cons_append,List.nil_append,b1,decide_eq_false_iff_not,ite_not,↓reduceIte,a7,aI,bc,bA,eW,ed,ee,bg,bP,cy,Nat.reduceAdd,List.all_cons,List.all_nil,dx,dh,dz,dT,bD,↓bb,Nat.reduceLeDiff,aC,cV,cX,eq_true t10,eq_true q,eq_false c,dG,dy,bW,Eu,↓x4,w,eq_false y,Et];refine(a9 (H _)).trans ?_;simp -implicitDefEqProofs only[↓cJ,↓cK,↓bY,↓bl,↓aB,↓aF,↓ax,↓aG,↓aM,↓aN,↓ay,↓aH,↓aE,↓aV,↓aZ,↓ba,↓ds,↓aA,↓bu,↓b4,↓c4,↓cc,↓cd,↓b5,↓cf,↓cg,↓ch,↓ci,↓cj,↓ck,↓bw,↓bx,↓bz,↓c5,↓c6,↓c7,↓c8,↓c9,↓da,↓db,↓dc,↓dd,↓cl,↓cm,↓cn,↓fp,↓fz,↓fO,↓bE,↓cA,↓bm,↓c1,↓ca,↓cF,↓cU,↓de,↓a0,↓aO,↓a1,↓aS,↓aD,↓a2,↓cP,↓bV,↓b6,↓co,↓cp,↓cq,↓cr,↓ct,↓cv,↓cw,↓cx,bL,dK,List.cons_append,List.nil_append,b1,decide_eq_false_iff_not,ite_not,↓reduceIte,a7,aI,bc,bA,eW,ed,ee,bg,bP,cy,Nat.reduceAdd,List.all_cons,List.all_nil,dx,dh,dz,dT,bD,↓bb,Nat.reduceLeDiff,aC,cV,cX,A];refine(B _ _).trans ?_;refine(yO I rfl).trans ?_;simp -implicitDefEqProofs only[↓cJ,↓cK,↓bY,↓bl,↓aB,↓aF,↓ax,↓aG,↓aM,↓aN,↓ay,↓aH,↓aE,↓aV,↓aZ,↓ba,↓ds,↓aA,↓bu,↓b4,↓c4,↓cc,↓cd,↓b5,↓cf,↓cg,↓ch,↓ci,↓cj,↓ck,↓bw,↓bx,↓bz,↓c5,↓c6,↓c7,↓c8,↓c9,↓da,↓db,↓dc,↓dd,↓cl,↓cm,↓cn,↓fp,↓fz,↓fO,↓bE,↓cA,↓bm,↓c1,↓ca,↓cF,↓cU,↓de,↓a0,↓aO,↓a1,↓aS,↓aD,↓a2,↓cP,↓bV,↓b6,↓co,↓cp,↓cq,↓cr,↓ct,↓cv,↓cw,↓cx,bL,dK,List.cons_append,List.nil_append,b1,decide_eq_false_iff_not,ite_not,↓reduceIte,a7,aI,bc,bA,eW,ed,ee,bg,bP,cy,Nat.reduceAdd,List.all_cons,List.all_nil,dx,dh,dz,dT,bD,↓bb,Nat.reduceLeDiff,aC,cV,cX,eq_false y,dy,bW,Es,A];refine(B _ _).trans ?_;show gD (gH G (aL aK G X) bQ) (qD (sb u) (s.own::s.up) s.ro) _ (.cZ (.l 0) 1 (g4 u) 23 1)=_;unfold gD;simp -implicitDefEqProofs only[CP u _ _ (show g4 u≤23 by omega),p9 _ (Fs h),ew,qC];rfl
theorem V3(dX:G 0=.bI jn)(u:Nat)(h:u<131072)(s:ag):aL aK G X 19 [.int .i64 (u:Int)] s=.ok (.str (eK u)) s:=by
 have e:=fun s=>V2 G X dX u h s
 have q:∀s,aL aK G X 47 [.int .i64 (u:Int)] s=.ok (.str (eK u)) s:=fun s=>by rw[JB,Vq];simp -implicitDefEqProofs only[↓cJ,↓cK,↓bY,↓bl,↓aB,↓aF,↓ax,↓aG,↓aM,↓aN,↓ay,↓aH,↓aE,↓aV,↓aZ,↓ba,↓ds,↓aA,↓bu,↓b4,↓c4,↓cc,↓cd,↓b5,↓cf,↓cg,↓ch,↓ci,↓cj,↓ck,↓bw,↓bx,↓bz,↓c5,↓c6,↓c7,↓c8,↓c9,↓da,↓db,↓dc,↓dd,↓cl,↓cm,↓cn,↓fp,↓fz,↓fO,↓bE,↓cA,↓bm,↓c1,↓ca,↓cF,↓cU,↓de,↓a0,↓aO,↓a1,↓aS,↓aD,↓a2,↓cP,↓bV,↓b6,↓co,↓cp,↓cq,↓cr,↓ct,↓cv,↓cw,↓cx,bL,dK,List.cons_append,List.nil_append,b1,decide_eq_false_iff_not,ite_not,↓reduceIte,a7,aI,bc,bA,eW,ed,ee,bg,bP,cy,Nat.reduceAdd,List.all_cons,List.all_nil,dx,dh,dz,dT,bD,↓bb,Nat.reduceLeDiff,aC,cV,cX,a9 (e _)]
 rw[JA,Vp];simp -implicitDefEqProofs only[↓cJ,↓cK,↓bY,↓bl,↓aB,↓aF,↓ax,↓aG,↓aM,↓aN,↓ay,↓aH,↓aE,↓aV,↓aZ,↓ba,↓ds,↓aA,↓bu,↓b4,↓c4,↓cc,↓cd,↓b5,↓cf,↓cg,↓ch,↓ci,↓cj,↓ck,↓bw,↓bx,↓bz,↓c5,↓c6,↓c7,↓c8,↓c9,↓da,↓db,↓dc,↓dd,↓cl,↓cm,↓cn,↓fp,↓fz,↓fO,↓bE,↓cA,↓bm,↓c1,↓ca,↓cF,↓cU,↓de,↓a0,↓aO,↓a1,↓aS,↓aD,↓a2,↓cP,↓bV,↓b6,↓co,↓cp,↓cq,↓cr,↓ct,↓cv,↓cw,↓cx,bL,dK,List.cons_append,List.nil_append,b1,decide_eq_false_iff_not,ite_not,↓reduceIte,a7,aI,bc,bA,eW,ed,ee,bg,bP,cy,Nat.reduceAdd,List.all_cons,List.all_nil,dx,dh,dz,dT,bD,↓bb,Nat.reduceLeDiff,aC,cV,cX,a9 (q _)]
end
end Go.gw
end
section
namespace Go.gw
open Go.Ab Go.hK
theorem sG:∀(p e:List aX) (x:aX) (q:List aX),jG e (p++x::q)=true→wf (e++p) x=true
 |[],e,x,q,h=>by rw[List.nil_append,jG,bn] at h;rw[oJ];exact h.1
 |y::p,e,x,q,h=>by
  rw[List.cons_append,jG,bn] at h
  have:=sG p (e++[y]) x q h.2
  rwa [ly] at this
theorem Pk(op:Int):hs op=0∨hs op=1∨hs op=2∨hs op=3:=by
 unfold hs;split
 ·exact .inr (.inl rfl)
 ·split
  ·exact .inr (.inr (.inl rfl))
  ·split
   ·exact .inr (.inr (.inr rfl))
   ·exact .inl rfl
theorem Pl{l pre rest:List aX}(bK:l=pre++rest)(hw:jG [] l=true):∀o∈pre,hs o.op≠0:=by intro o e;obtain⟨p,q,r⟩:=List.append_of_mem e;have h:=sG p [] o (q++rest) (by rw[←List.cons_append,←ly,←r,←bK];exact hw);unfold wf at h;simp -implicitDefEqProofs only[bn,b1] at h;exact h.1.1.1
theorem J0{l:List aX}(h:hl l=0):jG [] l=true∧l.length≤40:=by
 unfold hl at h;cases hw:jG [] l with
 |false=>rw[hw] at h;simp at h
 |true=>
  rw[hw] at h;simp -implicitDefEqProofs only[b2] at h;split at h
  ·cases h
  ·rename_i au;exact⟨rfl,by omega⟩
end Go.gw
end
section
namespace Go.gw
open Go.Ab
def gy(x n:Int):Int:=(if x<0 then -(x+1) else x)%n
theorem mh{x n:Int}(h:0<n):0≤gy x n∧gy x n<n:=⟨Int.emod_nonneg _ (by omega),Int.emod_lt_of_pos _ h⟩
def mK(want r:Int):Bool:=decide (r=want)||(decide (want=0)&&decide (r≠1))
def jo(want:Int):List aX→Nat→List Int
 |[],_=>[]
 |x::l,i=>if mK want (hs x.op)=true then(i:Int)::jo want l (i+1) else jo want l (i+1)
def kF(l:List aX)(want n:Int):Int:=if(jo want l 0).length=0 then -1 else(jo want l 0).getD (gy n (jo want l 0).length).toNat 0
theorem x5(want:Int):∀(l:List aX) (i:Nat) (a:Int),a∈jo want l i→∃(j:Nat) (x:aX),a=((i+j:Nat):Int)∧l[j]? =some x∧mK want (hs x.op)=true
 |[],_,a,h=>by cases h
 |x::l,i,a,h=>by
  have rest:a∈jo want l (i+1)→∃(j:Nat) (kH:aX),a=((i+j:Nat):Int)∧(x::l)[j]? =some kH∧mK want (hs kH.op)=true:=fun h=>by obtain⟨j,y,au,az,b3⟩:=x5 want l (i+1) a h;exact⟨j+1,y,by omega,by simpa using az,b3⟩
  unfold jo at h;split at h
  ·rename_i bB;rcases List.mem_cons.1 h with rfl |h
   ·exact⟨0,x,by omega,rfl,bB⟩
   ·exact rest h
  ·exact rest h
section
variable(G:Nat→af)(X:Nat→List af→ag→ah)
theorem sd(x n:Int)(dp:0<n)(a8: -9223372036854775808≤x∧x≤9223372036854775807)(s:ag):aL aK G X 14 [I x,I n] s=.ok (I (gy x n)) s:=by
 have fe:n≠0:=by omega
 rw[JH,Vw];unfold gy;by_cases h:x<0
 ·have q:IntKind.wrap .i64 (x+1)=x+1:=eD _ (by omega) (by omega);have r:IntKind.wrap .i64 (0-(x+1))= -(x+1):=by rw[eD _ (by omega) (by omega)];omega
  have e:(-(x+1)).tmod n=(-(x+1))%n:=Int.tmod_eq_emod_of_nonneg (by omega);rw[if_pos h];simp -implicitDefEqProofs only[↓cJ,↓cK,↓bY,↓bl,↓aB,↓aF,↓ax,↓aG,↓aM,↓aN,↓ay,↓aH,↓aE,↓aV,↓aZ,↓ba,↓ds,↓aA,↓bu,↓b4,↓c4,↓cc,↓cd,↓b5,↓cf,↓cg,↓ch,↓ci,↓cj,↓ck,↓bw,↓bx,↓bz,↓c5,↓c6,↓c7,↓c8,↓c9,↓da,↓db,↓dc,↓dd,↓cl,↓cm,↓cn,↓fp,↓fz,↓fO,↓bE,↓cA,↓bm,↓c1,↓ca,↓cF,↓cU,↓de,↓a0,↓aO,↓a1,↓aS,↓aD,↓a2,↓cP,↓bV,↓b6,↓co,↓cp,↓cq,↓cr,↓ct,↓cv,↓cw,↓cx,bL,dK,List.cons_append,List.nil_append,b1,decide_eq_false_iff_not,ite_not,↓reduceIte,a7,aI,bc,bA,eW,ed,ee,bg,bP,cy,Nat.reduceAdd,List.all_cons,List.all_nil,dx,dh,dz,dT,bD,↓bb,Nat.reduceLeDiff,aC,cV,cX,eq_true h,dG,q,r,v3,↓sa G X _ _ _ fe,e]
 ·have e:x.tmod n=x%n:=Int.tmod_eq_emod_of_nonneg (by omega);rw[if_neg h];simp -implicitDefEqProofs only[↓cJ,↓cK,↓bY,↓bl,↓aB,↓aF,↓ax,↓aG,↓aM,↓aN,↓ay,↓aH,↓aE,↓aV,↓aZ,↓ba,↓ds,↓aA,↓bu,↓b4,↓c4,↓cc,↓cd,↓b5,↓cf,↓cg,↓ch,↓ci,↓cj,↓ck,↓bw,↓bx,↓bz,↓c5,↓c6,↓c7,↓c8,↓c9,↓da,↓db,↓dc,↓dd,↓cl,↓cm,↓cn,↓fp,↓fz,↓fO,↓bE,↓cA,↓bm,↓c1,↓ca,↓cF,↓cU,↓de,↓a0,↓aO,↓a1,↓aS,↓aD,↓a2,↓cP,↓bV,↓b6,↓co,↓cp,↓cq,↓cr,↓ct,↓cv,↓cw,↓cx,bL,dK,List.cons_append,List.nil_append,b1,decide_eq_false_iff_not,ite_not,↓reduceIte,a7,aI,bc,bA,eW,ed,ee,bg,bP,cy,Nat.reduceAdd,List.all_cons,List.all_nil,dx,dh,dz,dT,bD,↓bb,Nat.reduceLeDiff,aC,cV,cX,eq_false h,dy,bW,v3,↓sa G X _ _ _ fe,e]
end
section
variable(G:Nat→af)(X:Nat→List af→ag→ah)
def wt(F:List Int)(n:Int):Int:=if F.length=0 then -1 else F.getD (gy n F.length).toNat 0
theorem Ft(F:List Int)(g':fi)(n:Int)(dp: -9223372036854775808≤n∧n≤9223372036854775807)(h9:F.length≤1000)(s S:ag)(h:Child s S):zq (aU aK G X) (I n) (.bG 1 (F.map I) g') S=.ok (I (wt F n)) s:=by
 have e:=fun n=>ir (T:=aK) (G:=G) (X:=X) h .i64 n
 rw[EF,aE,eG,bE];unfold wt;by_cases eZ:F.length=0
 ·rw[dY (by omega),eo,if_pos eZ];exact e _
 ·have fC:(0:Int)<(F.length:Int):=by omega
  have aT:=mh (x:=n) fC;have xr:=sd G X n F.length fC dp S;have q:(gy n F.length).toNat<F.length:=by omega
  have a8:(F.map I)[(gy n F.length).toNat]? =some (I (F.getD (gy n F.length).toNat 0)):=by simp [hy,eP q,List.getD_eq_getElem?_getD]
  have r:=fun(k:bf)=>FL (T:=aK) (G:=G) (X:=X) (s:=S) (k:=k) 1 _ g' .i64 (gy n F.length) _ aT.1 a8
  rw[cL (by omega),ev,if_neg eZ,EE,aE,eG,aI,aI,a9 xr,r];exact(ba _ []).trans (e _)
theorem Fu(l:List aX)(g:fi)(want n:Int)(dp: -9223372036854775808≤n∧n≤9223372036854775807)(bK:l.length≤1000)(s:ag):∀(rest pre:List aX) (acc:List Int) (g':fi) (S:ag),l=pre++rest→acc.length≤pre.length→Child s S→gq S g' acc.length→
  ua (aU aK G X) (b7 l g) (I want) (I n) (.bG 1 (acc.map I) g') (.int .i64 (pre.length:Int)) S=.ok (I (wt (acc++jo want rest pre.length) n)) s:=by
 intro rest
 induction rest with
 |nil=>
  intro pre acc g' S h A q cC;have e:(l.map aX.enc).length=l.length:=eG ..;have B:pre.length=l.length:=by rw[h];simp
  rw[v7,aE,e,bm,cL (by omega),ev,Ft G X acc g' n dp (by omega) s S q];simp [jo]
 |cons x rest r=>
  intro pre acc g' S h A q cC;have e:(l.map aX.enc).length=l.length:=eG ..;have B:pre.length<l.length:=by rw[h];simp
  have ex:(l.map aX.enc)[pre.length]? =some x.enc:=by rw[h];simp
  have F:=fun(k:bf)=>wi G X S k 12 _ g .i64 pre.length _ ex
  have H:∀K:bf,(aU aK G X).ar S K none (.bI (x.enc.cells.drop 1))=K (I x.op) S:=fun K=>rfl
  have yX:=Ir G X x.op S;have hex:∀K:bf,(aU aK G X).bJ S K 0 (oE x.op)=K (iV (gA x.op) (r8 x.op)) S:=fun K=>k5 _ _
  have J:∀K:bf,(aU aK G X).bJ S K 1 (oE x.op)=K (I (hs x.op)) S:=fun K=>k6 _ _ _
  have L:∀K:bf,(aU aK G X).bJ S K 2 (oE x.op)=K (.bool (hL x.op)) S:=fun K=>vn _ _ _ _
  have u:=fun S k=>nn G X S k pre.length (by omega)
  have no:mK want (hs x.op)=false→rZ (aU aK G X) (b7 l g) (I want) (I n) (.bG 1 (acc.map I) g') (.int .i64 (pre.length:Int)) S=.ok (I (wt (acc++jo want (x::rest) pre.length) n)) s:=fun bB=>by
   rw[v5,u]
   have:=r (pre++[x]) acc g' S (by rw[h];simp) (by simp;omega) q cC;rw[fJ,List.length_singleton] at this;rw[this];simp [jo,bB]
  have y:mK want (hs x.op)=true→(aU aK G X).be S (fun M s=>(aU aK G X).gd s (fun N s=>rZ (aU aK G X) (b7 l g) (I want) (I n) N (.int .i64 (pre.length:Int)) s) 1 8 (some (.l 0)) (.bG 1 (acc.map I) g') M) 1 [.int .i64 (pre.length:Int)]=.ok (I (wt (acc++jo want (x::rest) pre.length) n)) s:=fun bB=>by
   rw[xN];refine pz (new:=[I (pre.length:Int)]) (by simpa using cC) (by simp) (by simp;omega) rfl (fun gF O U au az b3 V=>?_);rw[v5,u]
   have:=r (pre++[x]) (acc++[(pre.length:Int)]) gF O (by rw[h];simp) (by simp;omega) (V.child q) (by simpa using U);rw[fJ,List.length_singleton] at this;rw[List.map_append] at this;refine this.trans ?_;simp [jo,bB]
  rw[v7,aE,e,bm,dY (by omega),eo,ED,F,ds,H,aI,a9 yX,hex,J,L,bE];by_cases au:hs x.op=want
  ·rw[dY au];simp -implicitDefEqProofs only[gQ,fv,eo,bU];exact y (by simp [mK,au])
  ·rw[cL au];simp -implicitDefEqProofs only[dM,bE];by_cases az:want=0
   ·simp -implicitDefEqProofs only[dY az,fQ,cA];by_cases b3:hs x.op=1
    ·simp -implicitDefEqProofs only[cL (show¬¬hs x.op=1 by omega),fv,eJ,ev];exact no (by simp [mK,au,az,b3])
    ·simp -implicitDefEqProofs only[dY b3,fv,eJ,eo];exact y (by simp [mK,az,b3])
   ·simp -implicitDefEqProofs only[cL az,ha,bU,eJ,ev];exact no (by simp [mK,au,az])
theorem V4(l:List aX)(g:fi)(want n:Int)(dp: -9223372036854775808≤n∧n≤9223372036854775807)(bK:l.length≤1000)(s:ag):aL aK G X 35 [b7 l g,I want,I n] s=.ok (I (kF l want n)) s:=by
 rw[JI,Vx]
 have:=Fu G X l g want n dp bK s l [] [] .nil s.aj rfl (aC _) (Child.aj s) .nil;exact this
end
end Go.gw
end
section
namespace Go.gw
open Go.Ab Go.hK
set_option maxRecDepth 1000000
abbrev J1:ag:={own:=[],up:=[],ro:=[]}
def J2:List af→Option (List Nat)
 |[]=>some []
 |.int .u32 n::l=>if 0≤n∧n<4294967296 then(J2 l).map (n.toNat:: ·) else none
 |_::_=>none
def V5(m:List Nat):fi→Bool
 |.dB _=>false
 |.nil=>m.isEmpty
 |_=>true
structure fI.zM (n:fI):Prop where
 nil:n.g=.nil→n.hg=[]
 len:n.hg.length≤100000
def aa6(r:ah):Bool:=
 match r with
 |.ok (.ea [.agg [.bool aa7,.bG 1 e vo,.bool jA,.bG 1 As ho],.int .i64 0]) _=>
  match J2 e,J2 As with
  |some a,some b=>V5 a vo&&V5 b ho&&Nat.ble a.length 1000&&Nat.ble b.length 1000&&m7 aa7 jA a b
  |_,_=>false
 |_=>false
structure aa8 (v:af) (hr bN:fI):Prop where
 v:v=.agg [.bool hr.neg,hr.v,.bool bN.neg,bN.v]
 AC:j9 hr
 gz:j9 bN
 valid:iU hr bN=true
 aa7:hr.zM
 jA:bN.zM
theorem wu:∀{m:List af} {a:List Nat},J2 m=some a→m=a.map U∧dR a
 |[],a,h=>by simp only[J2,bj] at h;subst h;exact⟨rfl,fun x a8=>by cases a8⟩
 |e::m,a,h=>by
  unfold J2 at h;split at h
  ·rename_i q;cases q
  ·rename_i n l q;cases q;split at h
   ·rename_i dp;obtain⟨l',au,az⟩:=Option.map_eq_some_iff.1 h;subst az;obtain⟨b3,dJ⟩:=wu au;refine⟨?_,fun x a8=>?_⟩
    ·rw[fK,←b3];simp [U,Int.toNat_of_nonneg dp.1]
    ·rcases List.mem_cons.1 a8 with rfl |a8
     ·rw[kP];omega
     ·exact dJ x a8
   ·cases h
  ·cases h
theorem IH{m:List Nat}{g:fi}(h:V5 m g=true):∀a,g≠.dB a:=fun a e=>by subst e;cases h
theorem II{m:List Nat}{g:fi}(h:V5 m g=true):g=.nil→m=[]:=fun e=>by subst e;exact List.isEmpty_iff.1 h
theorem Pm{r:ah}(h:aa6 r=true):∃v s' hr bN,r=.ok (.ea [v,.int .i64 0]) s'∧aa8 v hr bN:=by
 unfold aa6 at h;split at h
 ·rename_i aa7 H vo jA As ho s';split at h
  ·rename_i a b e q;simp only[bn] at h;obtain⟨⟨⟨⟨au,az⟩,b3⟩,dJ⟩,u⟩:=h;obtain⟨y,A⟩:=wu e;obtain⟨B,F⟩:=wu q;have I:=d0 b3;have J:=d0 dJ;exact⟨_,s',⟨aa7,a,vo⟩,⟨jA,b,ho⟩,rfl,by rw[y,B];rfl,⟨IH au,A,by show a.length<_;omega⟩,⟨IH az,F,by show b.length<_;omega⟩,u,⟨II au,by show a.length≤_;omega⟩,⟨II az,by show b.length≤_;omega⟩⟩
  ·cases h
 ·cases h
section
variable(G:Nat→af)(X:Nat→List af→ag→ah)
noncomputable def gR(a:Nat):Bool:=(List.range 4).all fun b=>aa6 (call aW.full aK G X 200 46 [I ((a:Int)-16),I ((b:Int)+1)] J1)
end
end Go.gw
end
